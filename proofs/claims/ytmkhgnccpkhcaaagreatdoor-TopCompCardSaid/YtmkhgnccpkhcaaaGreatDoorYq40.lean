import Derived.Test.YtmkhgnccpkhcaaaGreatDoorYq38
set_option linter.unusedVariables false
set_option linter.unusedSimpArgs false
set_option maxRecDepth 100000
set_option maxHeartbeats 8000000
namespace Go.Proofs.YtmkhgnccpkhcaaaGreatDoor
open Go Go.RowKit Go.Shelf
theorem wpIn_rangeFunc_box {F:Fence} {n:Nat} {P:Program} {α:Type} {g:Operand} {ps:Array Tmp} {assign body:Code} {Q:Exit→Act→World→Prop} {a:Act} {w:World}
 (hro:F.round=none) (h1:1≤n) {gf:Nat} {lb:Array Value} (hg:a.eval g=.func (.func gf) #[] lb) (hFg:F.fn gf) (eg:∀ args w,(callFunc gf args).run P w=.ok (.enter gf args) w)
 {encs:α→Array Value} {Kp:World→World→Prop} {S Sp:List α→Prop} {N:Nat} {w0:World} (hseq:SeqStopsK F (n - 1) P gf lb encs Kp S Sp N w0)
 (hKt:∀ {A B C:World},Kp A B→Kp B C→Kp A C) (hKb:∀ (W:World) (l:Nat) (o o':Obj),w.heap.size≤l→W.heap[l]? = some o→o.isCells=false→o.isWalk=false→Kp W (W.putObj l o')) (hb0:Below w0.heap.size w0 w) (hps:∀ x,(encs x).size=ps.size)
 (I:List α→World→Prop) (Ix:Code→List α→World→Prop) (hI:OwnFrom w.heap.size I) (hIx:∀ c,OwnFrom w.heap.size (Ix c)) (h0:I [] w)
 (hsz:∀ pre W,I pre W→w.heap.size≤W.heap.size) (hKa:∀ pre W (o:Obj),I pre W→Kp W (W.alloc o)) (cs:α→Array Value) (T:TypeId) (A:α→Nat→Act)
 (hassign:∀ (l:Nat) (pre:List α) (x:α) (W:World) (K:Act→World→Prop),I pre W→(∀ Bx,Bx=W.heap.size→K (A x Bx) (W.alloc (.cells (cs x) T))) →
  assign.wpIn (F.inRound l) (n - 1 - 1) P (Exit.then K (fun _ _ _=>False)) { tmps:=(ps.zip (encs x)).foldl (fun t (p,v)=>t.setIfInBounds p v) a.tmps,defers:=[] } W)
 (hbody:∀ (l:Nat) (pre:List α) (x:α) (Bx:Nat) (W:World),w.heap.size≤Bx→W.heap[Bx]? = some (.cells (cs x) T)→I pre W→pre.length<N→body.wpIn (F.inRound l) (n - 1 - 1) P (ownPostG w.heap.size Kp I Ix (pre ++ [x]) W) (A x Bx) W)
 (hdone:∀ (D:Nat) (xs:List α) (W:World),w.heap.size≤D→S xs→I xs W→W.heap[D]? = some (.deferred (some []))→Q .normal { a with defers:={ target:=.collected D,args:=#[] } :: a.defers } W)
 (hstop:∀ (D:Nat) (c:Code) (pre:List α) (W:World),w.heap.size≤D→Sp pre→Ix c pre W→W.heap[D]? = some (.deferred (some []))→c.wpIn F n P Q { a with defers:={ target:=.collected D,args:=#[] } :: a.defers } W) :
 (Code.rangeFunc g ps assign body).wpIn F n P Q a w:=
 wpIn_rangeFunc_ownH hro h1 hg hFg eg hseq hKt hKb hb0 hps I Ix hI hIx h0 (fun x a' W=>∃ Bx,w.heap.size≤Bx∧W.heap[Bx]? = some (.cells (cs x) T)∧a'=A x Bx)
  (fun x a' _ X Y row hs hg hr=>by
   obtain⟨Bx,h1,h2,h3⟩:=hs
   refine⟨Bx,h1,(hg.block Bx (Array.getElem?_eq_some_iff.1 h2).1 (fun e=>?_)).trans h2,h3⟩
   obtain⟨_,o,ho,hc⟩:=hr Bx e.symm
   rw[h2] at ho;cases ho;cases hc)
  (fun l pre x W K hi hK=>hassign l pre x W K hi fun Bx e=>hK _ _ ((KeepsOthers.alloc _ _).from _) (hKa pre W _ hi) (hI.alloc _ hi) ⟨Bx,by rw[e];exact hsz pre W hi,by rw[e];exact World.alloc_heap_new W _,rfl⟩)
  (fun l pre x a' W _ _ hi hA hlt=>by
   obtain⟨Bx,h1,h2,rfl⟩:=hA
   exact hbody l pre x Bx W h1 h2 hi hlt)
  hdone hstop
def KeepR (lo hi:Nat) (W W':World):Prop:=W.heap.size≤W'.heap.size∧∀ k,lo≤k→k<hi→W'.heap[k]? = W.heap[k]?
theorem keepR_t {lo hi:Nat} {A B C:World} (h:KeepR lo hi A B) (k:KeepR lo hi B C):KeepR lo hi A C:=⟨Nat.le_trans h.1 k.1,fun i a b=>(k.2 i a b).trans (h.2 i a b)⟩
theorem KeepR.refl (lo hi:Nat) (W:World):KeepR lo hi W W:=⟨Nat.le_refl _,fun _ _ _=>rfl⟩
theorem keepR_b {lo hi n:Nat} (hn:hi≤n) (W:World) (l:Nat) (o o':Obj) (hl:n≤l) (h:W.heap[l]? = some o):KeepR lo hi W (W.putObj l o'):=
 ⟨by simp[World.putObj],fun k a b=>World.putObj_heap_other (by omega)⟩
theorem keepR_alloc {lo hi:Nat} (W:World) (o:Obj) (h:hi≤W.heap.size):KeepR lo hi W (W.alloc o):=
 ⟨by simp,fun k a b=>Below.heap_alloc W o k (by omega)⟩
theorem keepR_below {lo hi:Nat} {W W':World} (hb:Below W.heap.size W W') (h:hi≤W.heap.size):KeepR lo hi W W':=⟨hb.size,fun k a b=>hb.block k (by omega)⟩
theorem KeepR.obj {lo hi:Nat} {W W':World} (h:KeepR lo hi W W') {k:Nat} (h1:lo≤k) (h2:k<hi) {o:Obj} (ho:W.heap[k]? = some o):W'.heap[k]? = some o:=(h.2 k h1 h2).trans ho
def unitsY (n:Int→Nat) (a:Int):Nat→List (Int × Int)
 | 0=>[]
 | k+1=>unitsY n a k ++ (List.range (n (a+(k:Int)))).map fun j:Nat=>(a+(k:Int),(j:Int)+1)
def upTo (n:Int→Nat) (a:Int) (k i:Nat):List (Int × Int):=unitsY n a k ++ (List.range i).map fun j:Nat=>(a+(k:Int),(j:Int)+1)
theorem upTo_zero (n:Int→Nat) (a:Int) (k:Nat):upTo n a k 0=unitsY n a k:=by simp[upTo]
theorem upTo_succ (n:Int→Nat) (a:Int) (k i:Nat):upTo n a k (i+1)=upTo n a k i ++ [(a+(k:Int),(i:Int)+1)]:=by
 unfold upTo
 rw[List.range_succ,List.map_append,List.append_assoc]
 rfl
theorem upTo_full (n:Int→Nat) (a:Int) (k:Nat):upTo n a k (n (a+(k:Int)))=unitsY n a (k+1):=rfl
theorem unitsY_mono (n:Int→Nat) (a:Int) (k:Nat):∀ m,k≤m→(unitsY n a k).length≤(unitsY n a m).length
 | 0,h=>by
  obtain rfl:k=0:=(by omega)
  exact Nat.le_refl _
 | m+1,h=>by
  by_cases e:k=m+1
  · rw[e];exact Nat.le_refl _
  · refine Nat.le_trans (unitsY_mono n a k m (by omega)) ?_
    show _≤(unitsY n a m ++ _).length
    rw[List.length_append];omega
theorem upTo_lt (n:Int→Nat) (a:Int) (k i m:Nat) (hk:k<m) (hi:i<n (a+(k:Int))):(upTo n a k i).length<(unitsY n a m).length:=by
 have:=unitsY_mono n a (k+1) m (by omega)
 rw[← upTo_full] at this
 unfold upTo at *
 rw[List.length_append,List.length_map,List.length_range] at *
 omega
theorem unitsY_len (n:Int→Nat) (a:Int) (M:Nat) (hn:∀ y,n y≤M):∀ m,(unitsY n a m).length≤M*m
 | 0=>by simp[unitsY]
 | m+1=>by
  show (unitsY n a m ++ _).length≤_
  rw[List.length_append,List.length_map,List.length_range,Nat.mul_add]
  have:=unitsY_len n a M hn m
  have:=hn (a+(m:Int))
  omega
end Go.Proofs.YtmkhgnccpkhcaaaGreatDoor
namespace Go.Proofs.YtmkhgnccpkhcaaaGreatDoor
open Go Go.RowKit Go.Shelf
attribute [local go_sem] Oper.semAt_some
def encU (lv:Int) (x:Int × Int):Array Value:=#[.agg #[.int .i64 lv,.int .i64 x.1,.int .i64 x.2],.int .i64 0]
theorem each_any (c:CalI) (lv a b:Int) (w:World):Calls Tryz.prog 233 #[calA c,.int .i64 lv,.int .i64 a,.int .i64 b] w fun e w'=>
 e=.returned (.func (.func 267) #[] #[.pointer (some ⟨w.heap.size+1+1,0,none⟩),.pointer (some ⟨w.heap.size+1+1+1,0,none⟩),.pointer (some ⟨w.heap.size,0,none⟩),.pointer (some ⟨w.heap.size+1,0,none⟩)]) ∧
 w'=(((w.alloc (calC c)).alloc (.cells #[.int .i64 lv] 3)).alloc (.cells #[.int .i64 a] 3)).alloc (.cells #[.int .i64 b] 3):=by
 go_enter Tryz.func233,Tryz.ntmps233
 go_wp2_with fail
 go_ret
 exact⟨rfl,rfl⟩
theorem each_stops (c:CalI) (lv a b:Int) (n:Int→Nat) (m mm:Nat) (B:Nat) (w:World) (hmm:2≤mm) (hm:(m:Int)=b - a+1) (ha:-100000≤a∧a≤100000) (hb':-100000≤b∧b≤100000) (hn:∀ y,n y≤4096)
 (hc:∀ y,a≤y→y≤b→∀ w,Calls Tryz.prog 207 #[calA c,.int .i64 lv,.int .i64 y] w fun e w'=>e=.returned (.tuple #[.int .i64 (n y:Nat),.int .i64 0])∧Below w.heap.size w w')
 (h0:w.heap[B]? = some (calC c)) (h1:w.heap[B+1]? = some (.cells #[.int .i64 lv] 3)) (h2:w.heap[B+1+1]? = some (.cells #[.int .i64 a] 3)) (h3:w.heap[B+1+1+1]? = some (.cells #[.int .i64 b] 3)) :
 SeqStopsK Fence.wide mm Tryz.prog 267 #[.pointer (some ⟨B+1+1,0,none⟩),.pointer (some ⟨B+1+1+1,0,none⟩),.pointer (some ⟨B,0,none⟩),.pointer (some ⟨B+1,0,none⟩)] (encU lv) (KeepR B (B+4)) (fun xs=>xs=unitsY n a m) (fun _=>True) (unitsY n a m).length w:=by
 have HC:=Lib.hid hc
 have HN:=Lib.hid hn
 clear hc hn
 intro l J Jx W hW hJ hJx hY hJ0
 refine callsIn_of_wp Tryz.func267 rfl trivial ?_ rfl
 simp only[Tryz.ntmps267,List.size_toArray,List.length_cons,List.length_nil,Nat.reduceAdd,Nat.reduceSub,Array.replicate_succ,Array.replicate_zero,List.push_toArray,List.append_toArray,List.nil_append,List.cons_append]
 replace h0:=obj_go hW h0
 replace h1:=obj_go hW h1
 replace h2:=obj_go hW h2
 replace h3:=obj_go hW h3
 have g2:=obj_cell h2 0
 have g2l:=obj_lt h2
 have h1m:1≤mm:=by omega
 have h1m':1≤mm - 1:=by omega
 gi_wp2
 clear g2 g2l
 gi_loopw [6] (fun v wr=>∃ k:Nat,k≤m∧v=.int .i64 (a+(k:Int))∧J (unitsY n a k) wr∧Aside (KeepR B (B+4) W wr)) (fun v _=>(b+1 - intOf v).toNat)
 case atStart=>exact⟨0,by omega,by simp,hJ0,KeepR.refl _ _ _⟩
 case round=>
  obtain⟨k,hk,rfl,hJk,KC⟩:=hrel
  have o0:=KC.out.obj (by omega) (by omega) h0
  have o1:=KC.out.obj (by omega) (by omega) h1
  have o2:=KC.out.obj (by omega) (by omega) h2
  have o3:=KC.out.obj (by omega) (by omega) h3
  obtain⟨lb,fz,d0,d1,d2,d3,d4,d5,d6,d7,d8,d9,d10,d11,d12,d13⟩:=cal_cells o0
  have e1:=obj_cell o1 0
  have e3:=obj_cell o3 0
  have l1:=obj_lt o1
  have l3:=obj_lt o3
  by_cases hlt:k<m
  · have hz:a+(k:Int)≤b:=by omega
    have CN:=Lib.hid (HC.out (a+(k:Int)) (by omega) hz)
    gi_wp2_with fail
    refine⟨trivial,?_⟩
    refine (callsIn_wide.2 (CN.out _)).mono ?_
    rintro e w1 ⟨rfl,hb1⟩
    have hJ1:=hJ _ _ _ none hJk ⟨hb1.os,hb1.tape,hb1.output,hb1.size,fun k hk _=>hb1.block k hk⟩ (fun r e=>by cases e)
    have KC1:=keepR_t KC.out (keepR_below (lo:=B) (hi:=B+4) hb1 (by omega))
    have hnk:=HN.out (a+(k:Int))
    clear hb1 hJk KC o0 o1 o2 o3 lb fz d0 d1 d2 d3 d4 d5 d6 d7 d8 d9 d10 d11 d12 d13 e1 e3 l1 l3
    have u0:=upTo_zero n a k
    have UF:=Lib.hid (upTo_full n a k)
    have UL:=Lib.hid (fun i=>upTo_lt n a k i m hlt)
    obtain⟨q,hq⟩ : ∃ q,q=n (a+(k:Int)):=⟨_,rfl⟩
    rw[← hq] at UF UL hnk ⊢
    clear hq
    gi_wp2_with fail
    gi_loopw [30] (fun v wr=>∃ i:Nat,i≤q∧v=.int .i64 (i:Int)∧J (upTo n a k i) wr∧Aside (KeepR B (B+4) W wr)) (fun v _=>q - (intOf v).toNat)
    case atStart=>exact⟨0,by omega,rfl,by rw[u0];exact hJ1,KC1⟩
    case round=>
     clear hJ1 KC1
     obtain⟨i,hi,rfl,hJi,KC⟩:=hrel
     by_cases hil:i<q
     · have hzi:(i:Int)<(q:Int):=by omega
       obtain⟨fn,tmps,assign,body,hy,hR⟩:=hY (upTo n a k i) (a+(k:Int),(i:Int)+1) wr hJi (UL.out i hil)
       rw[← upTo_succ] at hR
       have o1:=KC.out.obj (by omega) (by omega) h1
       have e1:=obj_cell o1 0
       have l1:=obj_lt o1
       dsimp only[encU] at hy
       gi_wp2
       refine hR.mono ?_
       rintro e W3 (⟨rfl,hJ3,hk3⟩|⟨rfl,hJx3⟩)
       · gi_wp2
         go_roundw
         case rel=>exact⟨i+1,by omega,by go_num,hJ3,keepR_t KC.out hk3⟩
         case measure=>simp[intOf];omega
       · gi_wp2
         refine bodyPost_ret (results_none rfl _ _ _) rfl ?_
         exact⟨⟨_,rfl⟩,.inr ⟨_,trivial,hJx3⟩⟩
     · obtain rfl:i=q:=by omega
       have hzi:¬ ((i:Int)<(i:Int)):=by omega
       rw[UF.out] at hJi
       gi_wp2
       go_roundw
       case rel=>exact⟨k+1,by omega,by go_num,hJi,KC⟩
       case measure=>simp[intOf];omega
  · obtain rfl:k=m:=by omega
    have hz:¬ (a+(k:Int)≤b):=by omega
    gi_wp2
    go_end0
    exact⟨⟨_,rfl⟩,.inl hJk⟩
end Go.Proofs.YtmkhgnccpkhcaaaGreatDoor
namespace Go.Proofs.YtmkhgnccpkhcaaaGreatDoor
open Go Go.RowKit Go.Shelf
attribute [local go_sem] Oper.semAt_some
theorem wpListIn_push {α:Type} {f:α→List Value} {F:Fence} {nn:Nat} {P:Program} {W:World} {ops:Array Oper} {rest:List Oper} {o:Oper} {a:Act} {Q:Exit→Act→World→Prop} (hgd:o.guard=none) (s x:Operand) (t:TypeId)
 (ho:o.op=.call { callee:=.builtin .append,args:=#[s,x],argTypes:=#[t,t] })
 (base:Nat) (e:TypeId) {z:Value} {size bytes:Nat} (ht:P.underlying t=some (.slice e)) (hinf:(P.info? e).map (fun i=>(i.zero,i.size,i.bytes))=some (some z,size,bytes))
 (hzs:z.cells.size=size) (hsz:0<size) (hf:∀ x,(f x).length=size)
 {v:Value} {l:List α} (hs:a.eval s=v) (hown:OwnC W base e size v f l) (y:α) {T:TypeId} {cs:Array Value}
 (hx:a.eval x=.slice (some ⟨W.heap.size,0,none⟩) 1 1) (hcs:cs=(f y).toArray) (h1:∀ u ∈ f y,u.oneCell'=true)
 (h63:l.length+1≤maxLen) (hbytes:(l.length+1)*bytes≤140737488355328) (hbase2:base≤W.heap.size)
 (h:∀ v' w',OwnC w' base e size v' f (l ++ [y])→(W.alloc (.cells cs T)).grownBy w' v.ownBlock→wpListIn F nn P ops Q rest (a.put o.dst v') w'):wpListIn F nn P ops Q (o :: rest) a (W.alloc (.cells cs T)):=by
 subst hcs
 obtain⟨i,hi,hz0,hz1,hz2⟩:=info_parts hinf
 refine wpListIn_append_own _ hgd s x t ho base e i z size bytes ht hi hz0 hz1 hz2 hzs hsz v l.length (l.flatMap f) hs (World.ownsRow.alloc (h:=hown) _) ⟨W.heap.size,0,none⟩ 1 1 (f y) hx (by rw[hf];omega) ?_ h1 h63 hbytes (by simp;omega) ?_
 · intro j u hj
   have e:((⟨W.heap.size,0,none⟩ : Addr).add j)=⟨W.heap.size,j,none⟩:=by simp[Addr.add];intro h;exact h.symm
   rw[e,World.cell?_alloc_new]
   simpa using hj
 · intro v' w' h2 h3 h4
   refine h v' w' ?_ h3
   show w'.ownsRow base e size v' (l ++ [y]).length ((l ++ [y]).flatMap f)
   rw[List.flatMap_append,List.length_append]
   simpa using h2
theorem box_push {W w1 w0:World} {lo hi B:Nat} {t e:TypeId} {size:Nat} {v v':Value} {k m:Nat} {xs ys:List Value} {tmp:Obj}
 (hv:Boxed W B t v) (hte:t≠e) (hrow:W.ownsRow hi e size v k xs) (hsz:hi≤W.heap.size) (hlo:B<lo) (hlh:lo≤hi)
 (hown':w1.ownsRow hi e size v' m ys) (hgrow:(W.alloc tmp).grownBy w1 v.ownBlock) (hb:Below w0.heap.size w0 W) (h0:w0.heap.size≤B) :
 Boxed w1 B t v∧Boxed (w1.setCell ⟨B,0,none⟩ v') B t v'∧(w1.setCell ⟨B,0,none⟩ v').ownsRow hi e size v' m ys∧KeepsOthers W (w1.setCell ⟨B,0,none⟩ v')∧KeepR lo hi W (w1.setCell ⟨B,0,none⟩ v')∧Below w0.heap.size w0 (w1.setCell ⟨B,0,none⟩ v') ∧
  (∀ k o,k<hi→k≠B→W.heap[k]? = some o→(w1.setCell ⟨B,0,none⟩ v').heap[k]? = some o):=by
 have hv1:Boxed w1 B t v:=(hv.alloc tmp).kept hgrow (hv.not_row hte hrow)
 have ow:∀ g,v.ownBlock=some g→hi≤g∧g<W.heap.size:=World.ownsRow.lt (h:=hrow)
 have same:∀ k,k<hi→k≠B→(w1.setCell ⟨B,0,none⟩ v').heap[k]? = W.heap[k]?:=fun k hk hB=>by
  rw[Below.heap_setCell _ _ _ k (by simpa using hB),hgrow.block k (by simp;omega) (fun e=>by have:=(ow k e.symm).1;omega)]
  exact Below.heap_alloc W tmp k (by omega)
 have size1:W.heap.size≤(w1.setCell ⟨B,0,none⟩ v').heap.size:=by
  have:=hgrow.size
  rw[set_size]
  simp at this
  omega
 refine⟨hv1,hv1.set v',hown'.kept (grownBy_setCell' w1 B v') (.inr (hv1.not_row hte hown').symm),?_,⟨size1,fun k a b=>same k b (by omega)⟩,?_,fun k o a b c=>(same k a b).trans c⟩
 · refine ((KeepsOthers.alloc W tmp).trans (KeepsOthers.of_grownBy hgrow fun j o ej hj=>?_)).trans (KeepsOthers.setCell _ _ _)
   rcases (hrow.alloc tmp).2 with ⟨rfl,_⟩|⟨g,cap,cur,rfl,_,hgb,_⟩
   · simp[Value.ownBlock] at ej
   · obtain rfl:g=j:=by simpa [Value.ownBlock] using ej
     rw[hgb] at hj;cases hj;rfl
 · refine bl_setCell ((bl_alloc hb tmp).grown hgrow (bl_alloc hb tmp).size fun j ej=>?_) _ h0
   have:=(ow j ej).1
   omega
theorem cells_own {β:Type} (b:Nat) (o:Obj) (ho:o.isCells=true):Own (fun (_:β) W=>W.heap[b]? = some o):=fun s X Y row hs hg hrow=>(grownBy_keeps_cells hg hrow hs ho).trans hs
def uniL (lv:Int) (x:Int × Int):List Value:=[.int .i64 lv,.int .i64 x.1,.int .i64 x.2]
theorem uniL_len (lv:Int) (x:Int × Int):(uniL lv x).length=3:=rfl
theorem info_uni:(Tryz.prog.info? 42).map (fun i=>(i.zero,i.size,i.bytes))=some (some (.agg #[.int .i64 0,.int .i64 0,.int .i64 0]),3,24):=by kernel_rfl
def keepU (ay ai by_ bi:Int) (x:Int × Int):Bool:=!((x.1 == ay && decide (x.2<ai)) || (x.1 == by_ && decide (bi<x.2)))
def meetsL (ay ai by_ bi:Int) (n:Int→Nat) (m:Nat):List (Int × Int):=(unitsY n ay m).filter (keepU ay ai by_ bi)
def MtI (b0 b2 b3 b4:Nat) (lv ay ai by_ bi:Int) (w:World) (pre:List (Int × Int)) (W:World):Prop:=
 ((∃ v,Boxed W (b3+1) 230 v∧W.ownsRow (b3+1+1+4) 42 3 v (pre.filter (keepU ay ai by_ bi)).length ((pre.filter (keepU ay ai by_ bi)).flatMap (uniL lv)))∧W.heap[b2]? = some (.cells #[.int .i64 lv,.int .i64 ay,.int .i64 ai] 42)∧W.heap[b3]? = some (.cells #[.int .i64 lv,.int .i64 by_,.int .i64 bi] 42)∧W.heap[b0+1+1]? = some (.cells #[.slice none 0 0] 230)∧W.heap[b0+1+1+1]? = some (.cells #[.int .i64 0] 26)∧b4≤W.heap.size)∧Below w.heap.size w W
theorem obj_oth {w:World} {b:Nat} {o:Obj} (h:w.heap[b]? = some o) (p:Addr) (v:Value) (hp:¬ p.block=b):(w.setCell p v).heap[b]? = some o:=by
 rw[Below.heap_setCell _ _ _ b (fun e=>hp e.symm)];exact h
theorem mtI_own {B b0 b2 b3 b4:Nat} {lv ay ai by_ bi:Int} {w:World} (hB:w.heap.size≤B):OwnFrom B (MtI b0 b2 b3 b4 lv ay ai by_ bi w):=
 OwnFrom.and (OwnFrom.and (fun s W W' row hs hg hr=>by
  obtain⟨v,a,b⟩:=hs
  obtain⟨v',a',b',_⟩:=Own.from (holdsRow_own (b3+1+1+4) (b3+1) 230 42 3 (fun pre:List (Int × Int)=>(pre.filter (keepU ay ai by_ bi)).length) (fun pre=>(pre.filter (keepU ay ai by_ bi)).flatMap (uniL lv)) (fun _ _=>True)) B s W W' row ⟨v,a,b,trivial⟩ hg hr
  exact⟨v',a',b'⟩) (OwnFrom.and (Own.from (cells_own _ _ rfl) _) (OwnFrom.and (Own.from (cells_own _ _ rfl) _) (OwnFrom.and (Own.from (cells_own _ _ rfl) _) (OwnFrom.and (Own.from (cells_own _ _ rfl) _) (fun s W W' row hs hg hr=>Nat.le_trans hs hg.size)))))) (ownFrom_below (Nat.le_refl _) hB)
theorem levelled_ok (lv:Int) (w:World) (h1:1≤lv) (h5:lv≤5):Calls Tryz.prog 53 #[.int .i64 lv] w fun e w'=>e=.returned (.bool true)∧w=w':=by
 go_enter Tryz.func53,Tryz.ntmps53
 go_wp2
 go_ret
 exact⟨rfl,rfl⟩
theorem meets_any (c:CalI) (lv f t ay ai by_ bi:Int) (n:Int→Nat) (m:Nat) (w:World) (hs:c.name.size≤maxLen) (h:calB c=true) (l1:1≤lv) (l5:lv≤5) (hft:¬ t<f)
 (hm:(m:Int)=by_ - ay+1) (ha:-100000≤ay∧ay≤100000) (hb:-100000≤by_∧by_≤100000) (hn:∀ y,n y≤4096) (hN:(unitsY n ay m).length≤1000000)
 (hA:∀ w,Calls Tryz.prog 23 #[calA c,.int .i64 f,.int .i64 lv] w fun e w'=>e=.returned (.tuple #[.agg #[.int .i64 lv,.int .i64 ay,.int .i64 ai],.int .i64 0])∧Below w.heap.size w w')
 (hB:∀ w,Calls Tryz.prog 23 #[calA c,.int .i64 t,.int .i64 lv] w fun e w'=>e=.returned (.tuple #[.agg #[.int .i64 lv,.int .i64 by_,.int .i64 bi],.int .i64 0])∧Below w.heap.size w w')
 (hc:∀ y,ay≤y→y≤by_→∀ w,Calls Tryz.prog 207 #[calA c,.int .i64 lv,.int .i64 y] w fun e w'=>e=.returned (.tuple #[.int .i64 (n y:Nat),.int .i64 0])∧Below w.heap.size w w') :
 Calls Tryz.prog 238 #[calA c,.int .i64 lv,.agg #[.int .i64 f,.int .i64 t]] w fun e w'=>∃ v,e=.returned (.tuple #[v,.int .i64 0])∧Below w.heap.size w w'∧OwnC w' w.heap.size 42 3 v (uniL lv) (meetsL ay ai by_ bi n m):=by
 have CK:=fcheck_any c
 rw[h,show argE true=0 from rfl] at CK
 have CK:=Lib.hid (fun w=>CK w hs)
 have LV:=Lib.hid (fun w=>levelled_ok lv w l1 l5)
 have HA:=Lib.hid hA
 have HB:=Lib.hid hB
 have ES:=Lib.hid (fun B W h0 h1 h2 h3=>each_stops c lv ay by_ n m 5 B W (by omega) hm ha hb hn hc h0 h1 h2 h3)
 have HN:=Lib.hid hN
 clear hA hB hc hs h hm hn hN
 refine (callsIn_wide (n:=6)).1 ?_
 refine callsIn_of_wp_marks Tryz.func238 rfl trivial ?_ rfl
 simp only[Tryz.ntmps238,List.size_toArray,List.length_cons,List.length_nil,Nat.reduceAdd,Nat.reduceSub,Array.replicate_succ,Array.replicate_zero,List.push_toArray,List.append_toArray,List.nil_append,List.cons_append]
 gi_wp2_with fail
 refine⟨trivial,?_⟩
 refine (callsIn_wide.2 (CK.out _)).mono ?_
 rintro e w1 ⟨rfl,hb1⟩
 have oc1:=obj_go hb1 (alloc_there (alloc_there (alloc_there (alloc_here w (calC c)) _) _) _)
 have os1:=obj_go hb1 (alloc_there (alloc_there (alloc_here (w.alloc (calC c)) _) _) _)
 have o61:=obj_go hb1 (alloc_there (alloc_here ((w.alloc (calC c)).alloc _) _) _)
 have o71:=obj_go hb1 (alloc_here (((w.alloc (calC c)).alloc _).alloc _) _)
 have B1:=bl_call (bl_alloc (bl_alloc (bl_alloc (bl_alloc (Below.refl w.heap.size w) (calC c)) _) _) _) hb1
 simp only[World.size_alloc] at os1 o61 o71
 clear hb1
 obtain⟨lb,fz,d0,d1,d2,d3,d4,d5,d6,d7,d8,d9,d10,d11,d12,d13⟩:=cal_cells oc1
 have s0:=obj_cell os1 0
 have s1:=obj_cell os1 1
 gi_wp2_with fail
 refine⟨trivial,?_⟩
 refine (callsIn_wide.2 (LV.out _)).mono ?_
 rintro e w1' ⟨rfl,rfl⟩
 gi_wp2_with fail
 refine⟨trivial,?_⟩
 refine (callsIn_wide.2 (HA.out _)).mono ?_
 rintro e w2 ⟨rfl,hb2⟩
 have oc2:=obj_go hb2 oc1
 have os2:=obj_go hb2 os1
 have o62:=obj_go hb2 o61
 have o72:=obj_go hb2 o71
 have B2:=bl_call B1 hb2
 clear hb2 oc1 os1 o61 o71 B1 lb fz d0 d1 d2 d3 d4 d5 d6 d7 d8 d9 d10 d11 d12 d13 s0 s1
 obtain⟨lb,fz,d0,d1,d2,d3,d4,d5,d6,d7,d8,d9,d10,d11,d12,d13⟩:=cal_cells oc2
 have s0:=obj_cell os2 0
 have s1:=obj_cell os2 1
 have sl:=obj_lt os2
 gi_wp2_with fail
 refine⟨trivial,?_⟩
 refine (callsIn_wide.2 (HB.out _)).mono ?_
 rintro e w3 ⟨rfl,hb3⟩
 have oc3:=obj_go hb3 (alloc_there oc2 (.cells #[.int .i64 lv,.int .i64 ay,.int .i64 ai] 42))
 have o63:=obj_go hb3 (alloc_there o62 (.cells #[.int .i64 lv,.int .i64 ay,.int .i64 ai] 42))
 have o73:=obj_go hb3 (alloc_there o72 (.cells #[.int .i64 lv,.int .i64 ay,.int .i64 ai] 42))
 have oa3:=obj_go hb3 (alloc_here w2 (.cells #[.int .i64 lv,.int .i64 ay,.int .i64 ai] 42))
 have B3:=bl_call (bl_alloc B2 (.cells #[.int .i64 lv,.int .i64 ay,.int .i64 ai] 42)) hb3
 have hz2:w.heap.size+1+1+1<w2.heap.size:=obj_lt o72
 have hz3:w2.heap.size<w3.heap.size:=obj_lt oa3
 clear hb3 oc2 os2 o62 o72 B2 lb fz d0 d1 d2 d3 d4 d5 d6 d7 d8 d9 d10 d11 d12 d13 s0 s1 sl
 obtain⟨lb,fz,d0,d1,d2,d3,d4,d5,d6,d7,d8,d9,d10,d11,d12,d13⟩:=cal_cells oc3
 have a1:=obj_cell oa3 1
 gi_wp2_with fail
 refine⟨trivial,?_⟩
 refine (callsIn_wide.2 (each_any c lv ay by_ _)).mono ?_
 rintro e w4 ⟨rfl,hw4⟩
 clear lb fz d0 d1 d2 d3 d4 d5 d6 d7 d8 d9 d10 d11 d12 d13 a1
 obtain⟨Wp,hWp⟩ : ∃ Wp,Wp=(w3.alloc (.cells #[.int .i64 lv,.int .i64 by_,.int .i64 bi] 42)).alloc (.cells #[.slice none 0 0] 230):=⟨_,rfl⟩
 rw[← hWp] at hw4
 have szp:Wp.heap.size=w3.heap.size+1+1:=by rw[hWp];simp
 have o6p:Wp.heap[w.heap.size+1+1]? = some (.cells #[.slice none 0 0] 230):=by rw[hWp];exact alloc_there (alloc_there o63 _) _
 have o7p:Wp.heap[w.heap.size+1+1+1]? = some (.cells #[.int .i64 0] 26):=by rw[hWp];exact alloc_there (alloc_there o73 _) _
 have oap:Wp.heap[w2.heap.size]? = some (.cells #[.int .i64 lv,.int .i64 ay,.int .i64 ai] 42):=by rw[hWp];exact alloc_there (alloc_there oa3 _) _
 have obp:Wp.heap[w3.heap.size]? = some (.cells #[.int .i64 lv,.int .i64 by_,.int .i64 bi] 42):=by rw[hWp];exact alloc_there (alloc_here w3 _) _
 have oop:Wp.heap[w3.heap.size+1]? = some (.cells #[.slice none 0 0] 230):=by
  rw[hWp]
  have:=alloc_here (w3.alloc (.cells #[.int .i64 lv,.int .i64 by_,.int .i64 bi] 42)) (.cells #[.slice none 0 0] 230)
  rwa [World.size_alloc] at this
 have Bp:Below w.heap.size w Wp:=by rw[hWp];exact bl_alloc (bl_alloc B3 _) _
 have hA4:Below Wp.heap.size Wp w4:=by rw[hw4];exact bl_alloc (bl_alloc (bl_alloc (bl_alloc (Below.refl _ _) _) _) _) _
 have sz4:w4.heap.size=Wp.heap.size+1+1+1+1:=by rw[hw4];simp
 have q0:w4.heap[Wp.heap.size]? = some (calC c):=by rw[hw4];exact alloc_there (alloc_there (alloc_there (alloc_here Wp _) _) _) _
 have q1:w4.heap[Wp.heap.size+1]? = some (.cells #[.int .i64 lv] 3):=by
  rw[hw4]
  have:=alloc_there (alloc_there (alloc_here (Wp.alloc (calC c)) (.cells #[.int .i64 lv] 3)) (.cells #[.int .i64 ay] 3)) (.cells #[.int .i64 by_] 3)
  simpa only[World.size_alloc] using this
 have q2:w4.heap[Wp.heap.size+1+1]? = some (.cells #[.int .i64 ay] 3):=by
  rw[hw4]
  have:=alloc_there (alloc_here ((Wp.alloc (calC c)).alloc (.cells #[.int .i64 lv] 3)) (.cells #[.int .i64 ay] 3)) (.cells #[.int .i64 by_] 3)
  simpa only[World.size_alloc] using this
 have q3:w4.heap[Wp.heap.size+1+1+1]? = some (.cells #[.int .i64 by_] 3):=by
  rw[hw4]
  have:=alloc_here (((Wp.alloc (calC c)).alloc (.cells #[.int .i64 lv] 3)).alloc (.cells #[.int .i64 ay] 3)) (.cells #[.int .i64 by_] 3)
  simpa only[World.size_alloc] using this
 have ES4:=ES.out Wp.heap.size w4 q0 q1 q2 q3
 have o64:=obj_go hA4 o6p
 have o74:=obj_go hA4 o7p
 have oa4:=obj_go hA4 oap
 have ob4:=obj_go hA4 obp
 have oo4:=obj_go hA4 oop
 have B4:=bl_call Bp hA4
 clear hA4 o6p o7p oap obp oop Bp q0 q1 q2 q3 hw4 hWp oc3 o63 o73 oa3 B3
 rw[szp] at ES4 sz4
 have sza:w4.heap.size≤w3.heap.size+1+1+4:=by omega
 have szb:w3.heap.size+1+1+4≤w4.heap.size:=by omega
 clear sz4 szp
 gi_wp2_with fail
 refine wpIn_rangeFunc_box rfl (by omega) (gf:=267) rfl trivial (enters_of Tryz.func267 (by kernel_rfl) rfl)
  ES4 (fun h k=>keepR_t h k) (fun W l o o' hl ho _ _=>keepR_b (n:=w4.heap.size) (by omega) W l o o' hl ho) (Below.refl _ _) (fun _=>rfl)
  (fun pre W=>MtI w.heap.size w2.heap.size w3.heap.size w4.heap.size lv ay ai by_ bi w pre W)
  (fun _ _ _=>False)
  (mtI_own (by omega))
  (fun _ _ _ _ _ hs _ _=>hs)
  ⟨⟨⟨_,oo4,World.ownsRow_nil _ _ _ _⟩,oa4,ob4,o64,o74,Nat.le_refl _⟩,B4⟩
  (fun pre W hI=>hI.1.2.2.2.2.2) (fun pre W o hI=>keepR_alloc W o (by have:=hI.1.2.2.2.2.2;omega)) (fun x:Int × Int=>#[.int .i64 lv,.int .i64 x.1,.int .i64 x.2]) 42
  ?A ?assign ?body ?done ?stop
 case assign=>
  rintro l pre x W K hi hK
  simp only[encU]
  gi_wp2
  obtain⟨Bx,hB⟩ : ∃ Bx,Bx=W.heap.size:=⟨_,rfl⟩
  have:=hK Bx hB
  rw[← hB]
  exact this
 case body=>
  rintro l pre ⟨y,i⟩ Bx W hBx hx ⟨⟨⟨v,hv,hr⟩,ha4,hb4,h64,h74,hsW⟩,hBel⟩ hlen
  dsimp only at hx
  have hr':OwnC W (w3.heap.size+1+1+4) 42 3 v (uniL lv) (pre.filter (keepU ay ai by_ bi)):=hr
  have hfl:(pre.filter (keepU ay ai by_ bi)).length≤pre.length:=List.length_filter_le _ _
  have hNN:=HN.out
  have x1:=obj_cell hx 1
  have x2:=obj_cell hx 2
  have xl:=obj_lt hx
  have xa:=obj_cell hx 0
  have p1:=obj_cell ha4 1
  have p2:=obj_cell ha4 2
  have pl:=obj_lt ha4
  have r1:=obj_cell hb4 1
  have r2:=obj_cell hb4 2
  have rl:=obj_lt hb4
  have hvc:=hv.cell
  have hvf:=hv.frozen
  have hvl:=hv.lt
  by_cases y1:y=ay
  · have e1:(y == ay)=true:=by simpa using y1
    clear y1
    by_cases i1:i<ai
    · have kf:keepU ay ai by_ bi (y,i)=false:=by unfold keepU;simp[e1,i1]
      have hF:(pre ++ [(y,i)]).filter (keepU ay ai by_ bi)=pre.filter (keepU ay ai by_ bi):=by rw[List.filter_append,List.filter_cons,kf];simp
      gi_wp2
      refine⟨KeepsFrom.refl _ _,KeepR.refl _ _ _,⟨⟨v,hv,?_⟩,ha4,hb4,h64,h74,hsW⟩,hBel⟩
      rw[hF]
      exact hr
    · by_cases y2:y=by_
      · have e2:(y == by_)=true:=by simpa using y2
        clear y2
        by_cases i2:bi<i
        · have kf:keepU ay ai by_ bi (y,i)=false:=by unfold keepU;simp[e2,i2]
          have hF:(pre ++ [(y,i)]).filter (keepU ay ai by_ bi)=pre.filter (keepU ay ai by_ bi):=by rw[List.filter_append,List.filter_cons,kf];simp
          gi_wp2
          refine⟨KeepsFrom.refl _ _,KeepR.refl _ _ _,⟨⟨v,hv,?_⟩,ha4,hb4,h64,h74,hsW⟩,hBel⟩
          rw[hF]
          exact hr
        · have kf:keepU ay ai by_ bi (y,i)=true:=by unfold keepU;simp[i1,i2]
          have hF:(pre ++ [(y,i)]).filter (keepU ay ai by_ bi)=pre.filter (keepU ay ai by_ bi) ++ [(y,i)]:=by rw[List.filter_append,List.filter_cons,kf];simp
          gi_wp2_with (first|(gi_at_builtin;refine wpListIn_push rfl _ _ 230 rfl (w3.heap.size+1+1+4) 42 Tryz.underlying230 info_uni rfl (by decide) (uniL_len lv) rfl hr' (y,i) ?a1 ?a2 ?a3 ?a4 ?a5 ?a6 ?_))
          try (case a1=>simp[go_sem])
          case a2=>rfl
          case a3=>intro u hu;simp[uniL] at hu;rcases hu with rfl|rfl|rfl <;> rfl
          case a4=>unfold maxLen;omega
          case a5=>omega
          try (case a6=>omega)
          intro v' w5 hown' hgrow'
          obtain⟨g',cap',hv'⟩:=hown'.succ (by rw[List.length_append];simp)
          rw[List.length_append,List.length_singleton] at hv'
          subst hv'
          obtain⟨hv1,hv2,hr2,hk2,hkr2,hb2,ho2⟩:=box_push (lo:=w3.heap.size+1+1) hv (by decide) hr (by omega) (by omega) (by omega) hown' hgrow' hBel (by omega)
          have hc1:=hv1.cell
          have hf1:=hv1.frozen
          have hl1:=hv1.lt
          have sz5:w4.heap.size≤(w5.setCell ⟨w3.heap.size+1,0,none⟩ (.slice (some ⟨g',0,none⟩) ((pre.filter (keepU ay ai by_ bi)).length+1) cap')).heap.size:=Nat.le_trans hsW hkr2.1
          gi_wp2
          refine⟨hk2.from _,hkr2,⟨⟨_,hv2,?_⟩,ho2 _ _ (by omega) (by omega) ha4,ho2 _ _ (by omega) (by omega) hb4,ho2 _ _ (by omega) (by omega) h64,ho2 _ _ (by omega) (by omega) h74,sz5⟩,hb2⟩
          rw[hF]
          exact hr2
      · have e2:(y == by_)=false:=by simpa using y2
        clear y2
        have kf:keepU ay ai by_ bi (y,i)=true:=by unfold keepU;simp[e2,i1]
        have hF:(pre ++ [(y,i)]).filter (keepU ay ai by_ bi)=pre.filter (keepU ay ai by_ bi) ++ [(y,i)]:=by rw[List.filter_append,List.filter_cons,kf];simp
        gi_wp2_with (first|(gi_at_builtin;refine wpListIn_push rfl _ _ 230 rfl (w3.heap.size+1+1+4) 42 Tryz.underlying230 info_uni rfl (by decide) (uniL_len lv) rfl hr' (y,i) ?b1 ?b2 ?b3 ?b4 ?b5 ?b6 ?_))
        try (case b1=>simp[go_sem])
        case b2=>rfl
        case b3=>intro u hu;simp[uniL] at hu;rcases hu with rfl|rfl|rfl <;> rfl
        case b4=>unfold maxLen;omega
        case b5=>omega
        try (case b6=>omega)
        intro v' w5 hown' hgrow'
        obtain⟨g',cap',hv'⟩:=hown'.succ (by rw[List.length_append];simp)
        rw[List.length_append,List.length_singleton] at hv'
        subst hv'
        obtain⟨hv1,hv2,hr2,hk2,hkr2,hb2,ho2⟩:=box_push (lo:=w3.heap.size+1+1) hv (by decide) hr (by omega) (by omega) (by omega) hown' hgrow' hBel (by omega)
        have hc1:=hv1.cell
        have hf1:=hv1.frozen
        have hl1:=hv1.lt
        have sz5:w4.heap.size≤(w5.setCell ⟨w3.heap.size+1,0,none⟩ (.slice (some ⟨g',0,none⟩) ((pre.filter (keepU ay ai by_ bi)).length+1) cap')).heap.size:=Nat.le_trans hsW hkr2.1
        gi_wp2
        refine⟨hk2.from _,hkr2,⟨⟨_,hv2,?_⟩,ho2 _ _ (by omega) (by omega) ha4,ho2 _ _ (by omega) (by omega) hb4,ho2 _ _ (by omega) (by omega) h64,ho2 _ _ (by omega) (by omega) h74,sz5⟩,hb2⟩
        rw[hF]
        exact hr2
  · have e1:(y == ay)=false:=by simpa using y1
    clear y1
    by_cases y2:y=by_
    · have e2:(y == by_)=true:=by simpa using y2
      clear y2
      by_cases i2:bi<i
      · have kf:keepU ay ai by_ bi (y,i)=false:=by unfold keepU;simp[e2,i2]
        have hF:(pre ++ [(y,i)]).filter (keepU ay ai by_ bi)=pre.filter (keepU ay ai by_ bi):=by rw[List.filter_append,List.filter_cons,kf];simp
        gi_wp2
        refine⟨KeepsFrom.refl _ _,KeepR.refl _ _ _,⟨⟨v,hv,?_⟩,ha4,hb4,h64,h74,hsW⟩,hBel⟩
        rw[hF]
        exact hr
      · have kf:keepU ay ai by_ bi (y,i)=true:=by unfold keepU;simp[e1,i2]
        have hF:(pre ++ [(y,i)]).filter (keepU ay ai by_ bi)=pre.filter (keepU ay ai by_ bi) ++ [(y,i)]:=by rw[List.filter_append,List.filter_cons,kf];simp
        gi_wp2_with (first|(gi_at_builtin;refine wpListIn_push rfl _ _ 230 rfl (w3.heap.size+1+1+4) 42 Tryz.underlying230 info_uni rfl (by decide) (uniL_len lv) rfl hr' (y,i) ?c1 ?c2 ?c3 ?c4 ?c5 ?c6 ?_))
        try (case c1=>simp[go_sem])
        case c2=>rfl
        case c3=>intro u hu;simp[uniL] at hu;rcases hu with rfl|rfl|rfl <;> rfl
        case c4=>unfold maxLen;omega
        case c5=>omega
        try (case c6=>omega)
        intro v' w5 hown' hgrow'
        obtain⟨g',cap',hv'⟩:=hown'.succ (by rw[List.length_append];simp)
        rw[List.length_append,List.length_singleton] at hv'
        subst hv'
        obtain⟨hv1,hv2,hr2,hk2,hkr2,hb2,ho2⟩:=box_push (lo:=w3.heap.size+1+1) hv (by decide) hr (by omega) (by omega) (by omega) hown' hgrow' hBel (by omega)
        have hc1:=hv1.cell
        have hf1:=hv1.frozen
        have hl1:=hv1.lt
        have sz5:w4.heap.size≤(w5.setCell ⟨w3.heap.size+1,0,none⟩ (.slice (some ⟨g',0,none⟩) ((pre.filter (keepU ay ai by_ bi)).length+1) cap')).heap.size:=Nat.le_trans hsW hkr2.1
        gi_wp2
        refine⟨hk2.from _,hkr2,⟨⟨_,hv2,?_⟩,ho2 _ _ (by omega) (by omega) ha4,ho2 _ _ (by omega) (by omega) hb4,ho2 _ _ (by omega) (by omega) h64,ho2 _ _ (by omega) (by omega) h74,sz5⟩,hb2⟩
        rw[hF]
        exact hr2
    · have e2:(y == by_)=false:=by simpa using y2
      clear y2
      have kf:keepU ay ai by_ bi (y,i)=true:=by unfold keepU;simp[e1,e2]
      have hF:(pre ++ [(y,i)]).filter (keepU ay ai by_ bi)=pre.filter (keepU ay ai by_ bi) ++ [(y,i)]:=by rw[List.filter_append,List.filter_cons,kf];simp
      gi_wp2_with (first|(gi_at_builtin;refine wpListIn_push rfl _ _ 230 rfl (w3.heap.size+1+1+4) 42 Tryz.underlying230 info_uni rfl (by decide) (uniL_len lv) rfl hr' (y,i) ?d1 ?d2 ?d3 ?d4 ?d5 ?d6 ?_))
      try (case d1=>simp[go_sem])
      case d2=>rfl
      case d3=>intro u hu;simp[uniL] at hu;rcases hu with rfl|rfl|rfl <;> rfl
      case d4=>unfold maxLen;omega
      case d5=>omega
      try (case d6=>omega)
      intro v' w5 hown' hgrow'
      obtain⟨g',cap',hv'⟩:=hown'.succ (by rw[List.length_append];simp)
      rw[List.length_append,List.length_singleton] at hv'
      subst hv'
      obtain⟨hv1,hv2,hr2,hk2,hkr2,hb2,ho2⟩:=box_push (lo:=w3.heap.size+1+1) hv (by decide) hr (by omega) (by omega) (by omega) hown' hgrow' hBel (by omega)
      have hc1:=hv1.cell
      have hf1:=hv1.frozen
      have hl1:=hv1.lt
      have sz5:w4.heap.size≤(w5.setCell ⟨w3.heap.size+1,0,none⟩ (.slice (some ⟨g',0,none⟩) ((pre.filter (keepU ay ai by_ bi)).length+1) cap')).heap.size:=Nat.le_trans hsW hkr2.1
      gi_wp2
      refine⟨hk2.from _,hkr2,⟨⟨_,hv2,?_⟩,ho2 _ _ (by omega) (by omega) ha4,ho2 _ _ (by omega) (by omega) hb4,ho2 _ _ (by omega) (by omega) h64,ho2 _ _ (by omega) (by omega) h74,sz5⟩,hb2⟩
      rw[hF]
      exact hr2
 case done=>
  rintro D ys W hD rfl ⟨⟨⟨v,hv,hr⟩,ha4,hb4,h64,h74,hsW⟩,hBel⟩ hK
  have hr':OwnC W (w3.heap.size+1+1+4) 42 3 v (uniL lv) (meetsL ay ai by_ bi n m):=hr
  clear hr
  obtain⟨ad,cap,rfl,q1,q2,q3⟩:=hr'.rd (uniL_len lv)
  have hvc:=hv.cell
  have hvl:=hv.lt
  have c6:=obj_cell h64 0
  have f6:=obj_free h64 0
  have l6:=obj_lt h64
  have c7:=obj_cell h74 0
  have f7:=obj_free h74 0
  have l7:=obj_lt h74
  gi_wp2
  obtain⟨W1,hW1⟩ : ∃ W1,W1=(W.setCell ⟨w.heap.size+1+1,0,none⟩ (.slice ad (meetsL ay ai by_ bi n m).length cap)).setCell ⟨w.heap.size+1+1+1,0,none⟩ (.int .i64 0):=⟨_,rfl⟩
  rw[← hW1]
  have o6:W1.heap[w.heap.size+1+1]? = some (.cells #[.slice ad (meetsL ay ai by_ bi n m).length cap] 230):=by rw[hW1];exact obj_oth (set_here h64 0 _) _ _ (by simp)
  have o7:W1.heap[w.heap.size+1+1+1]? = some (.cells #[.int .i64 0] 26):=by rw[hW1];exact set_here (obj_oth h74 _ _ (by simp)) 0 _
  have own1:OwnC W1 (w3.heap.size+1+1+4) 42 3 (.slice ad (meetsL ay ai by_ bi n m).length cap) (uniL lv) (meetsL ay ai by_ bi n m):=by rw[hW1];exact (hr'.other (p:=⟨w.heap.size+1+1,0,none⟩) (by simp;omega) _).other (p:=⟨w.heap.size+1+1+1,0,none⟩) (by simp;omega) _
  have B1:Below w.heap.size w W1:=by rw[hW1];exact bl_setCell (bl_setCell hBel _ (by simp;omega)) _ (by simp;omega)
  have hK1:W1.heap[D]? = some (.deferred (some [])):=by rw[hW1];exact obj_oth (obj_oth hK _ _ (by simp;omega)) _ _ (by simp;omega)
  refine⟨by simp,.inl ⟨_,_,rfl,run_takeDeferred hK1,?_⟩⟩
  have keep:∀ k o,W1.heap[k]? = some o→k≠D→(W1.putObj D (.deferred none)).heap[k]? = some o:=fun k o h ne=>(World.putObj_heap_other ne).trans h
  have e6:=obj_cell (keep _ _ o6 (by omega)) 0
  have e7:=obj_cell (keep _ _ o7 (by omega)) 0
  refine⟨.tuple #[.slice ad (meetsL ay ai by_ bi n m).length cap,.int .i64 0],by simp[results,Tryz.results238,go_sem,e6,e7],_,rfl,?_,?_⟩
  · exact B1.trans (belowK_b (w:=w) (Nat.le_refl _) W1 D _ (.deferred none) (by omega) hK1 rfl rfl)
  · exact OwnC.lower (ownsRow_putObj own1 _ hK1 rfl) (by omega)
 case stop=>
  rintro D c pre W _ _ h _
  exact h.elim
end Go.Proofs.YtmkhgnccpkhcaaaGreatDoor
