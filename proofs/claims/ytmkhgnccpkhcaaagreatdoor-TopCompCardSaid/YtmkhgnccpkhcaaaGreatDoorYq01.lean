import Derived.Test.YtmkhgnccpkhcaaaGreatDoorRows
import Derived.WalkKit
import Derived.WalkSpells
import Derived.WalkLawsBesides
import Derived.BigQuiet
import Derived.Lib.QuietBelow
import Derived.Lib.Hide
import Derived.OwnWalk
import Derived.Laws.OwnMore
import Derived.MapKept
import Derived.StillTail
import Derived.ProofKit
import Derived.OpenShut
import Derived.Carry
import Derived.Lib.SmallJoins
set_option linter.unusedVariables false
set_option linter.unusedSimpArgs false
set_option maxRecDepth 100000
set_option maxHeartbeats 8000000
namespace Go.Proofs.YtmkhgnccpkhcaaaGreatDoor
open Go.RowKit
theorem bl_alloc {w0 w:World} (h:Below w0.heap.size w0 w) (o:Obj):Below w0.heap.size w0 (w.alloc o):=h.alloc h.size o
theorem bl_drew {w0 w:World} (h:Below w0.heap.size w0 w):Below w0.heap.size w0 w.drew:=h.drew
theorem bl_drewN {w0 w:World} (h:Below w0.heap.size w0 w) (n:Nat):Below w0.heap.size w0 (w.drewN n):=⟨h.os,h.tape,h.output,h.size,h.block⟩
theorem bl_call {w0 w w1:World} (h:Below w0.heap.size w0 w) (h1:Below w.heap.size w w1):Below w0.heap.size w0 w1:=h.trans (h1.mono h.size)
theorem bl_setCell {w0 w:World} (h:Below w0.heap.size w0 w) {p:Addr} (u:Value) (hp:w0.heap.size≤p.block):Below w0.heap.size w0 (w.setCell p u):=h.setCell hp u
theorem ret_ii {a b c d:Int} (h1:a=c) (h2:b=d):Ending.returned (.tuple #[.int .i64 a,.int .i64 b])=.returned (.tuple #[.int .i64 c,.int .i64 d]):=by rw[h1,h2]
theorem ret_uu {a b c d:Int} (h1:a=c) (h2:b=d):Ending.returned (.tuple #[.int .u64 a,.int .u64 b])=.returned (.tuple #[.int .u64 c,.int .u64 d]):=by rw[h1,h2]
theorem ret_iii {a b c d x y:Int} (h1:a=c) (h2:b=d) (h3:x=y):Ending.returned (.tuple #[.int .i64 a,.int .i64 b,.int .i64 x])=.returned (.tuple #[.int .i64 c,.int .i64 d,.int .i64 y]):=by rw[h1,h2,h3]
theorem ret_u {a c:Int} (h1:a=c):Ending.returned (.int .u64 a)=.returned (.int .u64 c):=by rw[h1]
theorem ret_i {a c:Int} (h1:a=c):Ending.returned (.int .i64 a)=.returned (.int .i64 c):=by rw[h1]
theorem ret_b {a c:Bool} (h1:a=c):Ending.returned (.bool a)=.returned (.bool c):=by rw[h1]
theorem bcell {W w1:World} (hb:Below W.heap.size W w1):(∀ b o,b<W.heap.size→w1.cell? ⟨b,o,none⟩=W.cell? ⟨b,o,none⟩)∧(∀ b o,b<W.heap.size→w1.frozen? ⟨b,o,none⟩=W.frozen? ⟨b,o,none⟩):=
 ⟨fun b o h=>hb.cell (p:=⟨b,o,none⟩) h,fun b o h=>hb.frozen (p:=⟨b,o,none⟩) h⟩
theorem wpQuiet_mono {P:Program} {ops:Array Oper} {C:World→Prop} {Q Q':Act→Prop} (hq:∀ a,Q a→Q' a):∀ (l:List Oper) (a:Act),wpQuiet P ops C Q l a→wpQuiet P ops C Q' l a
 | [],a,h=>hq a h
 | o :: rest,a,h=>by
  have h':if Region.wanted o (yielded ops a.tmps)=true then o.quiet P a C (wpQuiet P ops C Q rest) else wpQuiet P ops C Q rest (a.put o.dst undef):=h
  show if Region.wanted o (yielded ops a.tmps)=true then o.quiet P a C (wpQuiet P ops C Q' rest) else wpQuiet P ops C Q' rest (a.put o.dst undef)
  split
  · rename_i hw
    rw[if_pos hw] at h'
    exact Oper.quiet_mono (fun a=>wpQuiet_mono hq rest a) h'
  · rename_i hw
    rw[if_neg hw] at h'
    exact wpQuiet_mono hq rest _ h'
theorem region_qb {P:Program} {id:Nat} {Q:Exit→Act→World→Prop} {a:Act} {w:World} {l:List Oper} (F:World→Prop) (hF:F w) (hm:P.follows .mixedOrders=true) (hB:Region.lexB .any l.toArray=true)
 (h:∀ W,F W→wpQuiet P l.toArray (fun w'=>∃ p:Regrown,w'=Go.Sort.grow (redrawn W p.d) p.os) (fun a'=>∀ w',Below W.heap.size W w'→Q .normal a' w') l a):(Code.region id l.toArray true).wp P Q a w:=
 wp_region_quiet_below hm hB (wpQuiet_mono (fun a' h2 w' ⟨p,hp⟩=>h2 w' (by rw[hp];exact below_regrown w p.d p.os)) l a (h w hF))
theorem Calls.regrown_same {P:Program} {f:FuncId} {args:Array Value} {w:World} {d:Nat} {os:Array Obj} {v:Value}
 (h:Calls P f args (Go.Sort.grow (redrawn w d) os) fun e w'=>e=.returned v∧Go.Sort.grow (redrawn w d) os=w'):Calls P f args (Go.Sort.grow (redrawn w d) os) fun e w''=>e=.returned v∧∃ p:Regrown,w''=Go.Sort.grow (redrawn w p.d) p.os:=
 h.mono fun _ _ ⟨he,hb⟩=>⟨he,⟨d,os⟩,hb.symm⟩
theorem rcell {w:World} {a:Addr} {v:Value} (h:w.cell? a=some v):∀ (d:Nat) (os:Array Obj),(Go.Sort.grow (redrawn w d) os).cell? a=some v:=fun d os=>cell_regrown h d os
theorem bsize {W w1:World} (hb:Below W.heap.size W w1):∀ k,k<W.heap.size→k<w1.heap.size:=fun k hk=>Nat.lt_of_lt_of_le hk hb.size
theorem own_stays {W w1:World} (hb:Below W.heap.size W w1) {b:Nat} (h:b<W.heap.size):(∀ o,w1.cell? ⟨b,o,none⟩=W.cell? ⟨b,o,none⟩)∧(∀ o,w1.frozen? ⟨b,o,none⟩=W.frozen? ⟨b,o,none⟩)∧b<w1.heap.size:=
 ⟨fun o=>hb.cell (p:=⟨b,o,none⟩) h,fun o=>hb.frozen (p:=⟨b,o,none⟩) h,Nat.lt_of_lt_of_le h hb.size⟩
end Go.Proofs.YtmkhgnccpkhcaaaGreatDoor
namespace Go.Proofs.YtmkhgnccpkhcaaaGreatDoor
open Go Go.RowKit
section
variable {α:Type} {w w':World} {base:Nat} {t:TypeId} {k:Nat} {v:Value} {f:α→List Value} {l:List α}
def OwnC (w:World) (base:Nat) (t:TypeId) (k:Nat) (v:Value) (f:α→List Value) (l:List α):Prop:=w.ownsRow base t k v l.length (l.flatMap f)
theorem OwnC.go (h:OwnC w base t k v f l) (hb:Below w.heap.size w w'):OwnC w' base t k v f l:=by
 obtain⟨h1,h2|⟨g,cap,cur,hv,hg,hh,hc⟩⟩:=h
 · exact⟨h1,.inl h2⟩
 · refine⟨h1,.inr ⟨g,cap,cur,hv,hg,?_,hc⟩⟩
   have hl:g<w.heap.size:=by
    rcases Nat.lt_or_ge g w.heap.size with h|h
    · exact h
    · rw[Array.getElem?_eq_none h] at hh;cases hh
   rw[hb.block g hl];exact hh
theorem OwnC.nil (w:World) (base:Nat) (t:TypeId) (k:Nat) (f:α→List Value):OwnC w base t k (.slice none 0 0) f []:=World.ownsRow_nil _ _ _ _
theorem OwnC.lower {base':Nat} (h:OwnC w base t k v f l) (hb:base'≤base):OwnC w base' t k v f l:=by
 obtain⟨h1,h2|⟨g,cap,cur,hv,hg,hh⟩⟩:=h
 · exact⟨h1,.inl h2⟩
 · exact⟨h1,.inr ⟨g,cap,cur,hv,by omega,hh⟩⟩
theorem flat_at (hf:∀ x,(f x).length=k) (l:List α) (j:Nat) (x:α) (hj:l[j]? = some x) (i:Nat) (hi:i<k):(l.flatMap f)[j*k+i]? = (f x)[i]?:=by
 induction l generalizing j with
 | nil=>simp at hj
 | cons y l ih=>
  rw[List.flatMap_cons]
  cases j with
  | zero=>
   simp only[List.getElem?_cons_zero,Option.some.injEq] at hj
   subst hj
   rw[Nat.zero_mul,Nat.zero_add,List.getElem?_append_left (by rw[hf];exact hi)]
  | succ j=>
   rw[List.getElem?_append_right (by rw[hf,Nat.add_mul];omega),hf,show (j+1)*k+i - k=j*k+i by rw[Nat.add_mul];omega]
   exact ih j (by simpa using hj)
def RdC (w:World) (k:Nat) (v:Value) (f:α→List Value) (l:List α):Prop:=
 ∃ a cap,v=.slice a l.length cap∧l.length≤cap∧cap≤maxLen∧(l=[]∨∃ b off,a=some ⟨b,off,none⟩∧b<w.heap.size∧∀ j x,l[j]? = some x→∀ i u,(f x)[i]? = some u→w.cell? ⟨b,off+j*k+i,none⟩=some u)
theorem RdC.go (h:RdC w k v f l) (hb:Below w.heap.size w w'):RdC w' k v f l:=by
 obtain⟨a,cap,h1,h2,h3,h4|⟨b,off,ha,hl,h4⟩⟩:=h
 · exact⟨a,cap,h1,h2,h3,.inl h4⟩
 · exact⟨a,cap,h1,h2,h3,.inr ⟨b,off,ha,Nat.lt_of_lt_of_le hl hb.size,fun j x hj i u hi=>(hb.cell (p:=⟨b,off+j*k+i,none⟩) hl).trans (h4 j x hj i u hi)⟩⟩
theorem OwnC.rd (hf:∀ x,(f x).length=k) (h:OwnC w base t k v f l):RdC w k v f l:=by
 obtain⟨h1,⟨rfl,h2⟩|⟨g,cap,cur,rfl,hg,hh,hc,hm,hs,ht⟩⟩:=h
 · have:l=[]:=by simpa using h2
   subst this
   exact⟨none,0,rfl,by simp,by unfold maxLen;omega,.inl rfl⟩
 · have hl:g<w.heap.size:=by
    rcases Nat.lt_or_ge g w.heap.size with h|h
    · exact h
    · rw[Array.getElem?_eq_none h] at hh;cases hh
   refine⟨some ⟨g,0,none⟩,cap,rfl,hc,hm,.inr ⟨g,0,rfl,hl,fun j x hj i u hi=>?_⟩⟩
   have hik:i<k:=by
    have:i<(f x).length:=by
     rcases Nat.lt_or_ge i (f x).length with h|h
     · exact h
     · rw[List.getElem?_eq_none h] at hi;cases hi
    rw[hf] at this;exact this
   have hjl:j<l.length:=by
    rcases Nat.lt_or_ge j l.length with h|h
    · exact h
    · rw[List.getElem?_eq_none h] at hj;cases hj
   have e:=flat_at hf l j x hj i hik
   rw[← ht,List.getElem?_take,if_pos (by have:(j+1)*k≤l.length*k:=Nat.mul_le_mul_right _ hjl;rw[Nat.add_mul] at this;omega),hi] at e
   unfold World.cell?
   simp only[hh]
   rw[Nat.zero_add]
   simpa using e
theorem OwnC.at {l':List α} (h:OwnC w base t k v f l) (e:l=l'):OwnC w base t k v f l':=e ▸ h
theorem OwnC.lt (h:OwnC w base t k v f l):∀ g,v.ownBlock=some g→base≤g∧g<w.heap.size:=World.ownsRow.lt (h:=h)
end
theorem wpList_push {α:Type} {f:α→List Value} {P:Program} {W w0:World} {ops:Array Oper} {rest:List Oper} {o:Oper} {a:Act} {Q:Exit→Act→World→Prop} (hgd:o.guard=none) (s x:Operand) (t:TypeId)
 (ho:o.op=.call { callee:=.builtin .append,args:=#[s,x],argTypes:=#[t,t] })
 (base:Nat) (e:TypeId) {z:Value} {size bytes:Nat} (ht:P.underlying t=some (.slice e)) (hinf:(P.info? e).map (fun i=>(i.zero,i.size,i.bytes))=some (some z,size,bytes))
 (hzs:z.cells.size=size) (hsz:0<size) (hf:∀ x,(f x).length=size)
 {v:Value} {l:List α} (hs:a.eval s=v) (hown:OwnC W base e size v f l) (y:α) {T:TypeId} {cs:Array Value}
 (hx:a.eval x=.slice (some ⟨W.heap.size,0,none⟩) 1 1) (hcs:cs=(f y).toArray) (h1:∀ u ∈ f y,u.oneCell'=true)
 (h63:l.length+1≤maxLen) (hbytes:(l.length+1)*bytes≤140737488355328) (hbel:Below w0.heap.size w0 W) (hbase:w0.heap.size≤base) (hbase2:base≤W.heap.size)
 (h:∀ v' w',OwnC w' base e size v' f (l ++ [y])→Below w0.heap.size w0 w'→v'.ownBlock≠none→W.grownBy w' v.ownBlock→wpList P ops Q rest (a.put o.dst v') w'):wpList P ops Q (o :: rest) a (W.alloc (.cells cs T)):=by
 subst hcs
 obtain⟨i,hi,hz0,hz1,hz2⟩:=info_parts hinf
 refine wpList_append_own _ hgd s x t ho base e i z size bytes ht hi hz0 hz1 hz2 hzs hsz v l.length (l.flatMap f) hs (World.ownsRow.alloc (h:=hown) _) ⟨W.heap.size,0,none⟩ 1 1 (f y) hx (by rw[hf];omega) ?_ h1 h63 hbytes (by simp;omega) ?_
 · intro j u hj
   have e:((⟨W.heap.size,0,none⟩ : Addr).add j)=⟨W.heap.size,j,none⟩:=by simp[Addr.add];intro h;exact h.symm
   rw[e,World.cell?_alloc_new]
   simpa using hj
 · intro v' w' h2 h3 h4
   have g:W.grownBy w' v.ownBlock:=⟨h3.os,h3.tape,h3.output,by have:=h3.size;simp at this;omega,fun k hk hne=>by
    rw[h3.block k (by simp;omega) hne];unfold World.alloc;simp[Array.getElem?_push,Nat.ne_of_lt hk]⟩
   refine h v' w' ?_ (hbel.grown g hbel.size fun j hj=>by have:=(World.ownsRow.lt (h:=hown) j hj).1;omega) ?_ g
   · show w'.ownsRow base e size v' (l ++ [y]).length ((l ++ [y]).flatMap f)
     rw[List.flatMap_append,List.length_append]
     simpa using h2
   · have ne:v'≠.slice none 0 0:=fun h5=>by have:=(h4.1 h5).2;omega
     obtain⟨_,⟨h5,_⟩|⟨g,cap,cur,rfl,_⟩⟩:=h2
     · exact absurd h5 ne
     · simp[Value.ownBlock]
theorem set4 {w:World} {b:Nat} {o0 o1 o2 o3:Value} (x0 x1 x2 x3:Value) (q0:w.cell? ⟨b,0,none⟩=some o0) (q1:w.cell? ⟨b,1,none⟩=some o1) (q2:w.cell? ⟨b,2,none⟩=some o2) (q3:w.cell? ⟨b,3,none⟩=some o3) :
 (w.setCell ⟨b,0,none⟩ x0).cell? ⟨b,0,none⟩=some x0∧((w.setCell ⟨b,0,none⟩ x0).setCell ⟨b,1,none⟩ x1).cell? ⟨b,1,none⟩=some x1∧(((w.setCell ⟨b,0,none⟩ x0).setCell ⟨b,1,none⟩ x1).setCell ⟨b,2,none⟩ x2).cell? ⟨b,2,none⟩=some x2∧((((w.setCell ⟨b,0,none⟩ x0).setCell ⟨b,1,none⟩ x1).setCell ⟨b,2,none⟩ x2).setCell ⟨b,3,none⟩ x3).cell? ⟨b,3,none⟩=some x3:=by
 refine⟨?_,?_,?_,?_⟩
 · exact World.cell?_setCell_same (u:=o0) _ _ _ q0
 · refine World.cell?_setCell_same (u:=o1) _ _ _ ?_
   rw[World.cell?_setCell_other _ _ _ _ (by simp)];exact q1
 · refine World.cell?_setCell_same (u:=o2) _ _ _ ?_
   rw[World.cell?_setCell_other _ _ _ _ (by simp),World.cell?_setCell_other _ _ _ _ (by simp)];exact q2
 · refine World.cell?_setCell_same (u:=o3) _ _ _ ?_
   rw[World.cell?_setCell_other _ _ _ _ (by simp),World.cell?_setCell_other _ _ _ _ (by simp),World.cell?_setCell_other _ _ _ _ (by simp)];exact q3
end Go.Proofs.YtmkhgnccpkhcaaaGreatDoor
namespace Go.Proofs.YtmkhgnccpkhcaaaGreatDoor
open Go.RowKit
def SlI (k:IntKind) (w:World) (a:Option Addr) (xs:List Int):Prop:=xs=[]∨∃ b off,a=some ⟨b,off,none⟩∧∀ j,j<xs.length→w.cell? ⟨b,off+j,none⟩=some (.int k (xs.getD j 0))
theorem SlI.go {k:IntKind} {w w':World} {a:Option Addr} {xs:List Int} (h:SlI k w a xs) (hb:Below w.heap.size w w'):SlI k w' a xs:=by
 rcases h with h|⟨b,off,rfl,h⟩
 · exact .inl h
 · refine .inr ⟨b,off,rfl,fun j hj=>?_⟩
   have:=h j hj
   exact (hb.cell (p:=⟨b,off+j,none⟩) (World.block_lt_of_cell? w _ this)).trans this
theorem SlI.nil {k:IntKind} {w:World} {a:Option Addr}:SlI k w a []:=.inl rfl
theorem SlI.at {k:IntKind} {w:World} {a:Option Addr} {xs:List Int} (h:SlI k w a xs) (j:Nat) (hj:j<xs.length):∃ b off,a=some ⟨b,off,none⟩∧b<w.heap.size∧∀ j,j<xs.length→w.cell? ⟨b,off+j,none⟩=some (.int k (xs.getD j 0)):=by
 rcases h with rfl|⟨b,off,rfl,h⟩
 · simp at hj
 · exact⟨b,off,rfl,World.block_lt_of_cell? w ⟨b,off+j,none⟩ (h j hj),h⟩
theorem SlI.take {k:IntKind} {w:World} {a:Option Addr} {xs:List Int} (h:SlI k w a xs) (n:Nat):SlI k w a (xs.take n):=by
 rcases h with rfl|⟨b,off,rfl,h⟩
 · exact .inl (by simp)
 · refine .inr ⟨b,off,rfl,fun j hj=>?_⟩
   have hj1:j<xs.length:=by simp at hj;omega
   have hj2:j<n:=by simp at hj;omega
   rw[h j hj1]
   simp[List.getD,List.getElem?_take,hj2]
theorem SlI.drop {k:IntKind} {w:World} {b off:Nat} {xs:List Int} (h:∀ j,j<xs.length→w.cell? ⟨b,off+j,none⟩=some (.int k (xs.getD j 0))) (n:Nat):SlI k w (some ⟨b,off+n,none⟩) (xs.drop n):=by
 refine .inr ⟨b,off+n,rfl,fun j hj=>?_⟩
 have:=h (n+j) (by simp at hj;omega)
 rw[show off+n+j=off+(n+j) by omega,this]
 simp[List.getD,List.getElem?_drop]
def RowF (w:World) (b n:Nat) (f:Nat→Int):Prop:=∀ j,j<n→w.cell? ⟨b,j,none⟩=some (.int .i64 (f j))∧w.frozen? ⟨b,j,none⟩=false
theorem RowF.go {w w':World} {b n:Nat} {f:Nat→Int} (h:RowF w b n f) (hb:Below w.heap.size w w'):RowF w' b n f:=fun j hj=>by
 obtain⟨h1,h2⟩:=h j hj
 have hl:=World.block_lt_of_cell? w ⟨b,j,none⟩ h1
 exact⟨(hb.cell (p:=⟨b,j,none⟩) hl).trans h1,(hb.frozen (p:=⟨b,j,none⟩) hl).trans h2⟩
theorem RowF.lt {w:World} {b n:Nat} {f:Nat→Int} (h:RowF w b n f) (hn:0<n):b<w.heap.size:=World.block_lt_of_cell? w ⟨b,0,none⟩ (h 0 hn).1
theorem RowF.set {w:World} {b n:Nat} {f:Nat→Int} (h:RowF w b n f) (k:Nat) (hk:k<n) (v:Int):RowF (w.setCell ⟨b,k,none⟩ (.int .i64 v)) b n (fun j=>if j=k then v else f j):=fun j hj=>by
 obtain⟨h1,h2⟩:=h j hj
 refine⟨?_,by rw[World.frozen?_setCell];exact h2⟩
 by_cases e:j=k
 · subst e;simp only[if_true];exact World.cell?_setCell_same w _ _ h1
 · simp only[e,if_false];rw[World.cell?_setCell_other w _ _ _ (fun h=>e (by cases h;rfl))];exact h1
theorem RowF.other {w:World} {b n:Nat} {f:Nat→Int} (h:RowF w b n f) {p:Addr} (hp:p.block≠b) (v:Value):RowF (w.setCell p v) b n f:=fun j hj=>by
 obtain⟨h1,h2⟩:=h j hj
 exact⟨by rw[World.cell?_setCell_other w _ _ _ (fun h=>hp (by rw[h]))];exact h1,by rw[World.frozen?_setCell];exact h2⟩
theorem RowF.congr {w:World} {b n:Nat} {f g:Nat→Int} (h:RowF w b n f) (e:∀ j,j<n→g j=f j):RowF w b n g:=fun j hj=>by rw[e j hj];exact h j hj
theorem RowF.sl {w:World} {b:Nat} {xs:List Int} (h:RowF w b xs.length (fun j=>xs.getD j 0)):SlI .i64 w (some ⟨b,0,none⟩) xs:=
 .inr ⟨b,0,rfl,fun j hj=>by rw[Nat.zero_add];exact (h j hj).1⟩
theorem row_made (w:World) (n:Nat) (t:TypeId):RowF (w.alloc (.cells (Array.replicate n (.int .i64 0)) t)) w.heap.size n (fun _=>0):=fun j hj=>by
 refine⟨?_,by simp⟩
 rw[World.cell?_alloc_new];simp[hj]
theorem made_row (n:Nat):madeCells #[.int .i64 0] n=Array.replicate n (.int .i64 0):=by
 apply Array.ext_getElem?
 intro j
 by_cases hj:j<n
 · simp[madeCells,hj,Nat.mod_one]
 · simp[madeCells,hj]
theorem made_pair (n:Nat):madeCells #[.int .i64 0,.int .i64 0] n=Array.replicate n (.int .i64 0):=by
 apply Array.ext_getElem?
 intro j
 by_cases hj:j<n
 · have:j % 2=0∨j % 2=1:=by omega
   rcases this with h|h <;> simp[madeCells,hj,h]
 · simp[madeCells,hj]
end Go.Proofs.YtmkhgnccpkhcaaaGreatDoor
namespace Go.Proofs.YtmkhgnccpkhcaaaGreatDoor
open Go Go.RowKit
variable {P:Program}
theorem lay_ins (mty kt et:TypeId) {d:TypeDesc} (w:World) (es:Array MapEntry) (clock:Nat) (key val:Value) (hm:P.underlying mty=some (.map kt et)) (hk:P.underlying kt=some d) (hi:MapKept.IsKey d key) (hf:Instr.findNow d key es.toList 0=some none) :
 (Instr.mapUpdate mty (.map (some w.heap.size)) key val).run P (w.alloc (.map es clock))=.ok () (w.alloc (.map (es.push { key:=key,val:=val,born:=clock }) (clock+1))):=by
 have hb:(w.alloc (.map es clock)).heap[w.heap.size]? = some (.map es clock):=by unfold World.alloc;simp
 have e:({ w.alloc (.map es clock) with heap:=(w.alloc (.map es clock)).heap.setIfInBounds w.heap.size (.map (es.push { key:=key,val:=val,born:=clock }) (clock+1)) }:World)=w.alloc (.map (es.push { key:=key,val:=val,born:=clock }) (clock+1)):=by
  have eh:(w.heap.push (Obj.map es clock)).setIfInBounds w.heap.size (.map (es.push { key:=key,val:=val,born:=clock }) (clock+1))=w.heap.push (.map (es.push { key:=key,val:=val,born:=clock }) (clock+1)):=by
   apply Array.ext_getElem?
   intro k
   by_cases h:k=w.heap.size
   · subst h;simp
   · rw[Array.getElem?_setIfInBounds_ne (fun e=>h e.symm),Array.getElem?_push,Array.getElem?_push,if_neg h,if_neg h]
  unfold World.alloc
  simp only[eh]
 rw[← e]
 simp[Instr.mapUpdate,run_underlying hm,MapKept.run_getObj_map hb,MapKept.run_checkKey hk hi,MapKept.run_findKey hk hf,MapKept.run_setObj_map _ hb,Result.andThen]
theorem map_ins (mty kt et:TypeId) {d:TypeDesc} (w:World) (r:Nat) (es:Array MapEntry) (clock:Nat) (key val:Value) (hm:P.underlying mty=some (.map kt et)) (hk:P.underlying kt=some d) (hi:MapKept.IsKey d key) (hb:w.heap[r]? = some (.map es clock)) (hf:Instr.findNow d key es.toList 0=some none) :
 (Instr.mapUpdate mty (.map (some r)) key val).run P w=.ok () { w with heap:=w.heap.setIfInBounds r (.map (es.push { key:=key,val:=val,born:=clock }) (clock+1)) }:=by
 simp[Instr.mapUpdate,run_underlying hm,MapKept.run_getObj_map hb,MapKept.run_checkKey hk hi,MapKept.run_findKey hk hf,MapKept.run_setObj_map _ hb,Result.andThen]
theorem map_look_yes (mty kt et:TypeId) {d:TypeDesc} (w:World) (r:Nat) (es:Array MapEntry) (clock:Nat) (key v:Value) (i:Nat) (ok:Bool) (hm:P.underlying mty=some (.map kt et)) (hk:P.underlying kt=some d) (hi:MapKept.IsKey d key) (hb:w.heap[r]? = some (.map es clock)) (hf:Instr.findNow d key es.toList 0=some (some (i,v))) :
 (Instr.lookup mty (.map (some r)) key ok).run P w=.ok (if ok=true then .tuple #[v,.bool true] else v) w:=by
 simp[Instr.lookup,run_underlying hm,MapKept.run_getObj_map hb,MapKept.run_checkKey hk hi,MapKept.run_findKey hk hf,Result.andThen]
theorem map_look_no (mty kt et:TypeId) {d:TypeDesc} (w:World) (r:Nat) (es:Array MapEntry) (clock:Nat) (key z:Value) (ok:Bool) (hm:P.underlying mty=some (.map kt et)) (hk:P.underlying kt=some d) (hi:MapKept.IsKey d key) (hb:w.heap[r]? = some (.map es clock)) (hz:(zeroValue et).run P w=.ok z w) (hf:Instr.findNow d key es.toList 0=some none) :
 (Instr.lookup mty (.map (some r)) key ok).run P w=.ok (if ok=true then .tuple #[z,.bool false] else z) w:=by
 simp[Instr.lookup,run_underlying hm,MapKept.run_getObj_map hb,MapKept.run_checkKey hk hi,MapKept.run_findKey hk hf,hz,Result.andThen]
theorem alloc_here (w:World) (o:Obj):(w.alloc o).heap[w.heap.size]? = some o:=by unfold World.alloc;simp
theorem alloc_there {w:World} {k:Nat} {x:Obj} (h:w.heap[k]? = some x) (o:Obj):(w.alloc o).heap[k]? = some x:=by
 have hl:k<w.heap.size:=by
  rcases Nat.lt_or_ge k w.heap.size with h1|h1
  · exact h1
  · rw[Array.getElem?_eq_none h1] at h;cases h
 unfold World.alloc;simp[Array.getElem?_push,Nat.ne_of_lt hl,h]
theorem obj_below {w w':World} {k:Nat} {x:Obj} (h:w.heap[k]? = some x) (hb:Below w.heap.size w w'):w'.heap[k]? = some x:=by
 have hl:k<w.heap.size:=by
  rcases Nat.lt_or_ge k w.heap.size with h1|h1
  · exact h1
  · rw[Array.getElem?_eq_none h1] at h;cases h
 rw[hb.block k hl];exact h
end Go.Proofs.YtmkhgnccpkhcaaaGreatDoor
namespace Go.Proofs.YtmkhgnccpkhcaaaGreatDoor
open Go.RowKit
def OwnI (w:World) (base:Nat) (v:Value) (xs:List Int):Prop:=w.ownsRow base 2 1 v xs.length (xs.map (Value.int .i64))
theorem OwnI.shape {w:World} {base:Nat} {v:Value} {xs:List Int} (h:OwnI w base v xs):∃ a cap,v=.slice a xs.length cap∧SlI .i64 w a xs∧xs.length≤cap∧cap≤maxLen∧∀ ad,a=some ad→base≤ad.block:=by
 obtain⟨h1,⟨rfl,h2⟩|⟨g,cap,cur,rfl,hg,hh,hc,hm,hs,ht⟩⟩:=h
 · have:xs=[]:=by simpa using h2
   subst this
   exact⟨none,0,rfl,.nil,by simp,by unfold maxLen;omega,fun ad h=>by cases h⟩
 · refine⟨some ⟨g,0,none⟩,cap,rfl,.inr ⟨g,0,rfl,fun j hj=>?_⟩,hc,hm,fun ad h=>by obtain rfl:=Option.some.inj h;exact hg⟩
   have e:w.cell? ⟨g,j,none⟩=cur[j]?:=by unfold World.cell?;simp[hh]
   rw[Nat.zero_add,e]
   have e2:(cur.toList.take (xs.length*1))[j]? = (xs.map (Value.int .i64))[j]?:=by rw[ht]
   rw[List.getElem?_take,if_pos (by omega)] at e2
   rw[← Array.getElem?_toList,e2]
   simp[List.getD,hj]
theorem OwnI.go {w w':World} {base:Nat} {v:Value} {xs:List Int} (h:OwnI w base v xs) (hb:Below w.heap.size w w'):OwnI w' base v xs:=by
 obtain⟨h1,h2|⟨g,cap,cur,hv,hg,hh,hc⟩⟩:=h
 · exact⟨h1,.inl h2⟩
 · refine⟨h1,.inr ⟨g,cap,cur,hv,hg,?_,hc⟩⟩
   have hl:g<w.heap.size:=by
    rcases Nat.lt_or_ge g w.heap.size with h|h
    · exact h
    · rw[Array.getElem?_eq_none h] at hh;cases hh
   rw[hb.block g hl];exact hh
theorem OwnI.below {w0 w w':World} {base:Nat} {v:Value} {xs:List Int} (h:OwnI w base v xs) (hb:Below w0.heap.size w0 w) (hbase:w0.heap.size≤base) (hg:w.grownBy w' v.ownBlock):Below w0.heap.size w0 w':=
 hb.grown hg hb.size (fun j hj=>by have:=(World.ownsRow.lt (h:=h) j hj).1;omega)
theorem OwnI.at {w:World} {base:Nat} {v:Value} {xs:List Int} (h:OwnI w base v xs) (ys:List Int) (h1:ys=xs):OwnI w base v ys:=h1 ▸ h
end Go.Proofs.YtmkhgnccpkhcaaaGreatDoor
namespace Go.Proofs.YtmkhgnccpkhcaaaGreatDoor
open Go.RowKit
def pUpon (w:World) (v:Value):Result Next→Prop
 | .ok (.value u) w'=>w'=w∧u=v
 | _=>False
def pAt (P:Program) (o:Oper) (a:Act) (v:Value):Prop:=∀ w,pUpon w v ((execOp a.eval o).run P w)
def pOper (P:Program) (o:Oper) (a:Act) (w:World) (next:Act→World→Prop):Prop:=∃ v,pAt P o a v∧next (a.put o.dst v) w
section
variable {P:Program} {ops:Array Oper} {hv:List Nat} {L:Act→World→Prop} {s:List Nat} {i:Nat} {o:Oper} {a:Act} {w:World} {md:Region.Mode}
end
theorem wpList_unguard {P:Program} {ops:Array Oper} {Q:Exit→Act→World→Prop} {o:Oper} {a:Act} {w:World} (hw:Region.wanted o (yielded ops a.tmps)=true) (h:wpList P ops Q [{ o with guard:=none }] a w):wpList P ops Q [o] a w:=by
 obtain⟨dst,op,type,pos,after,guard⟩:=o
 unfold wpList at *
 rw[if_pos hw]
 rwa [if_pos (show Region.wanted ⟨dst,op,type,pos,after,none⟩ (yielded ops a.tmps)=true from rfl)] at h
end Go.Proofs.YtmkhgnccpkhcaaaGreatDoor
attribute [go_sem] Go.Proofs.YtmkhgnccpkhcaaaGreatDoor.pOper Go.Proofs.YtmkhgnccpkhcaaaGreatDoor.pAt Go.Proofs.YtmkhgnccpkhcaaaGreatDoor.pUpon
namespace Go.Proofs.YtmkhgnccpkhcaaaGreatDoor
open Go.ChangeShapes Go.WideShapes Go.ChangeAt Go.RowKit
theorem args_stay {H:Type} {enc:TypeId × Value→H} {P:Program} (hl:laidOutB P=true) {W W':World} (hb:Below W.heap.size W W') :
 ∀ (ts:List TypeId) (vs:List Value) (ds:List (DataW H)) (ps:List MemPlace),(ts.all fun t=>P.readableRec t && decide (t<P.types.size))=true →
 DataW.TrodAll enc P W 0 (fun _=>true) true ts vs ds ps→(∀ x ∈ ps,x.block<W.heap.size)→DataW.TrodAll enc P W' 0 (fun b=>decide (b<W.heap.size)) true ts vs ds ps
 | [],vs,ds,ps,_,h,_=>by
  cases vs <;> cases ds <;> simp_all [DataW.TrodAll]
 | t :: ts,[],ds,ps,_,h,_=>by cases ds <;> simp[DataW.TrodAll] at h
 | t :: ts,v :: vs,[],ps,_,h,_=>by simp[DataW.TrodAll] at h
 | t :: ts,v :: vs,d :: ds,ps,ha,h,hlt=>by
  obtain⟨p,q,h1,h2,rfl⟩:=h
  simp only[List.all_cons,Bool.and_eq_true,decide_eq_true_eq] at ha
  refine⟨p,q,Below.trod hl ha.1.1 ha.1.2 h1 hb (fun x hx=>hlt x (by simp[hx])),args_stay hl hb ts vs ds q ?_ h2 (fun x hx=>hlt x (by simp[hx])),rfl⟩
  exact ha.2
theorem law_post {H:Type} {enc:TypeId × Value→H} {P:Program} (hl:laidOutB P=true) {f:Func} {s:ChangeSpec} {W W':World} {args:Array Value} {ds gs:List (DataW H)} {before:List MemPlace} {tb:TypeId}
 (hb:Below W.heap.size W W') (hp:(f.params.toList.all fun t=>P.readableRec t && decide (t<P.types.size))=true)
 (hr:f.resultTypes=#[tb]) (hu:P.underlying tb=some .bool) (hvs:s.vars=[])
 (hfn:s.fn H (ds ++ gs)={ results:=[.lit (.bool true)],args:=ds })
 (hW:DataW.Whole enc P f.params.toList s.vars false W args.toList ds gs before) :
 s.post enc P f false true false false W args (.bool true) W':=by
 have hlt:∀ x ∈ before,x.block<W.heap.size:=fun x hx=>hW.lt x hx
 have hW0:=hW
 obtain⟨p,q,hA,hV,rfl,hfz,hnd⟩:=hW
 rw[hvs] at hV
 obtain⟨rfl,rfl⟩:=trodVars_none hV
 refine⟨ds,[],p ++ [],[],p,[],hW0,?_,?_,?_,hb.frame _,fun h=>by cases h⟩
 · rw[hfn,hr]
   exact trodAll_cons_mk (shut_bool hu _) trodAll_mk0
 · rw[hfn]
   exact args_stay hl hb _ _ _ _ hp hA (fun x hx=>hlt x (by simp[hx]))
 · rw[hfn,hvs];rfl
theorem own:ownKnob Tryz.prog.godebug=none:=by kernel_rfl
theorem laidOut:laidOutB Tryz.prog=true:=by kernel_rfl
end Go.Proofs.YtmkhgnccpkhcaaaGreatDoor
