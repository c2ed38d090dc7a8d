import Derived.Test.YtmkhgnccpkhcaaaGreatDoorYq32
import Derived.Laws.IdiomRangeMap
import Derived.Maps.RangeRun
set_option linter.unusedVariables false
set_option linter.unusedSimpArgs false
set_option maxRecDepth 100000
set_option maxHeartbeats 8000000
namespace Go.Proofs.YtmkhgnccpkhcaaaGreatDoor
open Go Go.RowKit
def FormRes (w:World) (R:Except (Int × Int) (CalI × List (ByteArray × Int))) (e:Ending) (w':World):Prop:=∃ (c:CalI) (m:Value) (pl er:Int),e=.returned (.tuple #[calA c,m,.int .i64 pl,.int .i64 er])∧Below w.heap.size w w' ∧
 (∀ p x,R=.error (p,x)→pl=p∧er=x)∧(∀ c' l,R=.ok (c',l)→c=c'∧pl=0∧er=0∧∃ r,m=.map (some r)∧w.heap.size≤r∧MapS w' r (atV l))
theorem FormRes.err {w w':World} {R:Except (Int × Int) (CalI × List (ByteArray × Int))} {p x:Int} (c:CalI) (m:Value) (h:R=.error (p,x)) (hb:Below w.heap.size w w'):FormRes w R (.returned (.tuple #[calA c,m,.int .i64 p,.int .i64 x])) w':=by
 refine⟨c,m,p,x,rfl,hb,?_,?_⟩
 · intro p' x' e;rw[h] at e;cases e;exact⟨rfl,rfl⟩
 · intro c' l e;rw[h] at e;cases e
theorem FormRes.fine {w w':World} {R:Except (Int × Int) (CalI × List (ByteArray × Int))} {c:CalI} {l:List (ByteArray × Int)} {r:Nat} (h:R=.ok (c,l)) (hb:Below w.heap.size w w') (hr:w.heap.size≤r) (hm:MapS w' r (atV l)):FormRes w R (.returned (.tuple #[calA c,.map (some r),.int .i64 0,.int .i64 0])) w':=by
 refine⟨c,_,0,0,rfl,hb,?_,?_⟩
 · intro p' x' e;rw[h] at e;cases e
 · intro c' l' e;rw[h] at e;cases e;exact⟨rfl,rfl,rfl,r,rfl,hr,hm⟩
structure FAt (no:Obj) (w wr:World) (c:CalI) (l:List (ByteArray × Int)):Prop where
 below:Below w.heap.size w wr
 node:wr.heap[w.heap.size]? = some no
 obj:wr.heap[w.heap.size+1]? = some (calC c)
 keys:MapS wr (w.heap.size+1+1) keysL
 seen:MapS wr (w.heap.size+1+1+1) (atV l)
theorem FAt.go {no:Obj} {w wr w':World} {c:CalI} {l:List (ByteArray × Int)} (h:FAt no w wr c l) (hb:Below wr.heap.size wr w'):FAt no w w' c l:=
 ⟨bl_call h.below hb,obj_go hb h.node,obj_go hb h.obj,h.keys.go hb,h.seen.go hb⟩
theorem FAt.but {no:Obj} {w wr w':World} {c:CalI} {l:List (ByteArray × Int)} {b:Nat} (h:FAt no w wr c l) (hb:But b wr w') (hl:w.heap.size+1+1+1<b):FAt no w w' c l:=
 ⟨hb.below h.below (by omega) h.below.size,hb.obj (by omega) h.node,hb.obj (by omega) h.obj,h.keys.but hb (by omega),h.seen.but hb (by omega)⟩
theorem FAt.put {no:Obj} {w wr:World} {c:CalI} {l:List (ByteArray × Int)} (h:FAt no w wr c l) (d:CalI):FAt no w (set14 wr (w.heap.size+1) d) d l:=by
 have hb:=set14_but (w:=wr) d (But.of (b:=w.heap.size+1) (Below.refl wr.heap.size wr))
 exact⟨hb.below h.below (by omega) h.below.size,hb.obj (by omega) h.node,set14_obj (w:=wr) d h.obj,h.keys.but hb (by omega),h.seen.but hb (by omega)⟩
theorem look_key (s:ByteArray) (v:Value) (w wr:World) (c:CalI) (l:List (ByteArray × Int)) {no:Obj} (h:FAt no w wr c l) (hg:getS keysL s=some v):(Instr.lookup 172 (.map (some (w.heap.size+1+1))) (.string s) true).run Tryz.prog wr=.ok (.tuple #[v,.bool true]) wr:=
 look_yes _ _ _ true Tryz.underlying172 Tryz.underlying9 h.keys hg
theorem look_nokey (s:ByteArray) (w wr:World) (c:CalI) (l:List (ByteArray × Int)) {no:Obj} (h:FAt no w wr c l) (hg:getS keysL s=none):(Instr.lookup 172 (.map (some (w.heap.size+1+1))) (.string s) true).run Tryz.prog wr=.ok (.tuple #[.nilFunc,.bool false]) wr:=
 look_no _ _ _ true Tryz.underlying172 Tryz.underlying9 (by kernel_rfl) h.keys hg
theorem look_seen (s:ByteArray) (v:Value) (w wr:World) (c:CalI) (l:List (ByteArray × Int)) {no:Obj} (h:FAt no w wr c l) (hg:getS (atV l) s=some v):(Instr.lookup 95 (.map (some (w.heap.size+1+1+1))) (.string s) true).run Tryz.prog wr=.ok (.tuple #[v,.bool true]) wr:=
 look_yes _ _ _ true Tryz.underlying95 Tryz.underlying9 h.seen hg
theorem look_unseen (s:ByteArray) (w wr:World) (c:CalI) (l:List (ByteArray × Int)) {no:Obj} (h:FAt no w wr c l) (hg:getS (atV l) s=none):(Instr.lookup 95 (.map (some (w.heap.size+1+1+1))) (.string s) true).run Tryz.prog wr=.ok (.tuple #[.int .i64 0,.bool false]) wr:=
 look_no _ _ _ true Tryz.underlying95 Tryz.underlying9 (by kernel_rfl) h.seen hg
theorem put_seen (s:ByteArray) (i:Int) (w wr:World) (c:CalI) (l:List (ByteArray × Int)) {no:Obj} (h:FAt no w wr c l) (hg:getS (atV l) s=none):∃ w',(Instr.mapUpdate 95 (.map (some (w.heap.size+1+1+1))) (.string s) (.int .i64 i)).run Tryz.prog wr=.ok () w'∧FAt no w w' c (l ++ [(s,i)])∧But (w.heap.size+1+1+1) wr w':=by
 obtain⟨w',h1,h2,h3⟩:=ins_new (P:=Tryz.prog) 95 _ _ (.int .i64 i) Tryz.underlying95 Tryz.underlying9 h.seen hg
 refine⟨w',h1,⟨h3.below h.below (by omega) h.below.size,h3.obj (by omega) h.node,h3.obj (by omega) h.obj,h.keys.but h3 (by omega),by rw[atV_push];exact h2⟩,h3⟩
theorem formed_ok (n:ByteArray) (p:Int) (ws:List WordI) (wv:Value) (bb:Bool) (ks:List LT) (kv:Value) (w:World) (hx:(LT.mk n p ws wv bb ks kv).ok w) (h1:0<ws.length) (hbl:∀ b ∈ blL ks,b<w.heap.size) (h8:∀ x ∈ ks,x.er.few) (cF:CalI) (lF:List (ByteArray × Int)) (hOK:formR (w0I ws).s p (erL ks)=.ok (cF,lF)) :
 Calls Tryz.prog 79 #[.agg #[.string n,.int .i64 p,wv,.bool bb,kv]] w (FormRes w (formR (w0I ws).s p (erL ks))):=by
 obtain⟨hws,hks,hok⟩:=hx
 have hx0:=w0_at h1
 generalize w0I ws=x0 at *
 obtain⟨num,m,nm,pos⟩:=x0
 obtain⟨ad,cap,rfl,l1,l2,hc⟩:=hws
 rcases hc with hc|⟨g,off,rfl,hg,hc⟩
 · rw[hc] at h1;simp at h1
 obtain⟨c0,c1,c2,c3⟩:=word_cells hg hc hx0 (Below.refl _ _)
 obtain⟨kad,kcap,rfl,m1,m2,hkc⟩:=hks
 unfold maxLen at l2 m2
 have RE:Aside (∀ w' c m p' x',formR nm p (erL ks)=.error (p',x')→Below w.heap.size w w'→FormRes w (formR nm p (erL ks)) (.returned (.tuple #[calA c,m,.int .i64 p',.int .i64 x'])) w'):=fun w' c m p' x' a b=>.err c m a b
 have RF:Aside (∀ w' c l r,formR nm p (erL ks)=.ok (c,l)→Below w.heap.size w w'→w.heap.size≤r→MapS w' r (atV l)→FormRes w (formR nm p (erL ks)) (.returned (.tuple #[calA c,.map (some r),.int .i64 0,.int .i64 0])) w'):=fun w' c l r a b d f=>.fine a b d f
 generalize FormRes w (formR nm p (erL ks))=QQ at *
 have FO:Aside (formL nm (emptyC nm) [] 0 (erL ks)=.ok (cF,lF)):=by
  unfold formR at hOK
  rcases hq:formL nm (emptyC nm) [] 0 (erL ks) with er|⟨c1,l1⟩
  · rw[hq] at hOK;cases hOK
  · rw[hq] at hOK
    dsimp only at hOK
    by_cases hs:getS (atV l1) sEnd=none
    · rw[if_pos hs] at hOK;cases hOK
    · rw[if_neg hs] at hOK;cases hOK;rfl
 have hNE:Aside (∀ c1 l1,(Except.ok (c1,l1):Except (Int × Int) (CalI × List (ByteArray × Int)))=.ok (cF,lF)→getS (atV l1) sEnd≠none):=by
  intro c1 l1 e
  cases e
  intro hs
  unfold formR at hOK
  have fo:=FO.out
  rw[fo] at hOK
  dsimp only at hOK
  rw[if_pos hs] at hOK
  cases hOK
 clear hOK
 have E:Aside (formR nm p (erL ks)=match formL nm (emptyC nm) [] 0 (erL ks) with
  | .error e=>.error e
  | .ok (c,l)=>if getS (atV l) sEnd=none then .error (p,10) else .ok (c,l)):=rfl
 generalize formR nm p (erL ks)=RR at *
 have HC:=Lib.hid hkc
 have HOK:=Lib.hid hok
 have HBL:=Lib.hid hbl
 have H8:=Lib.hid h8
 clear hc hx0 hkc hok hbl h8
 simp only[Nat.zero_mul,Nat.add_zero] at c0 c1 c2 c3
 have k2:=fun o1 o2=>ac (ac c2 o1) o2
 have hg2:g<w.heap.size+1:=by omega
 have NP:Aside (∀ W:World,W.heap[w.heap.size]? = some (Obj.cells #[.string n,.int .i64 p,.slice (some ⟨g,off,none⟩) ws.length cap,.bool bb,.slice kad ks.length kcap] 99)→W.cell? ⟨w.heap.size,1,none⟩=some (.int .i64 p)):=fun W h=>obj_cell h 1
 go_enter Tryz.func79,Tryz.ntmps79
 go_wp2_with fail
 have hmk:∀ (w:World),(Instr.makeMap 95 none).run Tryz.prog w=.ok (.map (some w.heap.size)) (w.alloc (.map #[] 0)):=fun w=>run_makeMap _ w
 refine (keys_any _).mono ?_
 rintro e w1 ⟨rfl,rfl⟩
 have F0:Aside (FAt (Obj.cells #[.string n,.int .i64 p,.slice (some ⟨g,off,none⟩) ws.length cap,.bool bb,.slice kad ks.length kcap] 99) w ((((w.alloc (Obj.cells #[.string n,.int .i64 p,.slice (some ⟨g,off,none⟩) ws.length cap,.bool bb,.slice kad ks.length kcap] 99)).alloc (calC (emptyC nm))).alloc (.map (strE 0 keysL).toArray 7)).alloc (.map #[] 0)) (emptyC nm) []):=by
  have e1:(w.alloc (Obj.cells #[.string n,.int .i64 p,.slice (some ⟨g,off,none⟩) ws.length cap,.bool bb,.slice kad ks.length kcap] 99)).heap.size=w.heap.size+1:=by simp
  have e2:((w.alloc (Obj.cells #[.string n,.int .i64 p,.slice (some ⟨g,off,none⟩) ws.length cap,.bool bb,.slice kad ks.length kcap] 99)).alloc (calC (emptyC nm))).heap.size=w.heap.size+1+1:=by simp
  have e3:(((w.alloc (Obj.cells #[.string n,.int .i64 p,.slice (some ⟨g,off,none⟩) ws.length cap,.bool bb,.slice kad ks.length kcap] 99)).alloc (calC (emptyC nm))).alloc (.map (strE 0 keysL).toArray 7)).heap.size=w.heap.size+1+1+1:=by simp
  refine⟨bl_alloc (bl_alloc (bl_alloc (bl_alloc (Below.refl _ _) _) _) _) _,?_,?_,?_,?_⟩
  · exact alloc_there (alloc_there (alloc_there (alloc_here w _) _) _) _
  · refine alloc_there (alloc_there ?_ _) _
    have:=alloc_here (w.alloc (Obj.cells #[.string n,.int .i64 p,.slice (some ⟨g,off,none⟩) ws.length cap,.bool bb,.slice kad ks.length kcap] 99)) (calC (emptyC nm))
    rw[e1] at this
    exact this
  · unfold MapS
    refine alloc_there ?_ _
    have:=alloc_here ((w.alloc (Obj.cells #[.string n,.int .i64 p,.slice (some ⟨g,off,none⟩) ws.length cap,.bool bb,.slice kad ks.length kcap] 99)).alloc (calC (emptyC nm))) (.map (strE 0 keysL).toArray 7)
    rw[e2] at this
    exact this
  · unfold MapS
    have:=alloc_here (((w.alloc (Obj.cells #[.string n,.int .i64 p,.slice (some ⟨g,off,none⟩) ws.length cap,.bool bb,.slice kad ks.length kcap] 99)).alloc (calC (emptyC nm))).alloc (.map (strE 0 keysL).toArray 7)) (.map #[] 0)
    rw[e3] at this
    exact this
 go_wp2_with fail
 generalize (Obj.cells #[.string n,.int .i64 p,.slice (some ⟨g,off,none⟩) ws.length cap,.bool bb,.slice kad ks.length kcap] 99)=no at *
 go_loopw [3,27] (fun m3 i wr=>m3=.map (some (w.heap.size+1+1+1))∧∃ (k:Nat) (c:CalI) (l:List (ByteArray × Int)),k≤ks.length∧i=.int .i64 k∧Aside (formL nm (emptyC nm) [] 0 (erL ks)=formL nm c l k (erL (ks.drop k)))∧Aside (FAt no w wr c l)∧Aside (c.name=nm)) (fun _ i _=>ks.length - (intOf i).toNat)
 case atStart=>exact⟨rfl,0,emptyC nm,[],by omega,rfl,by simp[Aside],F0,rfl⟩
 case round=>
  clear F0 hmk
  obtain⟨rfl,k,c,l,hk,rfl,HE,FA,CN⟩:=hrel
  by_cases hlt:k<ks.length
  · obtain⟨x,hx⟩ : ∃ x,ks[k]? = some x:=⟨_,List.getElem?_eq_getElem hlt⟩
    have hzk:(k:Int)<(ks.length:Int):=by omega
    have X8:=H8.out x (List.mem_of_getElem? hx)
    obtain⟨n',p',ws',wv',bb',kk',kv'⟩:=x
    rcases HC.out with hcell|⟨b,off',rfl,hb0,hcell⟩
    · rw[hcell] at hlt;simp at hlt
    obtain⟨k0,k1,k2,k3,k4⟩:=node_cells hb0 hcell hx FA.out.below
    have hbr:b<wr.heap.size:=Nat.lt_of_lt_of_le hb0 FA.out.below.size
    have XO:=okL_at HOK.out hx
    obtain⟨xo1,xo2,-⟩:=XO
    obtain⟨wa,wc,rfl,_⟩:=id xo1
    obtain⟨ka,kc,rfl,_⟩:=id xo2
    have WS:=Lib.hid xo1
    clear xo1 xo2
    have EX:=HE.out
    rw[form_at nm c l k ks k n' p' ws' _ bb' kk' _ hx] at EX
    replace EX:=Lib.hid EX
    generalize hnx:erL (ks.drop (k+1))=NX at *
    replace hnx:=Lib.hid hnx
    clear HE hx hcell
    have A1:=Lib.hid (FA.out.go (bl_alloc (Below.refl _ _) (.cells #[.string n',.int .i64 p',.slice wa ws'.length wc,.bool bb',.slice ka kk'.length kc] 99)))
    have hnb:wr.heap.size≠w.heap.size+1:=fun e=>by have:=obj_lt FA.out.obj;omega
    have hbc:w.heap.size+1+1+1<wr.heap.size:=obj_lt FA.out.seen
    rcases key_ways n' with hn|⟨N,hN1,hN2,hN3⟩
    · have L1:=look_nokey n' w _ c l A1.out hn
      replace EX:=EX.out
      rw[if_pos hn] at EX
      replace EX:=Lib.hid EX
      exact absurd (EX.out.symm.trans FO.out) (by simp)
    · have L1:=look_key n' _ w _ c l A1.out hN1
      by_cases hs:getS (atV l) n'=none
      · have L2:=look_unseen n' w _ c l A1.out hs
        replace EX:=EX.out
        rw[if_neg (by rw[hN1];simp),if_neg (by rw[hs];simp)] at EX
        replace EX:=Lib.hid EX
        obtain⟨w2,MU,F2,BU⟩:=put_seen n' k w _ c l A1.out hs
        have hba:wr.heap.size≠w.heap.size+1+1+1:=fun e=>by have:=obj_lt FA.out.seen;omega
        have PK:=fun j v (hj:(wr.alloc (.cells #[.string n',.int .i64 p',.slice wa ws'.length wc,.bool bb',.slice ka kk'.length kc] 99)).cell? ⟨wr.heap.size,j,none⟩=some v)=>(BU.cell (p:=⟨wr.heap.size,j,none⟩) hba (by simp)).trans hj
        have P0:=PK 0 _ (by simp;rfl)
        have P1:=PK 1 _ (by simp;rfl)
        have P2:=PK 2 _ (by simp;rfl)
        have P3:=PK 3 _ (by simp;rfl)
        have F2:=Lib.hid F2
        have hl2:wr.heap.size<w2.heap.size:=Nat.lt_of_lt_of_le (by simp) BU.size
        obtain⟨lb,fz,d0,-⟩:=cal_cells F2.out.obj
        rw[CN.out] at d0
        have K0:=ac P0 (Obj.cells #[.string nm,.int .i64 0,.int .i64 0,.int .i64 0,.int .i64 0,.int .i64 0,.int .i64 0,.int .i64 0,.int .i64 0,.int .i64 0,.int .i64 0,.int .i64 0,.int .i64 0,.int .i64 0] 24)
        have K1:=ac P1 (Obj.cells #[.string nm,.int .i64 0,.int .i64 0,.int .i64 0,.int .i64 0,.int .i64 0,.int .i64 0,.int .i64 0,.int .i64 0,.int .i64 0,.int .i64 0,.int .i64 0,.int .i64 0,.int .i64 0] 24)
        have K2:=ac P2 (Obj.cells #[.string nm,.int .i64 0,.int .i64 0,.int .i64 0,.int .i64 0,.int .i64 0,.int .i64 0,.int .i64 0,.int .i64 0,.int .i64 0,.int .i64 0,.int .i64 0,.int .i64 0,.int .i64 0] 24)
        have K3:=ac P3 (Obj.cells #[.string nm,.int .i64 0,.int .i64 0,.int .i64 0,.int .i64 0,.int .i64 0,.int .i64 0,.int .i64 0,.int .i64 0,.int .i64 0,.int .i64 0,.int .i64 0,.int .i64 0,.int .i64 0] 24)
        have A5:=Lib.hid (F2.out.go (bl_alloc (Below.refl w2.heap.size w2) (Obj.cells #[.string nm,.int .i64 0,.int .i64 0,.int .i64 0,.int .i64 0,.int .i64 0,.int .i64 0,.int .i64 0,.int .i64 0,.int .i64 0,.int .i64 0,.int .i64 0,.int .i64 0,.int .i64 0] 24)))
        cases bb'
        · by_cases hw0:ws'.length=0
          · have tl:((ws'.length:Int) == 0)=true:=by simp[hw0]
            replace EX:=EX.out
            rw[if_pos (.inr hw0)] at EX
            replace EX:=Lib.hid EX
            clear hw0
            exact absurd (EX.out.symm.trans FO.out) (by simp)
          · have tl:((ws'.length:Int) == 0)=false:=by simpa using hw0
            replace EX:=EX.out
            rw[if_neg (fun q=>by rcases q with q|q;cases q;exact hw0 q)] at EX
            replace EX:=Lib.hid EX
            obtain⟨g',o',cap',hv,HR⟩:=RdB.of (b:=w2.heap.size) WS.out (by omega) X8 (by have:=FA.out.below.size;omega)
            injection hv with hv1 _ hv2
            subst hv1 hv2
            have HR:=Lib.hid (HR.go (.of A5.out.below))
            have hobj:(w2.alloc (Obj.cells #[.string nm,.int .i64 0,.int .i64 0,.int .i64 0,.int .i64 0,.int .i64 0,.int .i64 0,.int .i64 0,.int .i64 0,.int .i64 0,.int .i64 0,.int .i64 0,.int .i64 0,.int .i64 0] 24)).heap[w2.heap.size]? = some (calC (emptyC nm)):=alloc_here w2 _
            clear PK
            go_wp2_with fail
            refine (hN3 _ (emptyC nm) g' o' wc ws' _ hobj HR.out).mono ?_
            rintro e w3 ⟨d,rfl,hd,BW,hkd⟩
            have A6:=Lib.hid (A5.out.but BW (by omega))
            have HJ:=fun j v (hj:(w2.alloc (Obj.cells #[.string nm,.int .i64 0,.int .i64 0,.int .i64 0,.int .i64 0,.int .i64 0,.int .i64 0,.int .i64 0,.int .i64 0,.int .i64 0,.int .i64 0,.int .i64 0,.int .i64 0,.int .i64 0] 24)).cell? ⟨wr.heap.size,j,none⟩=some v)=>(BW.cell (p:=⟨wr.heap.size,j,none⟩) (by simp;omega) (World.block_lt_of_cell? _ _ hj)).trans hj
            have PC:=HJ 1 _ K1
            have P0':=HJ 0 _ K0
            clear HJ P0 P1 P2 P3 K0 K1 K2 K3 lb fz d0 hobj
            have hl3:wr.heap.size<w3.heap.size:=World.block_lt_of_cell? _ _ PC
            rcases hr:keyR n' (emptyC nm) ws' with _|d'
            · rw[hr] at EX
              replace EX:=Lib.hid EX
              clear hd hkd HR A5 F2 WS hN3
              exact absurd (EX.out.symm.trans FO.out) (by simp)
            · obtain rfl:=hkd d' hr
              rw[hr] at EX
              dsimp only at EX
              replace EX:=Lib.hid EX
              clear PC hkd HR A5 F2 WS hN3
              by_cases he:n'=sEnd
              · have te:(n'.toList == [101,110,100])=true:=str_yes he
                have EX2:=EX.out
                rw[if_pos he] at EX2
                replace EX2:=Lib.hid EX2
                have DN:Aside (d.name=nm):=by
                 unfold keyR at hr
                 rw[if_pos he] at hr
                 exact kEnd_name _ _ _ hr
                clear EX he hr
                obtain⟨lb,fz,d0,d1,d2,d3,d4,d5,d6,d7,d8,d9,d10,d11,d12,d13⟩:=cal_cells hd
                obtain⟨lb',fz',e0,e1,e2,e3,e4,e5,e6,e7,e8,e9,e10,e11,e12,e13⟩:=cal_cells A6.out.obj
                replace hd:=Lib.hid hd
                go_wp2_with fail
                go_roundw
                case rel=>exact⟨rfl,k+1,d,l ++ [(n',(k:Int))],by omega,by go_num,by have:=EX2.out;rw[← hnx.out] at this;push_cast;exact this,A6.out.put d,DN⟩
                case measure=>simp[intOf];omega
              · have te:(n'.toList == [101,110,100])=false:=str_not he
                have EX2:=EX.out
                rw[if_neg he] at EX2
                replace EX2:=Lib.hid EX2
                clear EX he hr hd
                go_wp2_with fail
                go_roundw
                case rel=>exact⟨rfl,k+1,c,l ++ [(n',(k:Int))],by omega,by go_num,by have:=EX2.out;rw[← hnx.out] at this;push_cast;exact this,A6.out,CN⟩
                case measure=>simp[intOf];omega
        · have EX2:=EX.out
          simp only[eq_self,true_or,if_true] at EX2
          exact absurd (EX2.symm.trans FO.out) (by simp)
      · obtain⟨v,hv⟩ : ∃ v,getS (atV l) n'=some v:=Option.ne_none_iff_exists'.1 hs
        have L2:=look_seen n' v w _ c l A1.out hv
        replace EX:=EX.out
        rw[if_neg (by rw[hN1];simp),if_pos hs] at EX
        replace EX:=Lib.hid EX
        exact absurd (EX.out.symm.trans FO.out) (by simp)
  · obtain rfl:k=ks.length:=by omega
    have hzk:¬ (ks.length:Int)<(ks.length:Int):=by omega
    have EX:=HE.out
    rw[List.drop_length] at EX
    replace EX:Aside (formL nm (emptyC nm) [] 0 (erL ks)=.ok (c,l)):=EX
    clear HE
    have EE:=E.out
    rw[EX.out] at EE
    dsimp only at EE
    have PC:=NP.out _ FA.out.node
    have hnb:w.heap.size≠w.heap.size+1:=by omega
    by_cases hs:getS (atV l) sEnd=none
    · rw[if_pos hs] at EE
      have E3:=E.out
      rw[EX.out] at E3
      dsimp only at E3
      exact absurd hs (hNE.out c l (EX.out.symm.trans FO.out))
    · obtain⟨v,hv⟩ : ∃ v,getS (atV l) sEnd=some v:=Option.ne_none_iff_exists'.1 hs
      have L2:=look_seen sEnd v w _ c l FA.out hv
      rw[if_neg hs] at EE
      replace EE:=Lib.hid EE
      clear EX E hs hv
      obtain⟨lb,fz,d0,d1,d2,d3,d4,d5,d6,d7,d8,d9,d10,d11,d12,d13⟩:=cal_cells FA.out.obj
      go_wp2_with fail
      obtain⟨W5,hW5,O5⟩ : ∃ W5,W5=((((((((((((((wr.setCell ⟨w.heap.size+1,0,none⟩ (.string c.name)).setCell ⟨w.heap.size+1,1,none⟩ (.int .i64 c.kind)).setCell ⟨w.heap.size+1,2,none⟩ (.int .i64 c.day)).setCell ⟨w.heap.size+1,3,none⟩ (.int .i64 c.month)).setCell ⟨w.heap.size+1,4,none⟩ (.int .i64 c.shift)).setCell ⟨w.heap.size+1,5,none⟩ (.int .i64 c.shape)).setCell ⟨w.heap.size+1,6,none⟩ (.int .i64 c.p0)).setCell ⟨w.heap.size+1,7,none⟩ (.int .i64 c.p1)).setCell ⟨w.heap.size+1,8,none⟩ (.int .i64 c.p2)).setCell ⟨w.heap.size+1,9,none⟩ (.int .i64 c.cycle)).setCell ⟨w.heap.size+1,10,none⟩ (.int .i64 c.extra)).setCell ⟨w.heap.size+1,11,none⟩ (.int .i64 c.first)).setCell ⟨w.heap.size+1,12,none⟩ (.int .i64 c.last)).setCell ⟨w.heap.size+1,13,none⟩ (.int .i64 c.policy))∧FAt no w W5 c l:=⟨set14 wr (w.heap.size+1) c,rfl,FA.out.put c⟩
      rw[← hW5]
      clear hW5 lb fz d0 d1 d2 d3 d4 d5 d6 d7 d8 d9 d10 d11 d12 d13
      obtain⟨lb,fz,d0,d1,d2,d3,d4,d5,d6,d7,d8,d9,d10,d11,d12,d13⟩:=cal_cells O5.obj
      exact bodyPost_ret (v:=.tuple #[calA c,.map (some (w.heap.size+1+1+1)),.int .i64 0,.int .i64 0]) (by simp[results,Tryz.results79,go_sem,d0,d1,d2,d3,d4,d5,d6,d7,d8,d9,d10,d11,d12,d13];try rfl) rfl (RF.out _ _ _ _ EE.out O5.below (by omega) O5.seen)
def NodeI.nm:NodeI→ByteArray
 | .mk n _ _ _ _=>n
theorem keys_mem (e:MapEntry) (h:e ∈ strE 0 keysL):∃ s v,e.key=.string s∧getS keysL s=some v:=by
 simp only[strE,keysL,List.mem_cons,List.not_mem_nil,or_false] at h
 rcases h with rfl|rfl|rfl|rfl|rfl|rfl|rfl <;> exact⟨_,_,rfl,rfl⟩
theorem keys_born:(∀ x ∈ (strE 0 keysL).toArray.toList,x.born<7)∧((strE 0 keysL).toArray.toList.map (·.born)).Nodup:=by
 simp[strE,keysL]
def seenAt (w:World) (r:Nat):Array Nat:=match w.heap[r]? with
 | some (.mapIter _ _ seen _)=>seen
 | _=>#[]
theorem seenAt_eq {w:World} {r:Nat} {m:Option Nat} {s c:Nat} {seen:Array Nat} (h:w.heap[r]? = some (.mapIter m s seen c)):seenAt w r=seen:=by unfold seenAt;rw[h]
theorem fits_ok (n:ByteArray) (p:Int) (ws:List WordI) (wv:Value) (bb:Bool) (ks:List LT) (kv:Value) (kind:Int) (r:Nat) (l:List (ByteArray × Int)) (w:World) (hx:(LT.mk n p ws wv bb ks kv).ok w) (hbl:∀ b ∈ blL ks,b<w.heap.size)
 (hm:MapS w r (atV l)) (h1:getS (atV l) sPeriods=none) (h2:getS (atV l) sPay=none) (hk:∀ x ∈ ks,standB kind x.er.nm=true) (hall:∀ s v,getS keysL s=some v→standB kind s=true→getS (atV l) s≠none) :
 Calls Tryz.prog 80 #[.agg #[.string n,.int .i64 p,wv,.bool bb,kv],.int .i64 kind,.map (some r)] w fun e w'=>e=.returned (.tuple #[.int .i64 0,.int .i64 0])∧Below w.heap.size w w':=by
 obtain⟨hws,hks,hok⟩:=hx
 obtain⟨wad,wcap,rfl,_⟩:=id hws
 obtain⟨kad,kcap,rfl,m1,m2,hkc⟩:=hks
 unfold maxLen at m2
 have HC:=Lib.hid hkc
 have HOK:=Lib.hid hok
 have HK:=Lib.hid hk
 have HALL:=Lib.hid hall
 have HM:=Lib.hid hm
 have H1:=Lib.hid h1
 have H2:=Lib.hid h2
 have hrl:=obj_lt hm
 have LK:=Lib.hid (fun (s:ByteArray) (W:World) (hb:Below w.heap.size w W) (v:Value) (hg:getS (atV l) s=some v)=>(look_yes _ _ _ true Tryz.underlying95 Tryz.underlying9 (hm.go hb) hg:(Instr.lookup 95 (.map (some r)) (.string s) true).run Tryz.prog W=_))
 have LN:=Lib.hid (fun (s:ByteArray) (W:World) (hb:Below w.heap.size w W) (hg:getS (atV l) s=none)=>(look_no _ _ _ true Tryz.underlying95 Tryz.underlying9 (by kernel_rfl:(zeroValue 3).run Tryz.prog W=.ok (.int .i64 0) W) (hm.go hb) hg:(Instr.lookup 95 (.map (some r)) (.string s) true).run Tryz.prog W=_))
 have ST:=Lib.hid (fun s w=>stands_any kind s w)
 clear hws hok hkc hk hall hm h1 h2
 have B0:=bl_alloc (Below.refl w.heap.size w) (.cells #[.string n,.int .i64 p,.slice wad ws.length wcap,.bool bb,.slice kad ks.length kcap] 99)
 have L1:=LN.out sPeriods _ B0 H1.out
 have L2:=LN.out sPay _ B0 H2.out
 replace B0:=Lib.hid B0
 go_enter Tryz.func80,Tryz.ntmps80
 go_wp2_with fail
 clear L1 L2
 generalize (w.alloc (.cells #[.string n,.int .i64 p,.slice wad ws.length wcap,.bool bb,.slice kad ks.length kcap] 99))=W0 at *
 go_loopw [31] (fun i wr=>∃ k:Nat,k≤ks.length∧i=.int .i64 k∧Aside (Below w.heap.size w wr)) (fun i _=>ks.length - (intOf i).toNat)
 case atStart=>exact⟨0,by omega,rfl,B0.out⟩
 case round=>
  clear B0
  obtain⟨k,hk,rfl,HB⟩:=hrel
  by_cases hlt:k<ks.length
  · obtain⟨x,hx⟩ : ∃ x,ks[k]? = some x:=⟨_,List.getElem?_eq_getElem hlt⟩
    have hzk:(k:Int)<(ks.length:Int):=by omega
    have XS:=HK.out x (List.mem_of_getElem? hx)
    obtain⟨n',p',ws',wv',bb',kk',kv'⟩:=x
    rcases HC.out with hcell|⟨b,off',rfl,hb0,hcell⟩
    · rw[hcell] at hlt;simp at hlt
    obtain⟨k0,k1,k2,k3,k4⟩:=node_cells hb0 hcell hx HB.out
    have hbr:b<wr.heap.size:=Nat.lt_of_lt_of_le hb0 HB.out.size
    obtain⟨xo1,xo2,-⟩:=okL_at HOK.out hx
    obtain⟨wa,wc,rfl,_⟩:=id xo1
    obtain⟨ka,kc,rfl,_⟩:=id xo2
    have S1:Aside (∀ W,Calls Tryz.prog 119 #[.int .i64 kind,.string n'] W fun e w'=>e=.returned (.bool true)∧Below W.heap.size W w'):=fun W=>by
     have:=ST.out n' W
     rw[show standB kind n'=true from XS] at this
     exact this
    clear xo1 xo2 hcell hx XS
    go_wp2_with fail
    refine (S1.out _).mono ?_
    rintro e w1 ⟨rfl,hb1⟩
    have hB1:=Lib.hid (bl_call (bl_alloc HB.out _) hb1)
    clear hb1
    go_wp2_with fail
    go_roundw
    case rel=>exact⟨k+1,by omega,by go_num,hB1.out⟩
    case measure=>simp[intOf];omega
  · obtain rfl:k=ks.length:=by omega
    have hzk:¬ (ks.length:Int)<(ks.length:Int):=by omega
    go_wp2_with fail
    refine (keys_any _).mono ?_
    rintro e w1 ⟨rfl,hw1⟩
    have hB1:Below w.heap.size w w1:=by rw[hw1];exact bl_alloc HB.out _
    have hm1:w1.heap[wr.heap.size]? = some (.map (strE 0 keysL).toArray 7):=by rw[hw1];exact alloc_here _ _
    have hrg:=run_range_map (P:=Tryz.prog) w1 172 _ _ wr.heap.size _ 7 Tryz.underlying172 hm1
    have hge:w.heap.size≤wr.heap.size:=HB.out.size
    have hi1:=alloc_here w1 (.mapIter (some wr.heap.size) 7 #[] 7)
    have hm2:=alloc_there hm1 (.mapIter (some wr.heap.size) 7 #[] 7)
    have hB2:=Lib.hid (bl_alloc hB1 (.mapIter (some wr.heap.size) 7 #[] 7))
    have hge1:w.heap.size<w1.heap.size:=Nat.lt_of_le_of_lt hge (obj_lt hm1)
    clear hw1 hB1
    go_wp2_with fail
    have hne:wr.heap.size≠w1.heap.size:=by have:=obj_lt hm1;omega
    generalize wr.heap.size=bm at *
    generalize w1.heap.size=it at *
    generalize (w1.alloc (.mapIter (some bm) 7 #[] 7))=W1 at *
    clear HC HOK HK
    go_loopw [14] (fun s wr=>∃ seen,Aside (Below w.heap.size w wr)∧wr.heap[it]? = some (.mapIter (some bm) 7 seen 7)∧wr.heap[bm]? = some (.map (strE 0 keysL).toArray 7)) (fun _ wr=>(leftOf (strE 0 keysL).toArray (seenAt wr it)).size)
    case atStart=>exact⟨#[],hB2.out,hi1,hm2⟩
    case round=>
     clear hB2 hi1 hm2 hm1 hrg HB
     obtain⟨seen,HB3,hi,hmm⟩:=hrel
     rcases run_next_at (P:=Tryz.prog) wr 0 it bm 7 7 seen _ 7 hi hmm keys_born.1 (Nat.le_refl _) with ⟨h0,hrun⟩|⟨e,he,w2,hal,hrun⟩
     · have hnx:∀ ty,(Instr.next (.pointer (some ⟨it,0,none⟩)) false ty).run Tryz.prog wr=_:=fun _=>hrun
       go_wp2
       exact bodyPost_ret (v:=.tuple #[.int .i64 0,.int .i64 0]) (by simp[results,Tryz.results80,go_sem]) rfl ⟨rfl,HB3.out⟩
     · have hmem:=(mem_left he).1
       obtain⟨s,v,ek,gv⟩:=keys_mem e (by simpa using hmem)
       rw[ek] at hrun
       have hnx:∀ ty,(Instr.next (.pointer (some ⟨it,0,none⟩)) false ty).run Tryz.prog wr=_:=fun _=>hrun
       have hb2:But it wr w2:=by rcases hal with rfl|rfl;exact But.of (Below.refl _ _);exact But.of (Below.refl _ _).drew
       have hil:it<w2.heap.size:=Nat.lt_of_lt_of_le (obj_lt hi) hb2.size
       have hB3:=hb2.trans (putO_but w2 it (.mapIter (some bm) 7 (seen.push e.born) 7))
       have hi3:(putO w2 it (.mapIter (some bm) 7 (seen.push e.born) 7)).heap[it]? = some (.mapIter (some bm) 7 (seen.push e.born) 7):=putO_here hil
       have hm3:=hB3.obj hne hmm
       have hen:=run_entry_at (P:=Tryz.prog) _ it bm 7 seen _ 7 e hi3 hm3 hmem keys_born.2
       rw[ek] at hen
       have hBW:=Lib.hid (hB3.below HB3.out (by omega) HB3.out.size)
       have SS:=Lib.hid (fun W=>ST.out s W)
       have hsb:∀ o,ChangeMaps.setBlock w2 it o=putO w2 it o:=fun o=>rfl
       simp only[hsb] at hnx
       clear hrun hB3 hb2 hsb hal
       generalize putO w2 it (.mapIter (some bm) 7 (seen.push e.born) 7)=W2 at *
       obtain⟨b1,t1⟩ : ∃ b,(s.toList == [112,101,114,105,111,100,115])=b:=⟨_,rfl⟩
       obtain⟨b2,t2⟩ : ∃ b,(s.toList == [112,97,121])=b:=⟨_,rfl⟩
       rcases Option.eq_none_or_eq_some (getS (atV l) s) with hg|⟨u,hg⟩
       · have L:=LN.out s _ hBW.out hg
         have sF:standB kind s=false:=by
          rcases Bool.eq_false_or_eq_true (standB kind s) with q|q
          · exact absurd hg (HALL.out s v gv q)
          · exact q
         rw[sF] at SS
         clear hg sF gv hmem
         cases b1 <;> cases b2 <;> (go_wp2_with fail;refine (SS.out _).mono ?_;rintro e9 w9 ⟨rfl,hb9⟩;have hB9:=Lib.hid (bl_call hBW.out hb9);have hi9:=obj_go hb9 hi3;have hm9:=obj_go hb9 hm3;clear hb9;go_wp2_with fail;go_roundw;(case rel=>exact⟨_,hB9.out,hi9,hm9⟩);case measure=>(rw[seenAt_eq hi9,seenAt_eq hi];exact left_shrinks _ _ _ he))
       · have L:=LK.out s _ hBW.out u hg
         obtain⟨sb,hsb⟩ : ∃ b,standB kind s=b:=⟨_,rfl⟩
         rw[hsb] at SS
         clear hg gv hmem hsb
         cases sb <;> cases b1 <;> cases b2 <;> (go_wp2_with fail;refine (SS.out _).mono ?_;rintro e9 w9 ⟨rfl,hb9⟩;have hB9:=Lib.hid (bl_call hBW.out hb9);have hi9:=obj_go hb9 hi3;have hm9:=obj_go hb9 hm3;clear hb9;go_wp2_with fail;go_roundw;(case rel=>exact⟨_,hB9.out,hi9,hm9⟩);case measure=>(rw[seenAt_eq hi9,seenAt_eq hi];exact left_shrinks _ _ _ he))
end Go.Proofs.YtmkhgnccpkhcaaaGreatDoor
