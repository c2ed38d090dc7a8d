import Derived.Test.YtmkhgnccpkhcaaaGreatDoorYq40
import Derived.Test.YtmkhgnccpkhcaaaGreatDoorYq32
set_option linter.unusedVariables false
set_option linter.unusedSimpArgs false
set_option maxRecDepth 100000
set_option maxHeartbeats 8000000
namespace Go.Proofs.YtmkhgnccpkhcaaaGreatDoor
open Go Go.RowKit
def pcI (lv F T:Int) (sa sb:Int × Int→Int) (x:Int × Int) (i:Nat):Int:=if i=0 then lv else if i=1 then x.1 else if i=2 then x.2 else if i=3 then max F (sa x) else min T (sb x)
def pcF (lv F T:Int) (sa sb:Int × Int→Int) (L:List (Int × Int)) (k j:Nat):Int:=if j / 5<k then pcI lv F T sa sb (L.getD (j / 5) (0,0)) (j % 5) else 0
def dyF (F T:Int) (sa sb:Int × Int→Int) (L:List (Int × Int)) (k j:Nat):Int:=if j<k then min T (sb (L.getD j (0,0))) - max F (sa (L.getD j (0,0)))+1 else 0
theorem pcF_step {w:World} {b n:Nat} {lv F T:Int} {sa sb:Int × Int→Int} {L:List (Int × Int)} {k:Nat} (h:RowF w b (n*5) (pcF lv F T sa sb L k)) (hk:k<n) {x:Int × Int} (hx:L.getD k (0,0)=x) :
 RowF (((((w.setCell ⟨b,k*5,none⟩ (.int .i64 lv)).setCell ⟨b,k*5+1,none⟩ (.int .i64 x.1)).setCell ⟨b,k*5+2,none⟩ (.int .i64 x.2)).setCell ⟨b,k*5+3,none⟩ (.int .i64 (max F (sa x)))).setCell ⟨b,k*5+4,none⟩ (.int .i64 (min T (sb x)))) b (n*5) (pcF lv F T sa sb L (k+1)):=by
 refine (((((h.set (k*5) (by omega) lv).set (k*5+1) (by omega) x.1).set (k*5+2) (by omega) x.2).set (k*5+3) (by omega) (max F (sa x))).set (k*5+4) (by omega) (min T (sb x))).congr fun j hj=>?_
 unfold pcF
 by_cases q:j / 5<k
 · rw[if_pos (by omega),if_neg (by omega),if_neg (by omega),if_neg (by omega),if_neg (by omega),if_neg (by omega),if_pos q]
 · by_cases e:j / 5=k
   · rw[if_pos (by omega),e,hx]
     unfold pcI
     have m:j=k*5∨j=k*5+1∨j=k*5+2∨j=k*5+3∨j=k*5+4:=by omega
     rcases m with rfl|rfl|rfl|rfl|rfl
     · rw[if_pos (by omega),if_neg (by omega),if_neg (by omega),if_neg (by omega),if_neg (by omega),if_pos rfl]
     · rw[if_neg (by omega),if_pos (by omega),if_neg (by omega),if_neg (by omega),if_neg (by omega),if_pos rfl]
     · rw[if_neg (by omega),if_neg (by omega),if_pos (by omega),if_neg (by omega),if_neg (by omega),if_pos rfl]
     · rw[if_neg (by omega),if_neg (by omega),if_neg (by omega),if_pos (by omega),if_neg (by omega),if_pos rfl]
     · rw[if_neg (by omega),if_neg (by omega),if_neg (by omega),if_neg (by omega),if_pos rfl]
   · rw[if_neg (by omega),if_neg (by omega),if_neg (by omega),if_neg (by omega),if_neg (by omega),if_neg (by omega),if_neg q]
theorem dyF_step {w:World} {b n:Nat} {F T:Int} {sa sb:Int × Int→Int} {L:List (Int × Int)} {k:Nat} (h:RowF w b n (dyF F T sa sb L k)) (hk:k<n) {x:Int × Int} (hx:L.getD k (0,0)=x) :
 RowF (w.setCell ⟨b,k,none⟩ (.int .i64 (min T (sb x) - max F (sa x)+1))) b n (dyF F T sa sb L (k+1)):=by
 refine (h.set k hk _).congr fun j hj=>?_
 unfold dyF
 by_cases e:j=k
 · subst e;rw[if_pos (by omega),if_pos rfl,hx]
 · rw[if_neg e]
   by_cases q:j<k
   · rw[if_pos (by omega),if_pos q]
   · rw[if_neg (by omega),if_neg q]
theorem made_five (n:Nat):madeCells #[.int .i64 0,.int .i64 0,.int .i64 0,.int .i64 0,.int .i64 0] n=Array.replicate n (.int .i64 0):=by
 apply Array.ext_getElem?
 intro j
 by_cases hj:j<n
 · have:j % 5=0∨j % 5=1∨j % 5=2∨j % 5=3∨j % 5=4:=by omega
   rcases this with h|h|h|h|h <;> simp[madeCells,hj,h]
 · simp[madeCells,hj]
theorem info_piece:(Tryz.prog.info? 300).map (fun i=>(i.zero,i.size,i.bytes))=some (some (.agg #[.int .i64 0,.int .i64 0,.int .i64 0,.int .i64 0,.int .i64 0]),5,40):=by kernel_rfl
theorem make_piece (n:Nat) (hn:n≤4096) (w:World):(Instr.makeSlice 293 (.int .i64 (n:Int)) (.int .i64 (n:Int))).run Tryz.prog w=.ok (.slice (some ⟨w.heap.size,0,none⟩) n n) (w.alloc (.cells (Array.replicate (n*5) (.int .i64 0)) 300)):=by
 obtain⟨i,hi,h1,h2,h3⟩:=info_parts info_piece
 have:=run_makeSlice (P:=Tryz.prog) w 293 300 i (.agg #[.int .i64 0,.int .i64 0,.int .i64 0,.int .i64 0,.int .i64 0]) Tryz.underlying293 hi h1 .i64 .i64 n n (by omega) (by omega) (by rw[h2];omega) (by rw[h3];omega) (by omega)
 rw[this,h2]
 show _=Result.ok _ _
 rw[← made_five]
 simp[Value.cells]
theorem pdays_any (lv y i a b:Int) (w:World) (ha:-10000000≤a∧a≤10000000) (hb:-10000000≤b∧b≤10000000):Calls Tryz.prog 239 #[.agg #[.int .i64 lv,.int .i64 y,.int .i64 i,.int .i64 a,.int .i64 b]] w fun e w'=>e=.returned (.int .i64 (b - a+1))∧Below w.heap.size w w':=by
 go_enter Tryz.func239,Tryz.ntmps239
 go_wp2
 go_ret
 exact⟨rfl,bl_alloc (Below.refl _ _) _⟩
structure PcM (w0 W:World) (bo bd n:Nat):Prop where
 below:Below w0.heap.size w0 W
 out:RowF W bo (n*5) (fun _=>0)
 days:RowF W bd n (fun _=>0)
 o0:w0.heap.size≤bo
 d0:w0.heap.size≤bd
 o1:bo<W.heap.size
 d1:bd<W.heap.size
 od:bo≠bd
theorem PcM.one (w0 W:World) (n:Nat) (t u:TypeId) (hb:Below w0.heap.size w0 W):PcM W ((W.alloc (.cells (Array.replicate (n*5) (.int .i64 0)) t)).alloc (.cells (Array.replicate n (.int .i64 0)) u)) W.heap.size (W.heap.size+1) n:=by
 have h1:=row_made W (n*5) t
 have h2:=row_made (W.alloc (.cells (Array.replicate (n*5) (.int .i64 0)) t)) n u
 rw[World.size_alloc] at h2
 exact⟨bl_alloc (bl_alloc (Below.refl _ _) _) _,h1.go (bl_alloc (Below.refl _ _) _),h2,Nat.le_refl _,Nat.le_succ _,by simp;omega,by simp,by omega⟩
theorem PcM.two (w0 W:World) (n:Nat) (t u:TypeId) (hb:Below w0.heap.size w0 W):PcM W ((W.alloc (.cells (Array.replicate n (.int .i64 0)) u)).alloc (.cells (Array.replicate (n*5) (.int .i64 0)) t)) (W.heap.size+1) W.heap.size n:=by
 have h1:=row_made W n u
 have h2:=row_made (W.alloc (.cells (Array.replicate n (.int .i64 0)) u)) (n*5) t
 rw[World.size_alloc] at h2
 exact⟨bl_alloc (bl_alloc (Below.refl _ _) _) _,h2,h1.go (bl_alloc (Below.refl _ _) _),Nat.le_succ _,Nat.le_refl _,by simp,by simp;omega,by omega⟩
theorem PcM.go {w0 W W':World} {bo bd n:Nat} (h:PcM w0 W bo bd n) (hb:Below W.heap.size W W'):PcM w0 W' bo bd n:=⟨bl_call h.below hb,h.out.go hb,h.days.go hb,h.o0,h.d0,Nat.lt_of_lt_of_le h.o1 hb.size,Nat.lt_of_lt_of_le h.d1 hb.size,h.od⟩
structure PcS (w:World) (c:CalI) (lv F T:Int) (L:List (Int × Int)) (Ws:Int→List (Int × Int)) (Ps:Int→List Int) (sa sb:Int × Int→Int) (lb fb bo bd k:Nat) (wr:World):Prop where
 below:Below w.heap.size w wr
 oc:wr.heap[w.heap.size]? = some (calC c)
 os:wr.heap[w.heap.size+1]? = some (.cells #[.int .i64 F,.int .i64 T] 73)
 ls:∀ j x,L[j]? = some x→wr.cell? ⟨lb,j*3,none⟩=some (.int .i64 lv)∧wr.cell? ⟨lb,j*3+1,none⟩=some (.int .i64 x.1)∧wr.cell? ⟨lb,j*3+2,none⟩=some (.int .i64 x.2)
 out:RowF wr bo (L.length*5) (pcF lv F T sa sb L k)
 days:RowF wr bd L.length (dyF F T sa sb L k)
 lo:w.heap.size+1<lb∧lb<bo∧lb<bd∧bo<fb∧bd<fb∧bo≠bd∧fb<wr.heap.size
theorem PcS.go {w:World} {c:CalI} {lv F T:Int} {L:List (Int × Int)} {Ws:Int→List (Int × Int)} {Ps:Int→List Int} {sa sb:Int × Int→Int} {lb fb bo bd k:Nat} {wr w':World} (h:PcS w c lv F T L Ws Ps sa sb lb fb bo bd k wr) (hb:Below wr.heap.size wr w'):PcS w c lv F T L Ws Ps sa sb lb fb bo bd k w':=by
 have hl:=h.lo
 exact⟨bl_call h.below hb,obj_go hb h.oc,obj_go hb h.os,fun j x hj=>by
  obtain⟨a,b,d⟩:=h.ls j x hj
  exact⟨(hb.cell (p:=⟨lb,_,none⟩) (by simp;omega)).trans a,(hb.cell (p:=⟨lb,_,none⟩) (by simp;omega)).trans b,(hb.cell (p:=⟨lb,_,none⟩) (by simp;omega)).trans d⟩,h.out.go hb,h.days.go hb,by have:=hb.size;omega⟩
theorem PcS.setf {w:World} {c:CalI} {lv F T:Int} {L:List (Int × Int)} {Ws:Int→List (Int × Int)} {Ps:Int→List Int} {sa sb:Int × Int→Int} {lb fb bo bd k:Nat} {wr:World} (h:PcS w c lv F T L Ws Ps sa sb lb fb bo bd k wr) (i:Nat) (v:Value):PcS w c lv F T L Ws Ps sa sb lb fb bo bd k (wr.setCell ⟨fb,i,none⟩ v):=by
 have hl:=h.lo
 exact⟨bl_setCell h.below _ (by simp;omega),obj_oth h.oc _ _ (by simp;omega),obj_oth h.os _ _ (by simp;omega),fun j x hj=>by
  obtain⟨a,b,d⟩:=h.ls j x hj
  have ne:∀ q:Nat,(⟨lb,q,none⟩ : Addr)≠⟨fb,i,none⟩:=fun q e=>by have:=congrArg Addr.block e;simp at this;omega
  exact⟨by rw[World.cell?_setCell_other _ _ _ _ (ne _).symm];exact a,by rw[World.cell?_setCell_other _ _ _ _ (ne _).symm];exact b,by rw[World.cell?_setCell_other _ _ _ _ (ne _).symm];exact d⟩,h.out.other (by simp;omega) _,h.days.other (by simp;omega) _,by rw[set_size];omega⟩
theorem PcS.step {w:World} {c:CalI} {lv F T:Int} {L:List (Int × Int)} {Ws:Int→List (Int × Int)} {Ps:Int→List Int} {sa sb:Int × Int→Int} {lb fb bo bd k:Nat} {wr:World} (h:PcS w c lv F T L Ws Ps sa sb lb fb bo bd k wr) (hk:k<L.length) {x:Int × Int} (hx:L.getD k (0,0)=x) (w1:World)
 (hw1:w1=((((wr.setCell ⟨bo,k*5,none⟩ (.int .i64 lv)).setCell ⟨bo,k*5+1,none⟩ (.int .i64 x.1)).setCell ⟨bo,k*5+2,none⟩ (.int .i64 x.2)).setCell ⟨bo,k*5+3,none⟩ (.int .i64 (max F (sa x)))).setCell ⟨bo,k*5+4,none⟩ (.int .i64 (min T (sb x)))) :
 Below w.heap.size w w1∧(∀ b o,b≠bo→wr.heap[b]? = some o→w1.heap[b]? = some o)∧RowF w1 bo (L.length*5) (pcF lv F T sa sb L (k+1))∧RowF w1 bd L.length (dyF F T sa sb L k)∧(∀ b i,b≠bo→w1.cell? ⟨b,i,none⟩=wr.cell? ⟨b,i,none⟩)∧w1.heap.size=wr.heap.size:=by
 have hl:=h.lo
 subst hw1
 refine⟨bl_setCell (bl_setCell (bl_setCell (bl_setCell (bl_setCell h.below _ (by simp;omega)) _ (by simp;omega)) _ (by simp;omega)) _ (by simp;omega)) _ (by simp;omega),fun b o hb ho=>obj_oth (obj_oth (obj_oth (obj_oth (obj_oth ho _ _ (by simp;omega)) _ _ (by simp;omega)) _ _ (by simp;omega)) _ _ (by simp;omega)) _ _ (by simp;omega),pcF_step h.out hk hx,((((h.days.other (by simp;omega) _).other (by simp;omega) _).other (by simp;omega) _).other (by simp;omega) _).other (by simp;omega) _,fun b i hb=>?_,by simp only[set_size]⟩
 have ne:∀ q:Nat,(⟨b,i,none⟩ : Addr)≠⟨bo,q,none⟩:=fun q e=>hb (congrArg Addr.block e)
 rw[World.cell?_setCell_other _ _ _ _ (ne _).symm,World.cell?_setCell_other _ _ _ _ (ne _).symm,World.cell?_setCell_other _ _ _ _ (ne _).symm,World.cell?_setCell_other _ _ _ _ (ne _).symm,World.cell?_setCell_other _ _ _ _ (ne _).symm]
theorem PcS.done {w:World} {c:CalI} {lv F T:Int} {L:List (Int × Int)} {Ws:Int→List (Int × Int)} {Ps:Int→List Int} {sa sb:Int × Int→Int} {lb fb bo bd k:Nat} {wr:World} (h:PcS w c lv F T L Ws Ps sa sb lb fb bo bd k wr) (hk:k<L.length) {x:Int × Int} (hx:L.getD k (0,0)=x) (w1 w8:World)
 (hw1:w1=((((wr.setCell ⟨bo,k*5,none⟩ (.int .i64 lv)).setCell ⟨bo,k*5+1,none⟩ (.int .i64 x.1)).setCell ⟨bo,k*5+2,none⟩ (.int .i64 x.2)).setCell ⟨bo,k*5+3,none⟩ (.int .i64 (max F (sa x)))).setCell ⟨bo,k*5+4,none⟩ (.int .i64 (min T (sb x))))
 (hb8:Below w1.heap.size w1 w8) :
 PcS w c lv F T L Ws Ps sa sb lb fb bo bd (k+1) (w8.setCell ⟨bd,k,none⟩ (.int .i64 (min T (sb x) - max F (sa x)+1))) ∧
 (∃ u,w8.cell? ⟨bd,k,none⟩=some u)∧w8.frozen? ⟨bd,k,none⟩=false∧bd<w8.heap.size ∧
 (∀ b o,b≠bo→b≠bd→wr.heap[b]? = some o→(w8.setCell ⟨bd,k,none⟩ (.int .i64 (min T (sb x) - max F (sa x)+1))).heap[b]? = some o) ∧
 (∀ base v y ws ps,bo<base→bd<base→FrR base wr v y ws ps→FrR base (w8.setCell ⟨bd,k,none⟩ (.int .i64 (min T (sb x) - max F (sa x)+1))) v y ws ps):=by
 have hl:=h.lo
 obtain⟨B1,K1,R1,D1,C1,Z1⟩:=h.step hk hx w1 hw1
 have hz:=hb8.size
 have D8:=D1.go hb8
 refine⟨⟨bl_setCell (bl_call B1 hb8) _ (by simp;omega),obj_oth (obj_go hb8 (K1 _ _ (by omega) h.oc)) _ _ (by simp;omega),obj_oth (obj_go hb8 (K1 _ _ (by omega) h.os)) _ _ (by simp;omega),fun j z hj=>?_,(R1.go hb8).other (by simp;omega) _,dyF_step D8 hk hx,by rw[set_size];omega⟩,⟨_,(D8 k hk).1⟩,(D8 k hk).2,by omega,fun b o hb hd ho=>obj_oth (obj_go hb8 (K1 _ _ hb ho)) _ _ (by simp;omega),fun base v y ws ps g1 g2 hf=>?_⟩
 · obtain⟨a,b,d⟩:=h.ls j z hj
   have e:∀ q:Nat,(w8.setCell ⟨bd,k,none⟩ (.int .i64 (min T (sb x) - max F (sa x)+1))).cell? ⟨lb,q,none⟩=wr.cell? ⟨lb,q,none⟩:=fun q=>by
    rw[World.cell?_setCell_other _ _ _ _ (fun e=>by have:=congrArg Addr.block e;simp at this;omega),hb8.cell (p:=⟨lb,q,none⟩) (by simp;omega),C1 _ _ (by omega)]
   exact⟨by rw[e];exact a,by rw[e];exact b,by rw[e];exact d⟩
 · subst hw1
   exact (((((((hf.other (p:=⟨bo,k*5,none⟩) g1 _).other (p:=⟨bo,k*5+1,none⟩) g1 _).other (p:=⟨bo,k*5+2,none⟩) g1 _).other (p:=⟨bo,k*5+3,none⟩) g1 _).other (p:=⟨bo,k*5+4,none⟩) g1 _).go hb8).other (p:=⟨bd,k,none⟩) g2 _)
def yrI (y:Int) (s1 s2:Value):Obj:=.cells #[.int .i64 y,s1,s2] 131
def FbS (L:List (Int × Int)) (Ws:Int→List (Int × Int)) (Ps:Int→List Int) (fb k:Nat) (wr:World):Prop:=
 (k=0∧wr.heap[fb]? = some (yrI 0 (.slice none 0 0) (.slice none 0 0)))∨∃ q x ad n1 cap1 pb n2 base,k=q+1∧L[q]? = some x∧fb<base∧FrR base wr (.agg #[.int .i64 x.1,.slice ad n1 cap1,.slice (some ⟨pb,0,none⟩) n2 n2]) x.1 (Ws x.1) (Ps x.1)∧wr.heap[fb]? = some (yrI x.1 (.slice ad n1 cap1) (.slice (some ⟨pb,0,none⟩) n2 n2))
theorem pieces_any (c:CalI) (lv F T:Int) (L:List (Int × Int)) (Ws:Int→List (Int × Int)) (Ps:Int→List Int) (wa wb sa sb:Int × Int→Int) (w:World) (hn:L.length≤4096) (hn0:0<L.length) (hF:-10000000≤F∧F≤10000000) (hT:-10000000≤T∧T≤10000000)
 (MT:RowKit.Hid (∀ w,Calls Tryz.prog 238 #[calA c,.int .i64 lv,.agg #[.int .i64 F,.int .i64 T]] w fun e w'=>∃ v,e=.returned (.tuple #[v,.int .i64 0])∧Below w.heap.size w w'∧OwnC w' w.heap.size 42 3 v (uniL lv) L))
 (MK:RowKit.Hid (∀ x,x ∈ L→∀ w,Calls Tryz.prog 54 #[calA c,.int .i64 lv,.int .i64 x.1] w fun e w'=>∃ v,e=.returned (.tuple #[v,.int .i64 0])∧Below w.heap.size w w'∧FrR w.heap.size w' v x.1 (Ws x.1) (Ps x.1)))
 (WK:RowKit.Hid (∀ x,x ∈ L→∀ v base w,FrR base w v x.1 (Ws x.1) (Ps x.1)→Calls Tryz.prog 101 #[v,.agg #[.int .i64 lv,.int .i64 x.1,.int .i64 x.2]] w fun e w'=>e=.returned (.tuple #[.int .i64 (wa x),.int .i64 (wb x),.bool true])∧Below w.heap.size w w'))
 (SP:RowKit.Hid (∀ x,x ∈ L→∀ v base w,FrR base w v x.1 (Ws x.1) (Ps x.1)→Calls Tryz.prog 58 #[v,.int .i64 (wa x),.int .i64 (wb x)] w fun e w'=>e=.returned (.agg #[.int .i64 (sa x),.int .i64 (sb x)])∧Below w.heap.size w w'))
 (BD:RowKit.Hid (∀ x,x ∈ L→(-10000000≤sa x∧sa x≤10000000)∧(-10000000≤sb x∧sb x≤10000000))) :
 Calls Tryz.prog 205 #[calA c,.int .i64 lv,.agg #[.int .i64 F,.int .i64 T]] w fun e w'=>∃ bo bd,e=.returned (.tuple #[.slice (some ⟨bo,0,none⟩) L.length L.length,.slice (some ⟨bd,0,none⟩) L.length L.length,.int .i64 0])∧w.heap.size≤bo∧w.heap.size≤bd∧RowF w' bo (L.length*5) (pcF lv F T sa sb L L.length)∧RowF w' bd L.length (dyF F T sa sb L L.length)∧Below w.heap.size w w':=by
 have mk1:=make_i64 L.length hn
 have mk2:=make_piece L.length hn
 go_enter Tryz.func205,Tryz.ntmps205
 go_wp2_with fail
 refine (MT.out _).mono ?_
 rintro e w1 ⟨v,rfl,hb1,hO⟩
 obtain⟨lb,cap,rfl⟩:=hO.succ hn0
 have oc1:=obj_go hb1 (alloc_there (alloc_here w (calC c)) (.cells #[.int .i64 F,.int .i64 T] 73))
 have os1:=obj_go hb1 (alloc_here (w.alloc (calC c)) (.cells #[.int .i64 F,.int .i64 T] 73))
 have B1:=bl_call (bl_alloc (bl_alloc (Below.refl w.heap.size w) (calC c)) (.cells #[.int .i64 F,.int .i64 T] 73)) hb1
 simp only[World.size_alloc] at os1
 have lb1:=hO.lt lb rfl
 simp only[World.size_alloc] at lb1
 have ls1:∀ j x,L[j]? = some x→w1.cell? ⟨lb,j*3,none⟩=some (.int .i64 lv)∧w1.cell? ⟨lb,j*3+1,none⟩=some (.int .i64 x.1)∧w1.cell? ⟨lb,j*3+2,none⟩=some (.int .i64 x.2):=fun j x hj=>by
  obtain⟨_,_,hv,-,-,hc⟩:=OwnC.rd (uniL_len lv) hO
  rcases hc with hc|⟨b',off',e,hb',hc⟩
  · rw[hc] at hn0;simp at hn0
  · cases hv
    cases e
    have h0:=hc j x hj 0 _ rfl
    have h1:=hc j x hj 1 _ rfl
    have h2:=hc j x hj 2 _ rfl
    simp only[Nat.zero_add] at h0 h1 h2
    exact⟨h0,h1,h2⟩
 replace ls1:=Lib.hid ls1
 have HB1:=Lib.hid B1
 clear hb1 hO
 go_upto_region 4 with fail
 go_cut [11,12] (fun s8 s9 wx=>∃ bo bd:Nat,s8=.slice (some ⟨bo,0,none⟩) L.length L.length∧s9=.slice (some ⟨bd,0,none⟩) L.length L.length∧PcM w1 wx bo bd L.length)
 case first=>
  go_region
  all_goals (go_wp2_with fail;go_meet;first|exact⟨_,_,rfl,rfl,(PcM.one w1 w1 L.length _ _ (Below.refl _ _)).go (bl_drew (Below.refl _ _))⟩|exact⟨_,_,rfl,rfl,(PcM.two w1 w1 L.length _ _ (Below.refl _ _)).go (bl_drew (Below.refl _ _))⟩|exact⟨_,_,rfl,rfl,PcM.one w1 w1.drew L.length _ _ (bl_drew (Below.refl _ _))⟩|exact⟨_,_,rfl,rfl,PcM.two w1 w1.drew L.length _ _ (bl_drew (Below.refl _ _))⟩|skip)
 case rest=>
  clear mk1 mk2
  obtain⟨bo,bd,rfl,rfl,M1⟩:=hcut
  have S0:Aside (PcS w c lv F T L Ws Ps sa sb lb wc.heap.size bo bd 0 (wc.alloc (yrI 0 (.slice none 0 0) (.slice none 0 0)))):=by
   have hB:=M1.below
   have h0:=M1.o0
   have h1:=M1.d0
   have h2:=M1.o1
   have h3:=M1.d1
   have h4:=M1.od
   have A:=bl_alloc (Below.refl wc.heap.size wc) (yrI 0 (.slice none 0 0) (.slice none 0 0))
   exact⟨bl_alloc (bl_call HB1.out hB) _,alloc_there (obj_go hB oc1) _,alloc_there (obj_go hB os1) _,fun j x hj=>by
    obtain⟨a,b,d⟩:=ls1.out j x hj
    exact⟨ac ((hB.cell (p:=⟨lb,_,none⟩) lb1.2).trans a) _,ac ((hB.cell (p:=⟨lb,_,none⟩) lb1.2).trans b) _,ac ((hB.cell (p:=⟨lb,_,none⟩) lb1.2).trans d) _⟩,
    (M1.out.go A).congr fun j hj=>by unfold pcF;rw[if_neg (by omega)],(M1.days.go A).congr fun j hj=>by unfold dyF;rw[if_neg (by omega)],by simp;omega⟩
  have O0:Aside ((wc.alloc (yrI 0 (.slice none 0 0) (.slice none 0 0))).heap[wc.heap.size]? = some (yrI 0 (.slice none 0 0) (.slice none 0 0))):=alloc_here wc _
  clear M1 oc1 os1 HB1 ls1
  go_wp2_with fail
  obtain⟨fb,hfb⟩ : ∃ fb,fb=wc.heap.size:=⟨_,rfl⟩
  go_loopw [38] (fun v wr=>∃ k:Nat,k≤L.length∧v=.int .i64 (k:Int)∧Aside (PcS w c lv F T L Ws Ps sa sb lb wc.heap.size bo bd k wr)∧Aside (FbS L Ws Ps wc.heap.size k wr)) (fun v _=>L.length - (intOf v).toNat)
  case atStart=>exact⟨0,by omega,rfl,S0,.inl ⟨rfl,O0⟩⟩
  case round=>
   clear S0 O0
   obtain⟨k,hk,rfl,S1,FB1⟩:=hrel
   replace S1:=S1.out
   replace FB1:=FB1.out
   rw[← hfb] at S1 FB1 ⊢
   clear hfb
   by_cases hkn:k<L.length
   · have hkz:(k:Int)<(L.length:Int):=by omega
     obtain⟨⟨y,i⟩,hx⟩ : ∃ x,L[k]? = some x:=⟨_,List.getElem?_eq_getElem hkn⟩
     have hxL:(y,i) ∈ L:=List.mem_of_getElem? hx
     obtain⟨a0,a1,a2⟩:=S1.ls k _ hx
     dsimp only at a0 a1 a2
     have hl1:=S1.lo
     have S2:=S1.go (bl_alloc (Below.refl wr.heap.size wr) (.cells #[.int .i64 lv,.int .i64 y,.int .i64 i] 42))
     have ou2:=alloc_here wr (.cells #[.int .i64 lv,.int .i64 y,.int .i64 i] 42)
     have hwl:=obj_lt S1.oc
     rcases FB1 with ⟨k0,of1⟩|⟨q,x',ad,n1,cap1,pb,n2,base,kq,hq1,hbf,F1,of1⟩
     · have of2:=alloc_there of1 (.cells #[.int .i64 lv,.int .i64 y,.int .i64 i] 42)
       have tk:((k:Int) == 0)=true:=by simp[k0]
       clear of1 k0
       go_upto_region 9 with fail
       clear a0 a1 a2
       generalize wr.alloc (.cells #[.int .i64 lv,.int .i64 y,.int .i64 i] 42)=W1 at *
       obtain⟨ub,hub,hubf⟩ : ∃ ub,ub=wr.heap.size∧fb<ub:=⟨_,rfl,hl1.2.2.2.2.2.2⟩
       rw[← hub] at ou2 ⊢
       clear hub S1 hl1 hwl
       go_quiet (fail)
       have hq:=bl_drewN (Below.refl W1.heap.size W1) nq
       replace S2:=S2.go hq
       replace of2:=obj_go hq of2
       replace ou2:=obj_go hq ou2
       clear hq
       generalize W1.drewN nq=W2 at *
       obtain⟨cl,fz,d0,d1,d2,d3,d4,d5,d6,d7,d8,d9,d10,d11,d12,d13⟩:=cal_cells S2.oc
       have u1:=obj_cell ou2 1
       have ul:=obj_lt ou2
       go_wp2_with fail
       refine (MK.out (y,i) hxL _).mono ?_
       rintro e w3 ⟨v,rfl,hb3,hF3⟩
       obtain⟨wv,pb,rfl,h2,h0,h3,h4⟩:=id hF3
       obtain⟨ad,cap1,rfl,l1,l2,hcc⟩:=h2.rd spanC_len
       have S3:=S2.go hb3
       have of3:=obj_go hb3 of2
       have ou3:=obj_go hb3 ou2
       have hfl:fb<W2.heap.size:=obj_lt of2
       have hul:ub<W2.heap.size:=obj_lt ou2
       clear hb3 h2 h0 h3 h4 hcc S2 of2 ou2 cl fz d0 d1 d2 d3 d4 d5 d6 d7 d8 d9 d10 d11 d12 d13 u1 ul
       have S4:=((S3.setf 0 (.int .i64 y)).setf 1 (.slice ad (Ws y).length cap1)).setf 2 (.slice (some ⟨pb,0,none⟩) (Ps y).length (Ps y).length)
       have o4:_=some (yrI y (.slice ad (Ws y).length cap1) (.slice (some ⟨pb,0,none⟩) (Ps y).length (Ps y).length)):=set_here (set_here (set_here of3 0 (.int .i64 y)) 1 (.slice ad (Ws y).length cap1)) 2 (.slice (some ⟨pb,0,none⟩) (Ps y).length (Ps y).length)
       have ou4:=obj_oth (obj_oth (obj_oth ou3 ⟨fb,0,none⟩ (.int .i64 y) (by simp;omega)) ⟨fb,1,none⟩ (.slice ad (Ws y).length cap1) (by simp;omega)) ⟨fb,2,none⟩ (.slice (some ⟨pb,0,none⟩) (Ps y).length (Ps y).length) (by simp;omega)
       have F4:=((hF3.other (p:=⟨fb,0,none⟩) hfl (.int .i64 y)).other (p:=⟨fb,1,none⟩) hfl (.slice ad (Ws y).length cap1)).other (p:=⟨fb,2,none⟩) hfl (.slice (some ⟨pb,0,none⟩) (Ps y).length (Ps y).length)
       obtain⟨base,hbase,hbf⟩ : ∃ base,base=W2.heap.size∧fb<base:=⟨_,rfl,hfl⟩
       rw[← hbase] at F4
       have f0:=obj_cell of3 0
       have f1:=obj_cell of3 1
       have f2:=obj_cell of3 2
       have g0:=obj_free of3 0
       have g1:=obj_free of3 1
       have g2:=obj_free of3 2
       have gl:=obj_lt of3
       clear hF3 of3 ou3 S3
       dsimp only at F4
       go_upto_region 13 with fail
       clear f0 f1 f2 g0 g1 g2 gl
       generalize ((w3.setCell ⟨fb,0,none⟩ (.int .i64 y)).setCell ⟨fb,1,none⟩ (.slice ad (Ws y).length cap1)).setCell ⟨fb,2,none⟩ (.slice (some ⟨pb,0,none⟩) (Ps y).length (Ps y).length)=W4 at *
       obtain⟨n1,hn1⟩ : ∃ n1,n1=(Ws y).length:=⟨_,rfl⟩
       obtain⟨n2,hn2⟩ : ∃ n2,n2=(Ps y).length:=⟨_,rfl⟩
       rw[← hn1,← hn2] at o4 F4 ⊢
       clear hn1 hn2 hbase hfl hul
       obtain⟨cl,fz,d0,d1,d2,d3,d4,d5,d6,d7,d8,d9,d10,d11,d12,d13⟩:=cal_cells S4.oc
       have fl:=obj_lt o4
       have f0:=obj_cell o4 0
       have f1:=obj_cell o4 1
       have f2:=obj_cell o4 2
       have u0:=obj_cell ou4 0
       have u1:=obj_cell ou4 1
       have u2:=obj_cell ou4 2
       have ul:=obj_lt ou4
       clear cl fz d0 d1 d2 d3 d4 d5 d6 d7 d8 d9 d10 d11 d12 d13
       go_wp2_with fail
       refine (WK.out (y,i) hxL _ _ _ F4).mono ?_
       rintro e w5 ⟨rfl,hb5⟩
       have S5:=S4.go hb5
       have o5:=obj_go hb5 o4
       have ou5:=obj_go hb5 ou4
       have F5:=F4.go hb5
       clear hb5 S4 o4 ou4 F4 fl f0 f1 f2 u0 u1 u2 ul
       have fl:=obj_lt o5
       have f0:=obj_cell o5 0
       have f1:=obj_cell o5 1
       have f2:=obj_cell o5 2
       go_wp2_with fail
       refine (SP.out (y,i) hxL _ _ _ F5).mono ?_
       rintro e w6 ⟨rfl,hb6⟩
       have S6:=(S5.go hb6).go (bl_alloc (Below.refl w6.heap.size w6) (.cells #[.int .i64 (sa (y,i)),.int .i64 (sb (y,i))] 73))
       have o6:=alloc_there (obj_go hb6 o5) (.cells #[.int .i64 (sa (y,i)),.int .i64 (sb (y,i))] 73)
       have ou6:=alloc_there (obj_go hb6 ou5) (.cells #[.int .i64 (sa (y,i)),.int .i64 (sb (y,i))] 73)
       have ot6:=alloc_here w6 (.cells #[.int .i64 (sa (y,i)),.int .i64 (sb (y,i))] 73)
       have F6:=(F5.go hb6).go (bl_alloc (Below.refl w6.heap.size w6) (.cells #[.int .i64 (sa (y,i)),.int .i64 (sb (y,i))] 73))
       have tl6:fb<w6.heap.size:=obj_lt (obj_go hb6 o5)
       have tu6:ub<w6.heap.size:=obj_lt (obj_go hb6 ou5)
       clear hb6 S5 o5 ou5 F5 fl f0 f1 f2
       have bd6:=BD.out (y,i) hxL
       have hl:=S6.lo
       have s0:=obj_cell S6.os 0
       have s1:=obj_cell S6.os 1
       have sl:=obj_lt S6.os
       have t0:=obj_cell ot6 0
       have t1:=obj_cell ot6 1
       have tl:=obj_lt ot6
       have u0:=obj_cell ou6 0
       have u1:=obj_cell ou6 1
       have u2:=obj_cell ou6 2
       have ul:=obj_lt ou6
       have r0:=S6.out (k*5) (by omega)
       have r1:=S6.out (k*5+1) (by omega)
       have r2:=S6.out (k*5+2) (by omega)
       have r3:=S6.out (k*5+3) (by omega)
       have r4:=S6.out (k*5+4) (by omega)
       obtain⟨r0,g0⟩:=r0
       obtain⟨r1,g1⟩:=r1
       obtain⟨r2,g2⟩:=r2
       obtain⟨r3,g3⟩:=r3
       obtain⟨r4,g4⟩:=r4
       have ST:=Lib.hid (fun w1 hw1=>S6.step (x:=(y,i)) hkn (by rw[List.getD_eq_getElem?_getD,hx];rfl) w1 hw1)
       have PD:=Lib.hid (fun w=>pdays_any lv y i (max F (sa (y,i))) (min T (sb (y,i))) w (by omega) (by omega))
       go_upto_region 15 with fail
       generalize w6.alloc (.cells #[.int .i64 (sa (y,i)),.int .i64 (sb (y,i))] 73)=W6 at *
       generalize w6.heap.size=tb at *
       go_wp2_with fail
       refine (PD.out _).mono ?_
       rintro e w8 ⟨rfl,hb8⟩
       obtain⟨S9,⟨v9,q9⟩,z9,l9,K9,F9⟩:=S6.done (x:=(y,i)) hkn (by rw[List.getD_eq_getElem?_getD,hx];rfl) _ w8 rfl hb8
       have o9:=K9 _ _ (by omega) (by omega) o6
       have G9:=F9 _ _ _ _ _ (by omega) (by omega) F6
       clear hb8 K9 F9 r0 r1 r2 r3 r4 g0 g1 g2 g3 g4 s0 s1 sl t0 t1 tl u0 u1 u2 ul ST PD S6 o6 F6
       go_wp2
       go_roundw
       case rel=>exact⟨k+1,by omega,by go_num,S9,.inr ⟨k,(y,i),_,_,_,_,_,base,rfl,hx,hbf,G9,o9⟩⟩
       case measure=>simp[intOf];omega
     · have of2:=alloc_there of1 (.cells #[.int .i64 lv,.int .i64 y,.int .i64 i] 42)
       have F2:=F1.go (bl_alloc (Below.refl wr.heap.size wr) (.cells #[.int .i64 lv,.int .i64 y,.int .i64 i] 42))
       obtain⟨y',i'⟩:=x'
       dsimp only at F2 of2
       clear of1 F1
       have tk:((k:Int) == 0)=false:=by simp;omega
       have ek:(k:Int) - 1=(q:Int):=by omega
       replace kq:=Lib.hid kq
       obtain⟨-,b1,-⟩:=S2.ls q _ hq1
       dsimp only at b1
       have hqz:(q:Int)<(L.length:Int):=by omega
       have hlb:=S2.lo
       by_cases hy:y'=y
       · replace hy:=hy.symm
         subst hy
         go_upto_region 9 with fail
         clear a0 a1 a2
         generalize wr.alloc (.cells #[.int .i64 lv,.int .i64 y,.int .i64 i] 42)=W1 at *
         obtain⟨ub,hub,hubf⟩ : ∃ ub,ub=wr.heap.size∧fb<ub:=⟨_,rfl,hl1.2.2.2.2.2.2⟩
         rw[← hub] at ou2 ⊢
         clear hub S1 hl1 hwl
         have u1:=obj_cell ou2 1
         have ul:=obj_lt ou2
         go_quiet (fail)
         have hq:=bl_drewN (Below.refl W1.heap.size W1) nq
         replace S2:=S2.go hq
         replace of2:=obj_go hq of2
         replace ou2:=obj_go hq ou2
         replace F2:=F2.go hq
         clear hq b1 hlb u1 ul ek tk
         generalize W1.drewN nq=W4 at *
         have S4:=S2
         have o4:=of2
         have ou4:=ou2
         have F4:=F2
         clear S2 of2 ou2 F2
         obtain⟨cl,fz,d0,d1,d2,d3,d4,d5,d6,d7,d8,d9,d10,d11,d12,d13⟩:=cal_cells S4.oc
         have fl:=obj_lt o4
         have f0:=obj_cell o4 0
         have f1:=obj_cell o4 1
         have f2:=obj_cell o4 2
         have u0:=obj_cell ou4 0
         have u1:=obj_cell ou4 1
         have u2:=obj_cell ou4 2
         have ul:=obj_lt ou4
         clear cl fz d0 d1 d2 d3 d4 d5 d6 d7 d8 d9 d10 d11 d12 d13
         go_wp2_with fail
         refine (WK.out (y,i) hxL _ _ _ F4).mono ?_
         rintro e w5 ⟨rfl,hb5⟩
         have S5:=S4.go hb5
         have o5:=obj_go hb5 o4
         have ou5:=obj_go hb5 ou4
         have F5:=F4.go hb5
         clear hb5 S4 o4 ou4 F4 fl f0 f1 f2 u0 u1 u2 ul
         have fl:=obj_lt o5
         have f0:=obj_cell o5 0
         have f1:=obj_cell o5 1
         have f2:=obj_cell o5 2
         go_wp2_with fail
         refine (SP.out (y,i) hxL _ _ _ F5).mono ?_
         rintro e w6 ⟨rfl,hb6⟩
         have S6:=(S5.go hb6).go (bl_alloc (Below.refl w6.heap.size w6) (.cells #[.int .i64 (sa (y,i)),.int .i64 (sb (y,i))] 73))
         have o6:=alloc_there (obj_go hb6 o5) (.cells #[.int .i64 (sa (y,i)),.int .i64 (sb (y,i))] 73)
         have ou6:=alloc_there (obj_go hb6 ou5) (.cells #[.int .i64 (sa (y,i)),.int .i64 (sb (y,i))] 73)
         have ot6:=alloc_here w6 (.cells #[.int .i64 (sa (y,i)),.int .i64 (sb (y,i))] 73)
         have F6:=(F5.go hb6).go (bl_alloc (Below.refl w6.heap.size w6) (.cells #[.int .i64 (sa (y,i)),.int .i64 (sb (y,i))] 73))
         have tl6:fb<w6.heap.size:=obj_lt (obj_go hb6 o5)
         have tu6:ub<w6.heap.size:=obj_lt (obj_go hb6 ou5)
         clear hb6 S5 o5 ou5 F5 fl f0 f1 f2
         have bd6:=BD.out (y,i) hxL
         have hl:=S6.lo
         have s0:=obj_cell S6.os 0
         have s1:=obj_cell S6.os 1
         have sl:=obj_lt S6.os
         have t0:=obj_cell ot6 0
         have t1:=obj_cell ot6 1
         have tl:=obj_lt ot6
         have u0:=obj_cell ou6 0
         have u1:=obj_cell ou6 1
         have u2:=obj_cell ou6 2
         have ul:=obj_lt ou6
         have r0:=S6.out (k*5) (by omega)
         have r1:=S6.out (k*5+1) (by omega)
         have r2:=S6.out (k*5+2) (by omega)
         have r3:=S6.out (k*5+3) (by omega)
         have r4:=S6.out (k*5+4) (by omega)
         obtain⟨r0,g0⟩:=r0
         obtain⟨r1,g1⟩:=r1
         obtain⟨r2,g2⟩:=r2
         obtain⟨r3,g3⟩:=r3
         obtain⟨r4,g4⟩:=r4
         have ST:=Lib.hid (fun w1 hw1=>S6.step (x:=(y,i)) hkn (by rw[List.getD_eq_getElem?_getD,hx];rfl) w1 hw1)
         have PD:=Lib.hid (fun w=>pdays_any lv y i (max F (sa (y,i))) (min T (sb (y,i))) w (by omega) (by omega))
         go_upto_region 15 with fail
         generalize w6.alloc (.cells #[.int .i64 (sa (y,i)),.int .i64 (sb (y,i))] 73)=W6 at *
         generalize w6.heap.size=tb at *
         go_wp2_with fail
         refine (PD.out _).mono ?_
         rintro e w8 ⟨rfl,hb8⟩
         obtain⟨S9,⟨v9,q9⟩,z9,l9,K9,F9⟩:=S6.done (x:=(y,i)) hkn (by rw[List.getD_eq_getElem?_getD,hx];rfl) _ w8 rfl hb8
         have o9:=K9 _ _ (by omega) (by omega) o6
         have G9:=F9 _ _ _ _ _ (by omega) (by omega) F6
         clear hb8 K9 F9 r0 r1 r2 r3 r4 g0 g1 g2 g3 g4 s0 s1 sl t0 t1 tl u0 u1 u2 ul ST PD S6 o6 F6
         go_wp2
         go_roundw
         case rel=>exact⟨k+1,by omega,by go_num,S9,.inr ⟨k,(y,i),_,_,_,_,_,base,rfl,hx,hbf,G9,o9⟩⟩
         case measure=>simp[intOf];omega
       · have ty:(y != y')=true:=by simpa using fun e=>hy e.symm
         clear hy
         go_upto_region 9 with fail
         clear a0 a1 a2
         generalize wr.alloc (.cells #[.int .i64 lv,.int .i64 y,.int .i64 i] 42)=W1 at *
         obtain⟨ub,hub,hubf⟩ : ∃ ub,ub=wr.heap.size∧fb<ub:=⟨_,rfl,hl1.2.2.2.2.2.2⟩
         rw[← hub] at ou2 ⊢
         clear hub S1 hl1 hwl
         have u1:=obj_cell ou2 1
         have ul:=obj_lt ou2
         go_quiet (fail)
         have hq:=bl_drewN (Below.refl W1.heap.size W1) nq
         replace S2:=S2.go hq
         replace of2:=obj_go hq of2
         replace ou2:=obj_go hq ou2
         clear hq b1 hlb u1 ul F2 hbf base ek tk
         generalize W1.drewN nq=W2 at *
         obtain⟨cl,fz,d0,d1,d2,d3,d4,d5,d6,d7,d8,d9,d10,d11,d12,d13⟩:=cal_cells S2.oc
         have u1:=obj_cell ou2 1
         have ul:=obj_lt ou2
         go_wp2_with fail
         refine (MK.out (y,i) hxL _).mono ?_
         rintro e w3 ⟨v,rfl,hb3,hF3⟩
         obtain⟨wv,pb,rfl,h2,h0,h3,h4⟩:=id hF3
         obtain⟨ad,cap1,rfl,l1,l2,hcc⟩:=h2.rd spanC_len
         have S3:=S2.go hb3
         have of3:=obj_go hb3 of2
         have ou3:=obj_go hb3 ou2
         have hfl:fb<W2.heap.size:=obj_lt of2
         have hul:ub<W2.heap.size:=obj_lt ou2
         clear hb3 h2 h0 h3 h4 hcc S2 of2 ou2 cl fz d0 d1 d2 d3 d4 d5 d6 d7 d8 d9 d10 d11 d12 d13 u1 ul
         have S4:=((S3.setf 0 (.int .i64 y)).setf 1 (.slice ad (Ws y).length cap1)).setf 2 (.slice (some ⟨pb,0,none⟩) (Ps y).length (Ps y).length)
         have o4:_=some (yrI y (.slice ad (Ws y).length cap1) (.slice (some ⟨pb,0,none⟩) (Ps y).length (Ps y).length)):=set_here (set_here (set_here of3 0 (.int .i64 y)) 1 (.slice ad (Ws y).length cap1)) 2 (.slice (some ⟨pb,0,none⟩) (Ps y).length (Ps y).length)
         have ou4:=obj_oth (obj_oth (obj_oth ou3 ⟨fb,0,none⟩ (.int .i64 y) (by simp;omega)) ⟨fb,1,none⟩ (.slice ad (Ws y).length cap1) (by simp;omega)) ⟨fb,2,none⟩ (.slice (some ⟨pb,0,none⟩) (Ps y).length (Ps y).length) (by simp;omega)
         have F4:=((hF3.other (p:=⟨fb,0,none⟩) hfl (.int .i64 y)).other (p:=⟨fb,1,none⟩) hfl (.slice ad (Ws y).length cap1)).other (p:=⟨fb,2,none⟩) hfl (.slice (some ⟨pb,0,none⟩) (Ps y).length (Ps y).length)
         obtain⟨base,hbase,hbf⟩ : ∃ base,base=W2.heap.size∧fb<base:=⟨_,rfl,hfl⟩
         rw[← hbase] at F4
         have f0:=obj_cell of3 0
         have f1:=obj_cell of3 1
         have f2:=obj_cell of3 2
         have g0:=obj_free of3 0
         have g1:=obj_free of3 1
         have g2:=obj_free of3 2
         have gl:=obj_lt of3
         clear hF3 of3 ou3 S3
         dsimp only at F4
         go_upto_region 13 with fail
         clear f0 f1 f2 g0 g1 g2 gl
         generalize ((w3.setCell ⟨fb,0,none⟩ (.int .i64 y)).setCell ⟨fb,1,none⟩ (.slice ad (Ws y).length cap1)).setCell ⟨fb,2,none⟩ (.slice (some ⟨pb,0,none⟩) (Ps y).length (Ps y).length)=W4 at *
         obtain⟨n1,hn1⟩ : ∃ n1,n1=(Ws y).length:=⟨_,rfl⟩
         obtain⟨n2,hn2⟩ : ∃ n2,n2=(Ps y).length:=⟨_,rfl⟩
         rw[← hn1,← hn2] at o4 F4 ⊢
         clear hn1 hn2 hbase hfl hul
         obtain⟨cl,fz,d0,d1,d2,d3,d4,d5,d6,d7,d8,d9,d10,d11,d12,d13⟩:=cal_cells S4.oc
         have fl:=obj_lt o4
         have f0:=obj_cell o4 0
         have f1:=obj_cell o4 1
         have f2:=obj_cell o4 2
         have u0:=obj_cell ou4 0
         have u1:=obj_cell ou4 1
         have u2:=obj_cell ou4 2
         have ul:=obj_lt ou4
         clear cl fz d0 d1 d2 d3 d4 d5 d6 d7 d8 d9 d10 d11 d12 d13
         go_wp2_with fail
         refine (WK.out (y,i) hxL _ _ _ F4).mono ?_
         rintro e w5 ⟨rfl,hb5⟩
         have S5:=S4.go hb5
         have o5:=obj_go hb5 o4
         have ou5:=obj_go hb5 ou4
         have F5:=F4.go hb5
         clear hb5 S4 o4 ou4 F4 fl f0 f1 f2 u0 u1 u2 ul
         have fl:=obj_lt o5
         have f0:=obj_cell o5 0
         have f1:=obj_cell o5 1
         have f2:=obj_cell o5 2
         go_wp2_with fail
         refine (SP.out (y,i) hxL _ _ _ F5).mono ?_
         rintro e w6 ⟨rfl,hb6⟩
         have S6:=(S5.go hb6).go (bl_alloc (Below.refl w6.heap.size w6) (.cells #[.int .i64 (sa (y,i)),.int .i64 (sb (y,i))] 73))
         have o6:=alloc_there (obj_go hb6 o5) (.cells #[.int .i64 (sa (y,i)),.int .i64 (sb (y,i))] 73)
         have ou6:=alloc_there (obj_go hb6 ou5) (.cells #[.int .i64 (sa (y,i)),.int .i64 (sb (y,i))] 73)
         have ot6:=alloc_here w6 (.cells #[.int .i64 (sa (y,i)),.int .i64 (sb (y,i))] 73)
         have F6:=(F5.go hb6).go (bl_alloc (Below.refl w6.heap.size w6) (.cells #[.int .i64 (sa (y,i)),.int .i64 (sb (y,i))] 73))
         have tl6:fb<w6.heap.size:=obj_lt (obj_go hb6 o5)
         have tu6:ub<w6.heap.size:=obj_lt (obj_go hb6 ou5)
         clear hb6 S5 o5 ou5 F5 fl f0 f1 f2
         have bd6:=BD.out (y,i) hxL
         have hl:=S6.lo
         have s0:=obj_cell S6.os 0
         have s1:=obj_cell S6.os 1
         have sl:=obj_lt S6.os
         have t0:=obj_cell ot6 0
         have t1:=obj_cell ot6 1
         have tl:=obj_lt ot6
         have u0:=obj_cell ou6 0
         have u1:=obj_cell ou6 1
         have u2:=obj_cell ou6 2
         have ul:=obj_lt ou6
         have r0:=S6.out (k*5) (by omega)
         have r1:=S6.out (k*5+1) (by omega)
         have r2:=S6.out (k*5+2) (by omega)
         have r3:=S6.out (k*5+3) (by omega)
         have r4:=S6.out (k*5+4) (by omega)
         obtain⟨r0,g0⟩:=r0
         obtain⟨r1,g1⟩:=r1
         obtain⟨r2,g2⟩:=r2
         obtain⟨r3,g3⟩:=r3
         obtain⟨r4,g4⟩:=r4
         have ST:=Lib.hid (fun w1 hw1=>S6.step (x:=(y,i)) hkn (by rw[List.getD_eq_getElem?_getD,hx];rfl) w1 hw1)
         have PD:=Lib.hid (fun w=>pdays_any lv y i (max F (sa (y,i))) (min T (sb (y,i))) w (by omega) (by omega))
         go_upto_region 15 with fail
         generalize w6.alloc (.cells #[.int .i64 (sa (y,i)),.int .i64 (sb (y,i))] 73)=W6 at *
         generalize w6.heap.size=tb at *
         go_wp2_with fail
         refine (PD.out _).mono ?_
         rintro e w8 ⟨rfl,hb8⟩
         obtain⟨S9,⟨v9,q9⟩,z9,l9,K9,F9⟩:=S6.done (x:=(y,i)) hkn (by rw[List.getD_eq_getElem?_getD,hx];rfl) _ w8 rfl hb8
         have o9:=K9 _ _ (by omega) (by omega) o6
         have G9:=F9 _ _ _ _ _ (by omega) (by omega) F6
         clear hb8 K9 F9 r0 r1 r2 r3 r4 g0 g1 g2 g3 g4 s0 s1 sl t0 t1 tl u0 u1 u2 ul ST PD S6 o6 F6
         go_wp2
         go_roundw
         case rel=>exact⟨k+1,by omega,by go_num,S9,.inr ⟨k,(y,i),_,_,_,_,_,base,rfl,hx,hbf,G9,o9⟩⟩
         case measure=>simp[intOf];omega
   · obtain rfl:k=L.length:=by omega
     have hkz:¬ ((L.length:Int)<(L.length:Int)):=by omega
     have hl:=S1.lo
     go_wp2
     exact bodyPost_ret (v:=.tuple #[.slice (some ⟨bo,0,none⟩) L.length L.length,.slice (some ⟨bd,0,none⟩) L.length L.length,.int .i64 0]) (by simp[results,Tryz.results205,go_sem]) rfl ⟨bo,bd,rfl,by omega,by omega,S1.out,S1.days,S1.below⟩
end Go.Proofs.YtmkhgnccpkhcaaaGreatDoor
