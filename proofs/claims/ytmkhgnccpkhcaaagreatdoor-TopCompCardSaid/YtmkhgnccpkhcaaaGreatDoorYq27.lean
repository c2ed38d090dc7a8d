import Derived.Test.YtmkhgnccpkhcaaaGreatDoorYq25
import Derived.RangeFuncNested
import Derived.RangeFuncBound
import Derived.RangeFuncCalls
import Derived.RangeFuncLeaves
import Derived.Shelf.Abstract
import Derived.Shelf.RegionOpen
import Derived.OwnWalkIn
import Derived.TacticsInMore
import Derived.LoopNIn
import Derived.LoopIn
import Derived.Test.YtmkhgnccpkhcaaaGreatDoorYq20
set_option linter.unusedVariables false
set_option linter.unusedSimpArgs false
set_option maxRecDepth 100000
set_option maxHeartbeats 8000000
namespace Go.Proofs.YtmkhgnccpkhcaaaGreatDoor
open Go Go.RowKit
def IntsR (w w':World) (v:Value) (xs:List Int):Prop:=∃ b,v=.slice (some ⟨b,0,none⟩) xs.length xs.length∧w.heap.size≤b∧b<w'.heap.size∧RowF w' b xs.length (fun j=>xs.getD j 0)
theorem IntsR.go {w w' w'':World} {v:Value} {xs:List Int} (h:IntsR w w' v xs) (hb:Below w'.heap.size w' w''):IntsR w w'' v xs:=by
 obtain⟨b,h1,h2,h3,h4⟩:=h
 exact⟨b,h1,h2,Nat.lt_of_lt_of_le h3 hb.size,h4.go hb⟩
theorem IntsR.low {w0 w w':World} {v:Value} {xs:List Int} (h:IntsR w w' v xs) (hs:w0.heap.size≤w.heap.size):IntsR w0 w' v xs:=by
 obtain⟨b,h1,h2,h3,h4⟩:=h
 exact⟨b,h1,by omega,h3,h4⟩
def parF (xs:List Int) (k:Nat):Nat→Int:=fun j=>if j<k then xs.getD j 0 else 0
theorem parF_set {W:World} {b n:Nat} {xs:List Int} {k:Nat} (h:RowF W b n (parF xs k)) (hk:k<n) {x:Int} (hx:xs.getD k 0=x):RowF (W.setCell ⟨b,k,none⟩ (.int .i64 x)) b n (parF xs (k+1)):=by
 refine (h.set k hk x).congr fun j hj=>?_
 unfold parF
 by_cases e:j=k
 · subst e;rw[if_pos (by omega),if_pos rfl,hx]
 · simp only[e,if_false]
   by_cases f:j<k
   · rw[if_pos f,if_pos (by omega)]
   · rw[if_neg f,if_neg (by omega)]
theorem parF_made (w:World) (xs:List Int) (t:TypeId):RowF (w.alloc (.cells (Array.replicate xs.length (.int .i64 0)) t)) w.heap.size xs.length (parF xs 0):=(row_made w xs.length t).congr fun j _=>by simp[parF]
theorem range_at (n:Nat) (f:Nat→Int) (k:Nat) (h:k<n):((List.range n).map f).getD k 0=f k:=by
 rw[List.getD_eq_getElem?_getD];simp[h]
def patA (c:CalI):Int × Int × Int:=if c.shape=1 then (c.p0,c.p1,c.p2) else if c.shape=3 then (c.cycle,c.cycle,c.cycle) else (4,4,4)
theorem pattern_any (c:CalI) (w:World) :
 Calls Tryz.prog 214 #[calA c] w fun e w'=>e=.returned (.agg #[.int .i64 (patA c).1,.int .i64 (patA c).2.1,.int .i64 (patA c).2.2])∧Below w.heap.size w w':=by
 by_cases s1:c.shape=1
 · have E:patA c=(c.p0,c.p1,c.p2):=by unfold patA;rw[if_pos s1]
   rw[E]
   have t1:(c.shape == 1)=true:=by simpa using s1
   clear E s1
   go_enter Tryz.func214,Tryz.ntmps214
   go_wp2_with fail
   exact bodyPost_ret (v:=.agg #[.int .i64 c.p0,.int .i64 c.p1,.int .i64 c.p2]) (by simp[results,Tryz.results214,go_sem]) rfl ⟨rfl,bl_alloc (bl_alloc (Below.refl _ _) _) _⟩
 by_cases s3:c.shape=3
 · have E:patA c=(c.cycle,c.cycle,c.cycle):=by unfold patA;rw[if_neg s1,if_pos s3]
   rw[E]
   have t1:(c.shape == 1)=false:=by simpa using s1
   have t3:(c.shape == 3)=true:=by simpa using s3
   clear E s1 s3
   go_enter Tryz.func214,Tryz.ntmps214
   go_wp2_with fail
   exact bodyPost_ret (v:=.agg #[.int .i64 c.cycle,.int .i64 c.cycle,.int .i64 c.cycle]) (by simp[results,Tryz.results214,go_sem]) rfl ⟨rfl,bl_alloc (bl_alloc (Below.refl _ _) _) _⟩
 · have E:patA c=(4,4,4):=by unfold patA;rw[if_neg s1,if_neg s3]
   rw[E]
   have t1:(c.shape == 1)=false:=by simpa using s1
   have t3:(c.shape == 3)=false:=by simpa using s3
   clear E s1 s3
   go_enter Tryz.func214,Tryz.ntmps214
   go_wp2_with fail
   exact bodyPost_ret (v:=.agg #[.int .i64 4,.int .i64 4,.int .i64 4]) (by simp[results,Tryz.results214,go_sem]) rfl ⟨rfl,bl_alloc (bl_alloc (Below.refl _ _) _) _⟩
theorem sundays_any (y:Int) (w:World) (h1:1600≤y) (h2:y≤9997) :
 Calls Tryz.prog 155 #[.int .i64 y] w fun e w'=>∃ v,e=.returned (.tuple #[v,.int .i64 0])∧Below w.heap.size w w'∧IntsR w w' v ((List.range 12).map fun i:Nat=>lastN y ((i:Int)+1) 7):=by
 have L:∀ k:Nat,k<12→∀ W,Calls Tryz.prog 212 #[.int .i64 y,.int .i64 ((k:Int)+1),.int .i64 7] W fun e w'=>e=.returned (.tuple #[.int .i64 (lastN y ((k:Int)+1) 7),.int .i64 0])∧Below W.heap.size W w':=fun k hk W=>by
  have e:=(wkE_zero y ((k:Int)+1) 7 (by omega) (by omega) (by omega) (by omega) (by omega) (by omega)).1
  have T:=last_any y ((k:Int)+1) 7 W
  rw[e,(last_facts y ((k:Int)+1) 7 e).2.2.2.1] at T
  exact T
 have L:=Lib.hid L
 have hl:((List.range 12).map fun i:Nat=>lastN y ((i:Int)+1) 7).length=12:=by simp
 have hx:Aside (∀ k:Nat,k<12→((List.range 12).map fun i:Nat=>lastN y ((i:Int)+1) 7).getD k 0=lastN y ((k:Int)+1) 7):=fun k hk=>range_at 12 (fun i:Nat=>lastN y ((i:Int)+1) 7) k hk
 generalize ((List.range 12).map fun i:Nat=>lastN y ((i:Int)+1) 7)=xs at *
 have MK:(Instr.makeSlice 34 (.int .i64 12) (.int .i64 12)).run Tryz.prog w=.ok (.slice (some ⟨w.heap.size,0,none⟩) 12 12) (w.alloc (.cells (Array.replicate 12 (.int .i64 0)) 3)):=make_int 12 (by omega) w
 have R0:Aside (RowF (w.alloc (.cells (Array.replicate 12 (.int .i64 0)) 3)) w.heap.size 12 (parF xs 0)):=by have:=parF_made w xs 3;rw[hl] at this;exact this
 have B0:Aside (Below w.heap.size w (w.alloc (.cells (Array.replicate 12 (.int .i64 0)) 3))):=bl_alloc (Below.refl _ _) _
 have Z0:w.heap.size<(w.alloc (.cells (Array.replicate 12 (.int .i64 0)) 3)).heap.size:=by simp
 have RE:Aside (∀ w' b,Below w.heap.size w w'→w.heap.size≤b→b<w'.heap.size→RowF w' b 12 (parF xs 12)→∃ v,Ending.returned (.tuple #[.slice (some ⟨b,0,none⟩) 12 12,.int .i64 0])=.returned (.tuple #[v,.int .i64 0])∧Below w.heap.size w w'∧IntsR w w' v xs):=fun w' b a1 a2 a3 a4=>⟨_,rfl,a1,b,by rw[hl],a2,a3,by rw[hl];exact a4.congr fun j hj=>by simp[parF,hj]⟩
 clear hl
 go_enter Tryz.func155,Tryz.ntmps155
 go_wp2_with fail
 clear MK
 generalize (w.alloc (.cells (Array.replicate 12 (.int .i64 0)) 3))=W0 at *
 go_loopw [11] (fun i wr=>∃ k:Nat,k≤12∧i=.int .i64 k∧Aside (Below w.heap.size w wr)∧w.heap.size<wr.heap.size∧Aside (RowF wr w.heap.size 12 (parF xs k))) (fun i _=>12 - (intOf i).toNat)
 case atStart=>exact⟨0,by omega,rfl,B0,Z0,R0⟩
 case round=>
  clear B0 Z0 R0
  obtain⟨k,hk,rfl,HB,Z1,R1⟩:=hrel
  by_cases hlt:k<12
  · have hzk:(k:Int)<12:=by omega
    have L1:=Lib.hid (L.out k hlt)
    have hx1:=hx.out k hlt
    have hx1:=Lib.hid hx1
    generalize lastN y ((k:Int)+1) 7=X at *
    go_wp2_with fail
    refine (L1.out _).mono ?_
    rintro e w1 ⟨rfl,hb1⟩
    obtain⟨r1,r2⟩:=(R1.out.go hb1) k hlt
    have Z2:=Nat.lt_of_lt_of_le Z1 hb1.size
    have R2:=Lib.hid (R1.out.go hb1)
    have HB2:=Lib.hid (bl_call HB.out hb1)
    clear hb1 R1 HB
    go_wp2_with fail
    go_roundw
    case rel=>exact⟨k+1,by omega,by go_num,HB2.out.setCell (Nat.le_refl _) _,by simp[set_size];omega,parF_set R2.out hlt hx1.out⟩
    case measure=>simp[intOf];omega
  · obtain rfl:k=12:=by omega
    go_wp2_with fail
    exact bodyPost_ret (v:=.tuple #[.slice (some ⟨w.heap.size,0,none⟩) 12 12,.int .i64 0]) (by simp[results,Tryz.results155,go_sem]) rfl (RE.out _ _ HB.out (Nat.le_refl _) Z1 R1.out)
theorem day_there {n:Int} (h:isB n=true):thereB (ofY n) (ofM n)=true:=by
 obtain⟨v,_⟩:=of_ok n h
 obtain⟨y1,y2,m1,m2,_,_⟩:=(validB_iff _ _ _).1 v
 unfold thereB
 simp
 omega
theorem months_any (d0:Int) (w:World) (h1:0≤d0) (h2:d0+372<3068037) :
 Calls Tryz.prog 156 #[.int .i64 d0] w fun e w'=>∃ v,e=.returned (.tuple #[v,.int .i64 0])∧Below w.heap.size w w'∧IntsR w w' v ((List.range 12).map fun i:Nat=>monD (i+1) d0 - 1):=by
 have O:∀ k:Nat,k<12→∀ W,Calls Tryz.prog 20 #[.int .i64 (monD k d0)] W fun e w'=>e=.returned (.tuple #[dateA (ofY (monD k d0)) (ofM (monD k d0)) (ofD (monD k d0)),.int .i64 0])∧Below W.heap.size W w':=fun k hk W=>by
  have bd:=monD_bd k d0
  have T:=of_any (monD k d0) W
  rw[dateE_true ((isB_iff _).2 (by omega))] at T
  exact T
 have L:∀ k:Nat,k<12→∀ W,Calls Tryz.prog 27 #[.int .i64 (ofY (monD k d0)),.int .i64 (ofM (monD k d0))] W fun e w'=>e=.returned (.tuple #[.int .i64 (mlen (ofY (monD k d0)) (ofM (monD k d0))),.int .i64 0])∧Below W.heap.size W w':=fun k hk W=>by
  have bd:=monD_bd k d0
  have t:=day_there ((isB_iff (monD k d0)).2 (by omega))
  have T:=length_any (ofY (monD k d0)) (ofM (monD k d0)) W
  rw[dateE_true t,show lenV (ofY (monD k d0)) (ofM (monD k d0))=_ from if_pos t] at T
  exact T
 have O:=Lib.hid O
 have L:=Lib.hid L
 have hl:((List.range 12).map fun i:Nat=>monD (i+1) d0 - 1).length=12:=by simp
 have hx:Aside (∀ k:Nat,k<12→((List.range 12).map fun i:Nat=>monD (i+1) d0 - 1).getD k 0=monD k d0+mlen (ofY (monD k d0)) (ofM (monD k d0)) - 1):=fun k hk=>range_at 12 (fun i:Nat=>monD (i+1) d0 - 1) k hk
 generalize ((List.range 12).map fun i:Nat=>monD (i+1) d0 - 1)=xs at *
 have MK:(Instr.makeSlice 34 (.int .i64 12) (.int .i64 12)).run Tryz.prog w=.ok (.slice (some ⟨w.heap.size,0,none⟩) 12 12) (w.alloc (.cells (Array.replicate 12 (.int .i64 0)) 3)):=make_int 12 (by omega) w
 have R0:Aside (RowF (w.alloc (.cells (Array.replicate 12 (.int .i64 0)) 3)) w.heap.size 12 (parF xs 0)):=by have:=parF_made w xs 3;rw[hl] at this;exact this
 have B0:Aside (Below w.heap.size w (w.alloc (.cells (Array.replicate 12 (.int .i64 0)) 3))):=bl_alloc (Below.refl _ _) _
 have Z0:w.heap.size<(w.alloc (.cells (Array.replicate 12 (.int .i64 0)) 3)).heap.size:=by simp
 have RE:Aside (∀ w' b,Below w.heap.size w w'→w.heap.size≤b→b<w'.heap.size→RowF w' b 12 (parF xs 12)→∃ v,Ending.returned (.tuple #[.slice (some ⟨b,0,none⟩) 12 12,.int .i64 0])=.returned (.tuple #[v,.int .i64 0])∧Below w.heap.size w w'∧IntsR w w' v xs):=fun w' b a1 a2 a3 a4=>⟨_,rfl,a1,b,by rw[hl],a2,a3,by rw[hl];exact a4.congr fun j hj=>by simp[parF,hj]⟩
 clear hl
 go_enter Tryz.func156,Tryz.ntmps156
 go_wp2_with fail
 clear MK
 generalize (w.alloc (.cells (Array.replicate 12 (.int .i64 0)) 3))=W0 at *
 go_loopw [0,12] (fun d i wr=>∃ k:Nat,k≤12∧i=.int .i64 k∧d=.int .i64 (monD k d0)∧Aside (Below w.heap.size w wr)∧w.heap.size<wr.heap.size∧Aside (RowF wr w.heap.size 12 (parF xs k))) (fun _ i _=>12 - (intOf i).toNat)
 case atStart=>exact⟨0,by omega,rfl,rfl,B0,Z0,R0⟩
 case round=>
  clear B0 Z0 R0
  obtain⟨k,hk,rfl,rfl,HB,Z1,R1⟩:=hrel
  by_cases hlt:k<12
  · have hzk:(k:Int)<12:=by omega
    have O1:=Lib.hid (O.out k hlt)
    have L1:=Lib.hid (L.out k hlt)
    have hx1:=hx.out k hlt
    have hx1:=Lib.hid hx1
    have bd:=monD_bd k d0
    have mb:=mlen_bd (ofY (monD k d0)) (ofM (monD k d0))
    have hs:Aside (monD (k+1) d0=monD k d0+mlen (ofY (monD k d0)) (ofM (monD k d0))):=rfl
    generalize mlen (ofY (monD k d0)) (ofM (monD k d0))=N at *
    generalize ofY (monD k d0)=Y at *
    generalize ofM (monD k d0)=M at *
    generalize ofD (monD k d0)=D at *
    generalize monD k d0=dd at *
    go_wp2_with fail
    refine (O1.out _).mono ?_
    rintro e w1 ⟨rfl,hb1⟩
    have Z2:=Nat.lt_of_lt_of_le Z1 hb1.size
    have R2:=Lib.hid (R1.out.go hb1)
    have HB2:=Lib.hid (bl_call HB.out hb1)
    clear hb1 R1 HB
    go_wp2_with fail
    refine (L1.out _).mono ?_
    rintro e w2 ⟨rfl,hb2⟩
    have R3:=Lib.hid ((R2.out.go (bl_alloc (Below.refl _ _) _)).go hb2)
    obtain⟨r1,r2⟩:=R3.out k hlt
    have Z3:=Nat.lt_of_lt_of_le Z2 (Nat.le_trans (by simp:w1.heap.size≤(w1.alloc _).heap.size) hb2.size)
    have HB3:=Lib.hid (bl_call (bl_alloc HB2.out _) hb2)
    clear hb2 R2 HB2
    go_wp2_with fail
    go_roundw
    case rel=>exact⟨k+1,by omega,by go_num,by rw[hs.out],HB3.out.setCell (Nat.le_refl _) _,by simp[set_size];omega,parF_set R3.out hlt hx1.out⟩
    case measure=>simp[intOf];omega
  · obtain rfl:k=12:=by omega
    go_wp2_with fail
    exact bodyPost_ret (v:=.tuple #[.slice (some ⟨w.heap.size,0,none⟩) 12 12,.int .i64 0]) (by simp[results,Tryz.results156,go_sem]) rfl (RE.out _ _ HB.out (Nat.le_refl _) Z1 R1.out)
end Go.Proofs.YtmkhgnccpkhcaaaGreatDoor
namespace Go.Proofs.YtmkhgnccpkhcaaaGreatDoor
open Go Go.RowKit Go.Shelf
attribute [local go_sem] Oper.semAt_some
def KeepC (b1 b2:Nat) (W W':World):Prop:=W.heap.size≤W'.heap.size∧∀ k o,W.heap[k]? = some o→o.isCells=true→k≠b1→k≠b2→W'.heap[k]? = some o
theorem keepC_t {b1 b2:Nat} {A B C:World} (h:KeepC b1 b2 A B) (k:KeepC b1 b2 B C):KeepC b1 b2 A C:=⟨Nat.le_trans h.1 k.1,fun i o hi ho h1 h2=>k.2 i o (h.2 i o hi ho h1 h2) ho h1 h2⟩
theorem keepC_b {b1 b2:Nat} (W:World) (l:Nat) (o o':Obj) (h:W.heap[l]? = some o) (hc:o.isCells=false):KeepC b1 b2 W (W.putObj l o'):=by
 refine⟨by simp[World.putObj],fun k u hk hu h1 h2=>?_⟩
 by_cases e:k=l
 · subst e;rw[h] at hk;cases hk;rw[hc] at hu;cases hu
 · rw[World.putObj_heap_other e];exact hk
theorem KeepC.refl (b1 b2:Nat) (W:World):KeepC b1 b2 W W:=⟨Nat.le_refl _,fun _ _ h _ _ _=>h⟩
theorem KeepC.set1 {b1 b2:Nat} {A B:World} (h:KeepC b1 b2 A B) (k:Nat) (v:Value):KeepC b1 b2 A (B.setCell ⟨b1,k,none⟩ v):=
 keepC_t h ⟨by simp[World.setCell],fun i o hi _ h1 _=>by rw[Below.heap_setCell _ _ _ _ h1];exact hi⟩
theorem KeepC.set2 {b1 b2:Nat} {A B:World} (h:KeepC b1 b2 A B) (k:Nat) (v:Value):KeepC b1 b2 A (B.setCell ⟨b2,k,none⟩ v):=
 keepC_t h ⟨by simp[World.setCell],fun i o hi _ _ h2=>by rw[Below.heap_setCell _ _ _ _ h2];exact hi⟩
theorem KeepC.cell {b1 b2:Nat} {W W':World} (h:KeepC b1 b2 W W') {p:Addr} {v:Value} (h1:p.block≠b1) (h2:p.block≠b2) (hc:W.cell? p=some v):W'.cell? p=some v:=by
 have hl:=World.block_lt_of_cell? W p hc
 obtain⟨o,ho⟩ : ∃ o,W.heap[p.block]? = some o:=⟨_,Array.getElem?_eq_getElem hl⟩
 have hoc:o.isCells=true:=by
  cases o <;> first|rfl|(exfalso;unfold World.cell? at hc;simp[ho] at hc)
 rw[World.cell?_of_block (w:=W) ((h.2 _ _ ho hoc h1 h2).trans ho.symm)]
 exact hc
def lenI (c:CalI) (wk:Int) (i:Nat):Int:=patW c ((i:Int)+1)+if (i:Int)+1=c.extra then wk - 52 else 0
def encL (c:CalI) (wk:Int) (n:Nat) (i:Fin n):Array Value:=#[.int .i64 (i.1:Int),.int .i64 (lenI c wk i.1)]
theorem lengths_any (c:CalI) (n wk:Int) (w:World) :
 Calls Tryz.prog 158 #[calA c,.int .i64 n,.int .i64 wk] w fun e w'=>e=.returned (.func (.func 213) #[] #[.pointer (some ⟨w.heap.size,0,none⟩),.pointer (some ⟨w.heap.size+1,0,none⟩),.pointer (some ⟨w.heap.size+2,0,none⟩)])∧w'=(((w.alloc (calC c)).alloc (.cells #[.int .i64 n] 3)).alloc (.cells #[.int .i64 wk] 3)):=by
 go_enter Tryz.func158,Tryz.ntmps158
 go_wp2_with fail
 go_ret
 exact⟨rfl,rfl⟩
theorem pat_at (c:CalI) (h4:c.shape=1∨c.shape=2∨c.shape=3) (i:Nat):(if i % 3=0 then (patA c).1 else if i % 3=1 then (patA c).2.1 else (patA c).2.2)=patW c ((i:Int)+1):=by
 unfold patA patW
 have m:i % 3=0∨i % 3=1∨i % 3=2:=by omega
 rcases h4 with s|s|s <;> rw[s] <;> rcases m with m|m|m <;> simp[m] <;> omega
theorem lens_stops (c:CalI) (n:Nat) (wk:Int) (b b1 b2:Nat) (w:World) (m:Nat) (hm:2≤m) (hn:n≤52) (hw:0≤wk∧wk≤100) (hp:∀ p,0≤patW c p∧patW c p≤10) (h4:c.shape=1∨c.shape=2∨c.shape=3)
 (hb:w.heap[b]? = some (calC c)) (hb1:w.cell? ⟨b+1,0,none⟩=some (.int .i64 (n:Int))) (hb2:w.cell? ⟨b+2,0,none⟩=some (.int .i64 wk)) (n1:b1<b) (n2:b2<b) :
 SeqStopsK Fence.wide m Tryz.prog 213 #[.pointer (some ⟨b,0,none⟩),.pointer (some ⟨b+1,0,none⟩),.pointer (some ⟨b+2,0,none⟩)] (encL c wk n) (KeepC b1 b2) (fun xs=>xs=List.finRange n) (fun _=>True) n w:=by
 intro l J Jx W hW hJ hJx hY h0
 refine callsIn_of_wp Tryz.func213 rfl trivial ?_ rfl
 simp only[Tryz.ntmps213,List.size_toArray,List.length_cons,List.length_nil,Nat.reduceAdd,Nat.reduceSub,Array.replicate_succ,Array.replicate_zero,List.push_toArray,List.append_toArray,List.nil_append,List.cons_append]
 have hbW:W.heap[b]? = some (calC c):=obj_go hW hb
 have q1:W.cell? ⟨b+1,0,none⟩=some (.int .i64 (n:Int)):=(hW.cell (p:=⟨b+1,0,none⟩) (World.block_lt_of_cell? _ _ hb1)).trans hb1
 have q2:W.cell? ⟨b+2,0,none⟩=some (.int .i64 wk):=(hW.cell (p:=⟨b+2,0,none⟩) (World.block_lt_of_cell? _ _ hb2)).trans hb2
 have l1:=World.block_lt_of_cell? _ _ q1
 have l2:=World.block_lt_of_cell? _ _ q2
 obtain⟨lb,fz,d0,d1,d2,d3,d4,d5,d6,d7,d8,d9,d10,d11,d12,d13⟩:=cal_cells hbW
 have h1m:1≤m:=by omega
 have h1m':1≤m - 1:=by omega
 gi_wp2_with (refine⟨trivial,?_⟩;gi_at_call 214;refine (callsIn_wide.2 (pattern_any c _)).mono ?_;rintro e w1 ⟨rfl,hp1⟩;have y1:=ac ((hp1.cell (p:=⟨b+1,0,none⟩) l1).trans q1) (Obj.cells #[.int .i64 (patA c).1,.int .i64 (patA c).2.1,.int .i64 (patA c).2.2] 22))
 have y2:=ac ((hp1.cell (p:=⟨b+2,0,none⟩) l2).trans q2) (Obj.cells #[.int .i64 (patA c).1,.int .i64 (patA c).2.1,.int .i64 (patA c).2.2] 22)
 have y0:=obj_go (bl_alloc (Below.refl w1.heap.size w1) (Obj.cells #[.int .i64 (patA c).1,.int .i64 (patA c).2.1,.int .i64 (patA c).2.2] 22)) (obj_go hp1 hbW)
 have yp:=alloc_here w1 (Obj.cells #[.int .i64 (patA c).1,.int .i64 (patA c).2.1,.int .i64 (patA c).2.2] 22)
 have hlw:b<w1.heap.size:=Nat.lt_of_lt_of_le lb hp1.size
 have hl2w:b+2<w1.heap.size:=Nat.lt_of_lt_of_le l2 hp1.size
 have hJ0:J [] (w1.alloc (Obj.cells #[.int .i64 (patA c).1,.int .i64 (patA c).2.1,.int .i64 (patA c).2.2] 22)):=by
  have hh:=bl_alloc hp1 (Obj.cells #[.int .i64 (patA c).1,.int .i64 (patA c).2.1,.int .i64 (patA c).2.2] 22)
  exact hJ _ _ _ none h0 ⟨hh.os,hh.tape,hh.output,hh.size,fun k hk _=>hh.block k hk⟩ (fun r e=>by cases e)
 clear d0 d1 d2 d3 d4 d5 d6 d7 d8 d9 d10 d11 d12 d13 fz lb l1 l2 q1 q2
 generalize w1.alloc (Obj.cells #[.int .i64 (patA c).1,.int .i64 (patA c).2.1,.int .i64 (patA c).2.2] 22)=W2 at *
 generalize hB:w1.heap.size=B at *
 gi_loopw [11] (fun i wr=>∃ k:Nat,k≤n∧i=.int .i64 k∧J ((List.finRange n).take k) wr∧KeepC b1 b2 W2 wr) (fun i _=>n - (intOf i).toNat)
 case atStart=>exact⟨0,by omega,rfl,by simpa using hJ0,KeepC.refl _ _ _⟩
 case round=>
  obtain⟨k,hk,rfl,hJk,KC⟩:=hrel
  by_cases hlt:k<n
  · have hzk:(k:Int)<(n:Int):=by omega
    obtain⟨fn,tmps,assign,body,hy,hR⟩:=hY ((List.finRange n).take k) ⟨k,hlt⟩ wr hJk (by simp;omega)
    have z2:=KC.cell (p:=⟨b+2,0,none⟩) (by simp;omega) (by simp;omega) y2
    have ob:wr.heap[b]? = some (calC c):=KC.2 _ _ y0 rfl (by omega) (by omega)
    have op:=KC.2 _ _ yp rfl (by omega) (by omega)
    obtain⟨lb,fz,d0,d1,d2,d3,d4,d5,d6,d7,d8,d9,d10,d11,d12,d13⟩:=cal_cells ob
    have z3:wr.cell? ⟨B,k % 3,none⟩=some (.int .i64 (patW c ((k:Int)+1))):=by
     rw[← pat_at c h4 k,obj_cell op]
     have m:k % 3=0∨k % 3=1∨k % 3=2:=by omega
     rcases m with m|m|m <;> rw[m] <;> rfl
    have pb:=hp ((k:Int)+1)
    dsimp only[encL] at hy
    have tk:(List.finRange n).take (k+1)=(List.finRange n).take k ++ [⟨k,hlt⟩]:=by rw[List.take_add_one,List.getElem?_eq_getElem (by simpa using hlt)];simp
    by_cases he:(k:Int)+1=c.extra
    · have te:((k:Int)+1 == c.extra)=true:=by simpa using he
      have le:lenI c wk k=patW c ((k:Int)+1)+(wk - 52):=by unfold lenI;rw[if_pos he]
      rw[le] at hy
      clear le he
      gi_wp2
      refine hR.mono ?_
      rintro e W3 (⟨rfl,hJ3,hk3⟩|⟨rfl,hJx3⟩)
      · gi_wp2
        go_roundw
        case rel=>exact⟨k+1,by omega,by go_num,by rw[tk];exact hJ3,keepC_t KC hk3⟩
        case measure=>simp[intOf];omega
      · gi_wp2
        refine bodyPost_ret (results_none rfl _ _ _) rfl ?_
        exact⟨⟨_,rfl⟩,.inr ⟨_,trivial,hJx3⟩⟩
    · have te:((k:Int)+1 == c.extra)=false:=by simpa using he
      have le:lenI c wk k=patW c ((k:Int)+1):=by unfold lenI;rw[if_neg he];omega
      rw[le] at hy
      clear le he
      gi_wp2
      refine hR.mono ?_
      rintro e W3 (⟨rfl,hJ3,hk3⟩|⟨rfl,hJx3⟩)
      · gi_wp2
        go_roundw
        case rel=>exact⟨k+1,by omega,by go_num,by rw[tk];exact hJ3,keepC_t KC hk3⟩
        case measure=>simp[intOf];omega
      · gi_wp2
        refine bodyPost_ret (results_none rfl _ _ _) rfl ?_
        exact⟨⟨_,rfl⟩,.inr ⟨_,trivial,hJx3⟩⟩
  · obtain rfl:k=n:=by omega
    have hzk:¬ (k:Int)<(k:Int):=by omega
    have hJe:J (List.finRange k) wr:=by have:=hJk;rw[List.take_of_length_le (by simp)] at this;exact this
    gi_wp2
    go_end0
    exact⟨⟨_,rfl⟩,.inl hJe⟩
end Go.Proofs.YtmkhgnccpkhcaaaGreatDoor
