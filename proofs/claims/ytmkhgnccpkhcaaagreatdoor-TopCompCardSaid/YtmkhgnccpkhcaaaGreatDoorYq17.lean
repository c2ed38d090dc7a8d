import Derived.Test.YtmkhgnccpkhcaaaGreatDoorYq11
set_option linter.unusedVariables false
set_option linter.unusedSimpArgs false
set_option maxRecDepth 100000
set_option maxHeartbeats 8000000
namespace Go.Proofs.YtmkhgnccpkhcaaaGreatDoor
open Go.RowKit
def stL (l:List Nat) (A:Nat):Nat→Option Nat:=fun k=>if l.contains k then some A else none
theorem kindsL {md:Region.Mode} {ops:Array Oper} {l:List Nat} {A:Nat} (h1:(l.all fun j=>Region.waitsFor md ops j A)=true) (h2:(l.all fun i=>l.all fun j=>!(decide (i<j)) || Region.waitsFor md ops j i)=true):Kinds md ops (fun _=>none) (stL l A) (fun _=>false):=by
 have mem:∀ {j k:Nat},stL l A j=some k→j ∈ l:=fun {j k} h=>by
  unfold stL at h
  by_cases hc:l.contains j=true
  · simpa using hc
  · rw[if_neg hc] at h;cases h
 have key:∀ {j k:Nat},stL l A j=some k→k=A:=fun {j k} h=>by
  unfold stL at h
  by_cases hc:l.contains j=true
  · rw[if_pos hc] at h;exact (Option.some.inj h).symm
  · rw[if_neg hc] at h;cases h
 simp only[List.all_eq_true] at h1 h2
 refine⟨fun i j h _=>absurd rfl h,fun j k h _=>?_,fun i j k hi hj hij _=>?_⟩
 · rw[key h];exact h1 j (mem h)
 · have:=h2 i (mem hi) j (mem hj)
   simpa [hij] using this
def bsL (A b:Nat) (x:Obj):Laid:=fun j=>if j=A then some (b,x) else none
theorem fresh_one {w:World} {A b:Nat} {x:Obj} {B:Nat} (hB:B≤b) (hb:b<w.heap.size) (hx:w.heap[b]? = some x):Fresh B w (bsL A b x) w:=by
 refine⟨Below.refl _ _,fun i c y h=>?_,fun i j c y z h1 h2=>?_⟩
 · unfold bsL at h
   by_cases hi:i=A
   · rw[if_pos hi] at h;obtain⟨rfl,rfl⟩:=Prod.mk.inj (Option.some.inj h);exact⟨hB,hb,hx⟩
   · rw[if_neg hi] at h;cases h
 · unfold bsL at h1 h2
   by_cases hi:i=A <;> by_cases hj:j=A
   · omega
   · rw[if_neg hj] at h2;cases h2
   · rw[if_neg hi] at h1;cases h1
   · rw[if_neg hi] at h1;cases h1
theorem upd_bsL (A b c:Nat) (x y:Obj):upd (bsL A b x) A c y=bsL A c y:=by
 funext j;unfold upd bsL;by_cases h:j=A <;> simp[h]
theorem ruled_k3 (c:CalI) (w:World) (h:c.kind=3) :
 Calls Tryz.prog 19 #[calA c] w fun e w'=>e=.returned (.bool (ruledB c))∧Below w.heap.size w w':=by
 have T:=Lib.hid (ruled_three c h)
 go_enter Tryz.func19,Tryz.ntmps19
 go_wp2_with fail
 refine (fixed_3 _).mono ?_
 rintro e w1 ⟨rfl,hb1⟩
 obtain⟨hc1_0,hf1_0,hz1_0⟩:=own_stays hb1 (b:=w.heap.size) (by simp)
 go_wp2_with fail
 refine region_u w1.heap.size (bsL 8 w1.heap.size (.cells #[.string ByteArray.empty,.int .i64 3,.int .i64 6,.int .i64 1,.int .i64 1,.int .i64 1,.int .i64 4,.int .i64 5,.int .i64 4,.int .i64 0,.int .i64 12,.int .i64 0,.int .i64 0,.int .i64 0] 24)) (fun _=>none) (stL [9,11,13,15] 8) (fun _=>false) (fun W=>W.cell? ⟨w.heap.size,0,none⟩=some (.string c.name)∧W.cell? ⟨w.heap.size,1,none⟩=some (.int .i64 3)∧W.cell? ⟨w.heap.size,2,none⟩=some (.int .i64 c.day)∧W.cell? ⟨w.heap.size,3,none⟩=some (.int .i64 c.month)∧W.cell? ⟨w.heap.size,4,none⟩=some (.int .i64 c.shift)∧W.cell? ⟨w.heap.size,5,none⟩=some (.int .i64 c.shape)∧W.cell? ⟨w.heap.size,6,none⟩=some (.int .i64 c.p0)∧W.cell? ⟨w.heap.size,7,none⟩=some (.int .i64 c.p1)∧W.cell? ⟨w.heap.size,8,none⟩=some (.int .i64 c.p2)∧W.cell? ⟨w.heap.size,9,none⟩=some (.int .i64 c.cycle)∧W.cell? ⟨w.heap.size,10,none⟩=some (.int .i64 c.extra)∧W.cell? ⟨w.heap.size,11,none⟩=some (.int .i64 c.first)∧W.cell? ⟨w.heap.size,12,none⟩=some (.int .i64 c.last)∧W.cell? ⟨w.heap.size,13,none⟩=some (.int .i64 c.policy)∧Below w.heap.size w W) ⟨by go_simp,by go_simp,by go_simp,by go_simp,by go_simp,by go_simp,by go_simp,by go_simp,by go_simp,by go_simp,by go_simp,by go_simp,by go_simp,by go_simp,(by repeat (with_reducible (first|exact Below.refl _ _|assumption|refine bl_alloc ?_ _|refine bl_drewN ?_ _|refine bl_drew ?_|refine bl_call ?_ ‹_›|(refine bl_setCell ?_ _ (Nat.le_refl _))|(refine bl_setCell ?_ _ (by simp)))))⟩ (by simp) (fresh_one (Nat.le_refl _) (by simp) (by unfold World.alloc;simp)) (by kernel_rfl) (by kernel_rfl) (kindsL (by kernel_rfl) (by kernel_rfl)) ?_
 intro W ⟨k0,k1,k2,k3,k4,k5,k6,k7,k8,k9,k10,k11,k12,k13,hbW⟩ hBW
 have m0:=mcell k0 hz1_0 hBW
 have m11:=mcell k11 hz1_0 hBW
 have m12:=mcell k12 hz1_0 hBW
 have m13:=mcell k13 hz1_0 hBW
 repeat ((first|refine wpT_op true rfl rfl rfl (fun K hK=>?_)|refine wpT_op false rfl rfl rfl (fun K hK=>?_));go_simp;first|(refine hK _ ?_;clear hK K)|(apply Exists.intro;refine⟨fun _=>?_,hK _ ?_⟩;(fail);clear hK K))
 refine wpT_st 8 w1.heap.size (Obj.cells #[.string ByteArray.empty,.int .i64 3,.int .i64 6,.int .i64 1,.int .i64 1,.int .i64 1,.int .i64 4,.int .i64 5,.int .i64 4,.int .i64 0,.int .i64 12,.int .i64 0,.int .i64 0,.int .i64 0] 24) (Obj.cells #[.string c.name,.int .i64 3,.int .i64 6,.int .i64 1,.int .i64 1,.int .i64 1,.int .i64 4,.int .i64 5,.int .i64 4,.int .i64 0,.int .i64 12,.int .i64 0,.int .i64 0,.int .i64 0] 24) rfl rfl (by rfl) (Nat.le_refl _) ⟨fun y=>rfl,fun u1 hu1 hlt hx=>⟨_,?_,touch_set hx 0 (.string c.name)⟩⟩ ?_
 · have f0:=laid_free hx 0
   have c0:=laid_cell hx 0 _ rfl
   clear hx hu1
   go_simp
 repeat ((first|refine wpT_op true rfl rfl rfl (fun K hK=>?_)|refine wpT_op false rfl rfl rfl (fun K hK=>?_));go_simp;first|(refine hK _ ?_;clear hK K)|(apply Exists.intro;refine⟨fun _=>?_,hK _ ?_⟩;(fail);clear hK K))
 refine wpT_st 8 w1.heap.size (Obj.cells #[.string c.name,.int .i64 3,.int .i64 6,.int .i64 1,.int .i64 1,.int .i64 1,.int .i64 4,.int .i64 5,.int .i64 4,.int .i64 0,.int .i64 12,.int .i64 0,.int .i64 0,.int .i64 0] 24) (Obj.cells #[.string c.name,.int .i64 3,.int .i64 6,.int .i64 1,.int .i64 1,.int .i64 1,.int .i64 4,.int .i64 5,.int .i64 4,.int .i64 0,.int .i64 12,.int .i64 c.first,.int .i64 0,.int .i64 0] 24) rfl rfl (by rw[upd_bsL];rfl) (Nat.le_refl _) ⟨fun y=>rfl,fun u1 hu1 hlt hx=>⟨_,?_,touch_set hx 11 (.int .i64 c.first)⟩⟩ ?_
 · have f0:=laid_free hx 11
   have c0:=laid_cell hx 11 _ rfl
   clear hx hu1
   go_simp
 repeat ((first|refine wpT_op true rfl rfl rfl (fun K hK=>?_)|refine wpT_op false rfl rfl rfl (fun K hK=>?_));go_simp;first|(refine hK _ ?_;clear hK K)|(apply Exists.intro;refine⟨fun _=>?_,hK _ ?_⟩;(fail);clear hK K))
 refine wpT_st 8 w1.heap.size (Obj.cells #[.string c.name,.int .i64 3,.int .i64 6,.int .i64 1,.int .i64 1,.int .i64 1,.int .i64 4,.int .i64 5,.int .i64 4,.int .i64 0,.int .i64 12,.int .i64 c.first,.int .i64 0,.int .i64 0] 24) (Obj.cells #[.string c.name,.int .i64 3,.int .i64 6,.int .i64 1,.int .i64 1,.int .i64 1,.int .i64 4,.int .i64 5,.int .i64 4,.int .i64 0,.int .i64 12,.int .i64 c.first,.int .i64 c.last,.int .i64 0] 24) rfl rfl (by rw[upd_bsL];rfl) (Nat.le_refl _) ⟨fun y=>rfl,fun u1 hu1 hlt hx=>⟨_,?_,touch_set hx 12 (.int .i64 c.last)⟩⟩ ?_
 · have f0:=laid_free hx 12
   have c0:=laid_cell hx 12 _ rfl
   clear hx hu1
   go_simp
 repeat ((first|refine wpT_op true rfl rfl rfl (fun K hK=>?_)|refine wpT_op false rfl rfl rfl (fun K hK=>?_));go_simp;first|(refine hK _ ?_;clear hK K)|(apply Exists.intro;refine⟨fun _=>?_,hK _ ?_⟩;(fail);clear hK K))
 refine wpT_st 8 w1.heap.size (Obj.cells #[.string c.name,.int .i64 3,.int .i64 6,.int .i64 1,.int .i64 1,.int .i64 1,.int .i64 4,.int .i64 5,.int .i64 4,.int .i64 0,.int .i64 12,.int .i64 c.first,.int .i64 c.last,.int .i64 0] 24) (Obj.cells #[.string c.name,.int .i64 3,.int .i64 6,.int .i64 1,.int .i64 1,.int .i64 1,.int .i64 4,.int .i64 5,.int .i64 4,.int .i64 0,.int .i64 12,.int .i64 c.first,.int .i64 c.last,.int .i64 c.policy] 24) rfl rfl (by rw[upd_bsL];rfl) (Nat.le_refl _) ⟨fun y=>rfl,fun u1 hu1 hlt hx=>⟨_,?_,touch_set hx 13 (.int .i64 c.policy)⟩⟩ ?_
 · have f0:=laid_free hx 13
   have c0:=laid_cell hx 13 _ rfl
   clear hx hu1
   go_simp
 repeat ((first|refine wpT_op true rfl rfl rfl (fun K hK=>?_)|refine wpT_op false rfl rfl rfl (fun K hK=>?_));go_simp;first|(refine hK _ ?_;clear hK K)|(apply Exists.intro;refine⟨fun _=>?_,hK _ ?_⟩;(fail);clear hK K))
 refine wpT_nil ?_
 intro w2 hfr
 obtain⟨l1,l2,l3⟩:=hfr.low 8 w1.heap.size (Obj.cells #[.string c.name,.int .i64 3,.int .i64 6,.int .i64 1,.int .i64 1,.int .i64 1,.int .i64 4,.int .i64 5,.int .i64 4,.int .i64 0,.int .i64 12,.int .i64 c.first,.int .i64 c.last,.int .i64 c.policy] 24) (upd_same _ _ _ _)
 have d0:=laid_cell l3 0 _ rfl
 have n0:=(hfr.below.cell (p:=⟨w.heap.size,0,none⟩) hz1_0).trans k0
 have d1:=laid_cell l3 1 _ rfl
 have n1:=(hfr.below.cell (p:=⟨w.heap.size,1,none⟩) hz1_0).trans k1
 have d2:=laid_cell l3 2 _ rfl
 have n2:=(hfr.below.cell (p:=⟨w.heap.size,2,none⟩) hz1_0).trans k2
 have d3:=laid_cell l3 3 _ rfl
 have n3:=(hfr.below.cell (p:=⟨w.heap.size,3,none⟩) hz1_0).trans k3
 have d4:=laid_cell l3 4 _ rfl
 have n4:=(hfr.below.cell (p:=⟨w.heap.size,4,none⟩) hz1_0).trans k4
 have d5:=laid_cell l3 5 _ rfl
 have n5:=(hfr.below.cell (p:=⟨w.heap.size,5,none⟩) hz1_0).trans k5
 have d6:=laid_cell l3 6 _ rfl
 have n6:=(hfr.below.cell (p:=⟨w.heap.size,6,none⟩) hz1_0).trans k6
 have d7:=laid_cell l3 7 _ rfl
 have n7:=(hfr.below.cell (p:=⟨w.heap.size,7,none⟩) hz1_0).trans k7
 have d8:=laid_cell l3 8 _ rfl
 have n8:=(hfr.below.cell (p:=⟨w.heap.size,8,none⟩) hz1_0).trans k8
 have d9:=laid_cell l3 9 _ rfl
 have n9:=(hfr.below.cell (p:=⟨w.heap.size,9,none⟩) hz1_0).trans k9
 have d10:=laid_cell l3 10 _ rfl
 have n10:=(hfr.below.cell (p:=⟨w.heap.size,10,none⟩) hz1_0).trans k10
 have d11:=laid_cell l3 11 _ rfl
 have n11:=(hfr.below.cell (p:=⟨w.heap.size,11,none⟩) hz1_0).trans k11
 have d12:=laid_cell l3 12 _ rfl
 have n12:=(hfr.below.cell (p:=⟨w.heap.size,12,none⟩) hz1_0).trans k12
 have d13:=laid_cell l3 13 _ rfl
 have n13:=(hfr.below.cell (p:=⟨w.heap.size,13,none⟩) hz1_0).trans k13
 have HW:=hbW.trans (hfr.below.mono (Nat.le_of_lt hz1_0))
 clear hfr l3 hc1_0 hf1_0 hBW k0 k1 k2 k3 k4 k5 k6 k7 k8 k9 k10 k11 k12 k13 m0 m11 m12 m13 hbW
 have CE:=@run_calEq
 go_wp2
 go_ret
 exact⟨ret_b T.out.symm,HW⟩
theorem ruled_k4 (c:CalI) (w:World) (h:c.kind=4) :
 Calls Tryz.prog 19 #[calA c] w fun e w'=>e=.returned (.bool (ruledB c))∧Below w.heap.size w w':=by
 have T:=Lib.hid (ruled_four c h)
 go_enter Tryz.func19,Tryz.ntmps19
 go_wp2_with fail
 refine (fixed_4 _).mono ?_
 rintro e w1 ⟨rfl,hb1⟩
 obtain⟨hc1_0,hf1_0,hz1_0⟩:=own_stays hb1 (b:=w.heap.size) (by simp)
 go_wp2_with fail
 refine region_u w1.heap.size (bsL 8 w1.heap.size (.cells #[.string ByteArray.empty,.int .i64 4,.int .i64 7,.int .i64 12,.int .i64 0,.int .i64 4,.int .i64 0,.int .i64 0,.int .i64 0,.int .i64 0,.int .i64 12,.int .i64 0,.int .i64 0,.int .i64 0] 24)) (fun _=>none) (stL [9,11,13,15] 8) (fun _=>false) (fun W=>W.cell? ⟨w.heap.size,0,none⟩=some (.string c.name)∧W.cell? ⟨w.heap.size,1,none⟩=some (.int .i64 4)∧W.cell? ⟨w.heap.size,2,none⟩=some (.int .i64 c.day)∧W.cell? ⟨w.heap.size,3,none⟩=some (.int .i64 c.month)∧W.cell? ⟨w.heap.size,4,none⟩=some (.int .i64 c.shift)∧W.cell? ⟨w.heap.size,5,none⟩=some (.int .i64 c.shape)∧W.cell? ⟨w.heap.size,6,none⟩=some (.int .i64 c.p0)∧W.cell? ⟨w.heap.size,7,none⟩=some (.int .i64 c.p1)∧W.cell? ⟨w.heap.size,8,none⟩=some (.int .i64 c.p2)∧W.cell? ⟨w.heap.size,9,none⟩=some (.int .i64 c.cycle)∧W.cell? ⟨w.heap.size,10,none⟩=some (.int .i64 c.extra)∧W.cell? ⟨w.heap.size,11,none⟩=some (.int .i64 c.first)∧W.cell? ⟨w.heap.size,12,none⟩=some (.int .i64 c.last)∧W.cell? ⟨w.heap.size,13,none⟩=some (.int .i64 c.policy)∧Below w.heap.size w W) ⟨by go_simp,by go_simp,by go_simp,by go_simp,by go_simp,by go_simp,by go_simp,by go_simp,by go_simp,by go_simp,by go_simp,by go_simp,by go_simp,by go_simp,(by repeat (with_reducible (first|exact Below.refl _ _|assumption|refine bl_alloc ?_ _|refine bl_drewN ?_ _|refine bl_drew ?_|refine bl_call ?_ ‹_›|(refine bl_setCell ?_ _ (Nat.le_refl _))|(refine bl_setCell ?_ _ (by simp)))))⟩ (by simp) (fresh_one (Nat.le_refl _) (by simp) (by unfold World.alloc;simp)) (by kernel_rfl) (by kernel_rfl) (kindsL (by kernel_rfl) (by kernel_rfl)) ?_
 intro W ⟨k0,k1,k2,k3,k4,k5,k6,k7,k8,k9,k10,k11,k12,k13,hbW⟩ hBW
 have m0:=mcell k0 hz1_0 hBW
 have m11:=mcell k11 hz1_0 hBW
 have m12:=mcell k12 hz1_0 hBW
 have m13:=mcell k13 hz1_0 hBW
 repeat ((first|refine wpT_op true rfl rfl rfl (fun K hK=>?_)|refine wpT_op false rfl rfl rfl (fun K hK=>?_));go_simp;first|(refine hK _ ?_;clear hK K)|(apply Exists.intro;refine⟨fun _=>?_,hK _ ?_⟩;(fail);clear hK K))
 refine wpT_st 8 w1.heap.size (Obj.cells #[.string ByteArray.empty,.int .i64 4,.int .i64 7,.int .i64 12,.int .i64 0,.int .i64 4,.int .i64 0,.int .i64 0,.int .i64 0,.int .i64 0,.int .i64 12,.int .i64 0,.int .i64 0,.int .i64 0] 24) (Obj.cells #[.string c.name,.int .i64 4,.int .i64 7,.int .i64 12,.int .i64 0,.int .i64 4,.int .i64 0,.int .i64 0,.int .i64 0,.int .i64 0,.int .i64 12,.int .i64 0,.int .i64 0,.int .i64 0] 24) rfl rfl (by rfl) (Nat.le_refl _) ⟨fun y=>rfl,fun u1 hu1 hlt hx=>⟨_,?_,touch_set hx 0 (.string c.name)⟩⟩ ?_
 · have f0:=laid_free hx 0
   have c0:=laid_cell hx 0 _ rfl
   clear hx hu1
   go_simp
 repeat ((first|refine wpT_op true rfl rfl rfl (fun K hK=>?_)|refine wpT_op false rfl rfl rfl (fun K hK=>?_));go_simp;first|(refine hK _ ?_;clear hK K)|(apply Exists.intro;refine⟨fun _=>?_,hK _ ?_⟩;(fail);clear hK K))
 refine wpT_st 8 w1.heap.size (Obj.cells #[.string c.name,.int .i64 4,.int .i64 7,.int .i64 12,.int .i64 0,.int .i64 4,.int .i64 0,.int .i64 0,.int .i64 0,.int .i64 0,.int .i64 12,.int .i64 0,.int .i64 0,.int .i64 0] 24) (Obj.cells #[.string c.name,.int .i64 4,.int .i64 7,.int .i64 12,.int .i64 0,.int .i64 4,.int .i64 0,.int .i64 0,.int .i64 0,.int .i64 0,.int .i64 12,.int .i64 c.first,.int .i64 0,.int .i64 0] 24) rfl rfl (by rw[upd_bsL];rfl) (Nat.le_refl _) ⟨fun y=>rfl,fun u1 hu1 hlt hx=>⟨_,?_,touch_set hx 11 (.int .i64 c.first)⟩⟩ ?_
 · have f0:=laid_free hx 11
   have c0:=laid_cell hx 11 _ rfl
   clear hx hu1
   go_simp
 repeat ((first|refine wpT_op true rfl rfl rfl (fun K hK=>?_)|refine wpT_op false rfl rfl rfl (fun K hK=>?_));go_simp;first|(refine hK _ ?_;clear hK K)|(apply Exists.intro;refine⟨fun _=>?_,hK _ ?_⟩;(fail);clear hK K))
 refine wpT_st 8 w1.heap.size (Obj.cells #[.string c.name,.int .i64 4,.int .i64 7,.int .i64 12,.int .i64 0,.int .i64 4,.int .i64 0,.int .i64 0,.int .i64 0,.int .i64 0,.int .i64 12,.int .i64 c.first,.int .i64 0,.int .i64 0] 24) (Obj.cells #[.string c.name,.int .i64 4,.int .i64 7,.int .i64 12,.int .i64 0,.int .i64 4,.int .i64 0,.int .i64 0,.int .i64 0,.int .i64 0,.int .i64 12,.int .i64 c.first,.int .i64 c.last,.int .i64 0] 24) rfl rfl (by rw[upd_bsL];rfl) (Nat.le_refl _) ⟨fun y=>rfl,fun u1 hu1 hlt hx=>⟨_,?_,touch_set hx 12 (.int .i64 c.last)⟩⟩ ?_
 · have f0:=laid_free hx 12
   have c0:=laid_cell hx 12 _ rfl
   clear hx hu1
   go_simp
 repeat ((first|refine wpT_op true rfl rfl rfl (fun K hK=>?_)|refine wpT_op false rfl rfl rfl (fun K hK=>?_));go_simp;first|(refine hK _ ?_;clear hK K)|(apply Exists.intro;refine⟨fun _=>?_,hK _ ?_⟩;(fail);clear hK K))
 refine wpT_st 8 w1.heap.size (Obj.cells #[.string c.name,.int .i64 4,.int .i64 7,.int .i64 12,.int .i64 0,.int .i64 4,.int .i64 0,.int .i64 0,.int .i64 0,.int .i64 0,.int .i64 12,.int .i64 c.first,.int .i64 c.last,.int .i64 0] 24) (Obj.cells #[.string c.name,.int .i64 4,.int .i64 7,.int .i64 12,.int .i64 0,.int .i64 4,.int .i64 0,.int .i64 0,.int .i64 0,.int .i64 0,.int .i64 12,.int .i64 c.first,.int .i64 c.last,.int .i64 c.policy] 24) rfl rfl (by rw[upd_bsL];rfl) (Nat.le_refl _) ⟨fun y=>rfl,fun u1 hu1 hlt hx=>⟨_,?_,touch_set hx 13 (.int .i64 c.policy)⟩⟩ ?_
 · have f0:=laid_free hx 13
   have c0:=laid_cell hx 13 _ rfl
   clear hx hu1
   go_simp
 repeat ((first|refine wpT_op true rfl rfl rfl (fun K hK=>?_)|refine wpT_op false rfl rfl rfl (fun K hK=>?_));go_simp;first|(refine hK _ ?_;clear hK K)|(apply Exists.intro;refine⟨fun _=>?_,hK _ ?_⟩;(fail);clear hK K))
 refine wpT_nil ?_
 intro w2 hfr
 obtain⟨l1,l2,l3⟩:=hfr.low 8 w1.heap.size (Obj.cells #[.string c.name,.int .i64 4,.int .i64 7,.int .i64 12,.int .i64 0,.int .i64 4,.int .i64 0,.int .i64 0,.int .i64 0,.int .i64 0,.int .i64 12,.int .i64 c.first,.int .i64 c.last,.int .i64 c.policy] 24) (upd_same _ _ _ _)
 have d0:=laid_cell l3 0 _ rfl
 have n0:=(hfr.below.cell (p:=⟨w.heap.size,0,none⟩) hz1_0).trans k0
 have d1:=laid_cell l3 1 _ rfl
 have n1:=(hfr.below.cell (p:=⟨w.heap.size,1,none⟩) hz1_0).trans k1
 have d2:=laid_cell l3 2 _ rfl
 have n2:=(hfr.below.cell (p:=⟨w.heap.size,2,none⟩) hz1_0).trans k2
 have d3:=laid_cell l3 3 _ rfl
 have n3:=(hfr.below.cell (p:=⟨w.heap.size,3,none⟩) hz1_0).trans k3
 have d4:=laid_cell l3 4 _ rfl
 have n4:=(hfr.below.cell (p:=⟨w.heap.size,4,none⟩) hz1_0).trans k4
 have d5:=laid_cell l3 5 _ rfl
 have n5:=(hfr.below.cell (p:=⟨w.heap.size,5,none⟩) hz1_0).trans k5
 have d6:=laid_cell l3 6 _ rfl
 have n6:=(hfr.below.cell (p:=⟨w.heap.size,6,none⟩) hz1_0).trans k6
 have d7:=laid_cell l3 7 _ rfl
 have n7:=(hfr.below.cell (p:=⟨w.heap.size,7,none⟩) hz1_0).trans k7
 have d8:=laid_cell l3 8 _ rfl
 have n8:=(hfr.below.cell (p:=⟨w.heap.size,8,none⟩) hz1_0).trans k8
 have d9:=laid_cell l3 9 _ rfl
 have n9:=(hfr.below.cell (p:=⟨w.heap.size,9,none⟩) hz1_0).trans k9
 have d10:=laid_cell l3 10 _ rfl
 have n10:=(hfr.below.cell (p:=⟨w.heap.size,10,none⟩) hz1_0).trans k10
 have d11:=laid_cell l3 11 _ rfl
 have n11:=(hfr.below.cell (p:=⟨w.heap.size,11,none⟩) hz1_0).trans k11
 have d12:=laid_cell l3 12 _ rfl
 have n12:=(hfr.below.cell (p:=⟨w.heap.size,12,none⟩) hz1_0).trans k12
 have d13:=laid_cell l3 13 _ rfl
 have n13:=(hfr.below.cell (p:=⟨w.heap.size,13,none⟩) hz1_0).trans k13
 have HW:=hbW.trans (hfr.below.mono (Nat.le_of_lt hz1_0))
 clear hfr l3 hc1_0 hf1_0 hBW k0 k1 k2 k3 k4 k5 k6 k7 k8 k9 k10 k11 k12 k13 m0 m11 m12 m13 hbW
 have CE:=@run_calEq
 go_wp2
 go_ret
 exact⟨ret_b T.out.symm,HW⟩
theorem ruled_any (c:CalI) (w:World) :
 Calls Tryz.prog 19 #[calA c] w fun e w'=>e=.returned (.bool (ruledB c))∧Below w.heap.size w w':=by
 by_cases h:c.kind<1∨6<c.kind
 · exact ruled_ke c w h
 have h':c.kind=1∨c.kind=2∨c.kind=3∨c.kind=4∨c.kind=5∨c.kind=6:=by omega
 rcases h' with h|h|h|h|h|h
 · exact ruled_k1 c w h
 · exact ruled_k2 c w h
 · exact ruled_k3 c w h
 · exact ruled_k4 c w h
 · exact ruled_k5 c w h
 · exact ruled_k6 c w h
theorem polB_eq (c:CalI):polB c=(btwB c.policy 1 4 && ((c.policy == 4) == (c.kind == 6))):=rfl
theorem servB_eq (c:CalI):servB c=(decide (1602≤c.first) && (decide (c.last≤9996) && (decide (c.first≤c.last) && decide (c.last - c.first<400)))):=by
 rw[Bool.eq_iff_iff];unfold servB;simp
theorem calB_eq (c:CalI):calB c=(servB c && (polB c && (nameB c.name && ruledB c))):=rfl
theorem fcheck_any (c:CalI) (w:World) (hs:c.name.size≤maxLen) :
 Calls Tryz.prog 6 #[calA c] w fun e w'=>e=.returned (.int .i64 (argE (calB c)))∧Below w.heap.size w w':=by
 have T:=Lib.hid (show calB c=((decide (1602≤c.first) && (decide (c.last≤9996) && (decide (c.first≤c.last) && decide (c.last - c.first<400)))) && ((btwB c.policy 1 4 && ((c.policy == 4) == (c.kind == 6))) && (nameB c.name && ruledB c))) by rw[calB_eq,servB_eq,polB_eq])
 by_cases s1:1602≤c.first
 · have Hs1:=Lib.hid (show decide (1602≤c.first)=true by simpa using s1)
   by_cases s2:c.last≤9996
   · have Hs2:=Lib.hid (show decide (c.last≤9996)=true by simpa using s2)
     by_cases s3:c.first≤c.last
     · have Hs3:=Lib.hid (show decide (c.first≤c.last)=true by simpa using s3)
       by_cases s4:c.last - c.first<400
       · have Hs4:=Lib.hid (show decide (c.last - c.first<400)=true by simpa using s4)
         rcases Bool.eq_false_or_eq_true (btwB c.policy 1 4) with b|b
         · have Hb:=Lib.hid b
           rcases Bool.eq_false_or_eq_true ((c.policy == 4) == (c.kind == 6)) with q|q
           · have Hq:=Lib.hid q
             rcases Bool.eq_false_or_eq_true (nameB c.name) with n|n
             · have Hn:=Lib.hid n
               rcases Bool.eq_false_or_eq_true (ruledB c) with r|r
               · have Hr:=Lib.hid r
                 go_enter Tryz.func6,Tryz.ntmps6
                 go_wp2_with (first|(go_at_call 17;refine (between_any _ _ _ _).mono ?_;rintro e w' ⟨rfl,rfl⟩)|(go_at_call 18;refine (name_any _ _ hs).mono ?_;rintro e w' ⟨rfl,rfl⟩)|(go_at_call 19;refine (ruled_any c _).mono ?_;rintro e w2 ⟨rfl,hb2⟩))
                 go_ret
                 exact⟨ret_i (by rw[T.out,Hs1.out,Hs2.out,Hs3.out,Hs4.out,Hb.out,Hq.out,Hn.out,Hr.out];first|rfl|simp[argE]),(by repeat (with_reducible (first|exact Below.refl _ _|assumption|refine bl_alloc ?_ _|refine bl_drewN ?_ _|refine bl_drew ?_|refine bl_call ?_ ‹_›|(refine bl_setCell ?_ _ (Nat.le_refl _))|(refine bl_setCell ?_ _ (by simp)))))⟩
               · have Hr:=Lib.hid r
                 go_enter Tryz.func6,Tryz.ntmps6
                 go_wp2_with (first|(go_at_call 17;refine (between_any _ _ _ _).mono ?_;rintro e w' ⟨rfl,rfl⟩)|(go_at_call 18;refine (name_any _ _ hs).mono ?_;rintro e w' ⟨rfl,rfl⟩)|(go_at_call 19;refine (ruled_any c _).mono ?_;rintro e w2 ⟨rfl,hb2⟩))
                 go_ret
                 exact⟨ret_i (by rw[T.out,Hs1.out,Hs2.out,Hs3.out,Hs4.out,Hb.out,Hq.out,Hn.out,Hr.out];first|rfl|simp[argE]),(by repeat (with_reducible (first|exact Below.refl _ _|assumption|refine bl_alloc ?_ _|refine bl_drewN ?_ _|refine bl_drew ?_|refine bl_call ?_ ‹_›|(refine bl_setCell ?_ _ (Nat.le_refl _))|(refine bl_setCell ?_ _ (by simp)))))⟩
             · have Hn:=Lib.hid n
               go_enter Tryz.func6,Tryz.ntmps6
               go_wp2_with (first|(go_at_call 17;refine (between_any _ _ _ _).mono ?_;rintro e w' ⟨rfl,rfl⟩)|(go_at_call 18;refine (name_any _ _ hs).mono ?_;rintro e w' ⟨rfl,rfl⟩)|(go_at_call 19;refine (ruled_any c _).mono ?_;rintro e w2 ⟨rfl,hb2⟩))
               go_ret
               exact⟨ret_i (by rw[T.out,Hs1.out,Hs2.out,Hs3.out,Hs4.out,Hb.out,Hq.out,Hn.out];first|rfl|simp[argE]),(by repeat (with_reducible (first|exact Below.refl _ _|assumption|refine bl_alloc ?_ _|refine bl_drewN ?_ _|refine bl_drew ?_|refine bl_call ?_ ‹_›|(refine bl_setCell ?_ _ (Nat.le_refl _))|(refine bl_setCell ?_ _ (by simp)))))⟩
           · have Hq:=Lib.hid q
             go_enter Tryz.func6,Tryz.ntmps6
             go_wp2_with (first|(go_at_call 17;refine (between_any _ _ _ _).mono ?_;rintro e w' ⟨rfl,rfl⟩)|(go_at_call 18;refine (name_any _ _ hs).mono ?_;rintro e w' ⟨rfl,rfl⟩)|(go_at_call 19;refine (ruled_any c _).mono ?_;rintro e w2 ⟨rfl,hb2⟩))
             go_ret
             exact⟨ret_i (by rw[T.out,Hs1.out,Hs2.out,Hs3.out,Hs4.out,Hb.out,Hq.out];first|rfl|simp[argE]),(by repeat (with_reducible (first|exact Below.refl _ _|assumption|refine bl_alloc ?_ _|refine bl_drewN ?_ _|refine bl_drew ?_|refine bl_call ?_ ‹_›|(refine bl_setCell ?_ _ (Nat.le_refl _))|(refine bl_setCell ?_ _ (by simp)))))⟩
         · have Hb:=Lib.hid b
           go_enter Tryz.func6,Tryz.ntmps6
           go_wp2_with (first|(go_at_call 17;refine (between_any _ _ _ _).mono ?_;rintro e w' ⟨rfl,rfl⟩)|(go_at_call 18;refine (name_any _ _ hs).mono ?_;rintro e w' ⟨rfl,rfl⟩)|(go_at_call 19;refine (ruled_any c _).mono ?_;rintro e w2 ⟨rfl,hb2⟩))
           go_ret
           exact⟨ret_i (by rw[T.out,Hs1.out,Hs2.out,Hs3.out,Hs4.out,Hb.out];first|rfl|simp[argE]),(by repeat (with_reducible (first|exact Below.refl _ _|assumption|refine bl_alloc ?_ _|refine bl_drewN ?_ _|refine bl_drew ?_|refine bl_call ?_ ‹_›|(refine bl_setCell ?_ _ (Nat.le_refl _))|(refine bl_setCell ?_ _ (by simp)))))⟩
       · have Hs4:=Lib.hid (show decide (c.last - c.first<400)=false by simpa using s4)
         rcases Bool.eq_false_or_eq_true (btwB c.policy 1 4) with b|b
         · have Hb:=Lib.hid b
           rcases Bool.eq_false_or_eq_true ((c.policy == 4) == (c.kind == 6)) with q|q
           · have Hq:=Lib.hid q
             go_enter Tryz.func6,Tryz.ntmps6
             go_wp2_with (first|(go_at_call 17;refine (between_any _ _ _ _).mono ?_;rintro e w' ⟨rfl,rfl⟩)|(go_at_call 18;refine (name_any _ _ hs).mono ?_;rintro e w' ⟨rfl,rfl⟩)|(go_at_call 19;refine (ruled_any c _).mono ?_;rintro e w2 ⟨rfl,hb2⟩))
             go_ret
             exact⟨ret_i (by rw[T.out,Hs1.out,Hs2.out,Hs3.out,Hs4.out,Hb.out,Hq.out];first|rfl|simp[argE]),(by repeat (with_reducible (first|exact Below.refl _ _|assumption|refine bl_alloc ?_ _|refine bl_drewN ?_ _|refine bl_drew ?_|refine bl_call ?_ ‹_›|(refine bl_setCell ?_ _ (Nat.le_refl _))|(refine bl_setCell ?_ _ (by simp)))))⟩
           · have Hq:=Lib.hid q
             go_enter Tryz.func6,Tryz.ntmps6
             go_wp2_with (first|(go_at_call 17;refine (between_any _ _ _ _).mono ?_;rintro e w' ⟨rfl,rfl⟩)|(go_at_call 18;refine (name_any _ _ hs).mono ?_;rintro e w' ⟨rfl,rfl⟩)|(go_at_call 19;refine (ruled_any c _).mono ?_;rintro e w2 ⟨rfl,hb2⟩))
             go_ret
             exact⟨ret_i (by rw[T.out,Hs1.out,Hs2.out,Hs3.out,Hs4.out,Hb.out,Hq.out];first|rfl|simp[argE]),(by repeat (with_reducible (first|exact Below.refl _ _|assumption|refine bl_alloc ?_ _|refine bl_drewN ?_ _|refine bl_drew ?_|refine bl_call ?_ ‹_›|(refine bl_setCell ?_ _ (Nat.le_refl _))|(refine bl_setCell ?_ _ (by simp)))))⟩
         · have Hb:=Lib.hid b
           go_enter Tryz.func6,Tryz.ntmps6
           go_wp2_with (first|(go_at_call 17;refine (between_any _ _ _ _).mono ?_;rintro e w' ⟨rfl,rfl⟩)|(go_at_call 18;refine (name_any _ _ hs).mono ?_;rintro e w' ⟨rfl,rfl⟩)|(go_at_call 19;refine (ruled_any c _).mono ?_;rintro e w2 ⟨rfl,hb2⟩))
           go_ret
           exact⟨ret_i (by rw[T.out,Hs1.out,Hs2.out,Hs3.out,Hs4.out,Hb.out];first|rfl|simp[argE]),(by repeat (with_reducible (first|exact Below.refl _ _|assumption|refine bl_alloc ?_ _|refine bl_drewN ?_ _|refine bl_drew ?_|refine bl_call ?_ ‹_›|(refine bl_setCell ?_ _ (Nat.le_refl _))|(refine bl_setCell ?_ _ (by simp)))))⟩
     · have Hs3:=Lib.hid (show decide (c.first≤c.last)=false by simpa using s3)
       rcases Bool.eq_false_or_eq_true (btwB c.policy 1 4) with b|b
       · have Hb:=Lib.hid b
         rcases Bool.eq_false_or_eq_true ((c.policy == 4) == (c.kind == 6)) with q|q
         · have Hq:=Lib.hid q
           go_enter Tryz.func6,Tryz.ntmps6
           go_wp2_with (first|(go_at_call 17;refine (between_any _ _ _ _).mono ?_;rintro e w' ⟨rfl,rfl⟩)|(go_at_call 18;refine (name_any _ _ hs).mono ?_;rintro e w' ⟨rfl,rfl⟩)|(go_at_call 19;refine (ruled_any c _).mono ?_;rintro e w2 ⟨rfl,hb2⟩))
           go_ret
           exact⟨ret_i (by rw[T.out,Hs1.out,Hs2.out,Hs3.out,Hb.out,Hq.out];first|rfl|simp[argE]),(by repeat (with_reducible (first|exact Below.refl _ _|assumption|refine bl_alloc ?_ _|refine bl_drewN ?_ _|refine bl_drew ?_|refine bl_call ?_ ‹_›|(refine bl_setCell ?_ _ (Nat.le_refl _))|(refine bl_setCell ?_ _ (by simp)))))⟩
         · have Hq:=Lib.hid q
           go_enter Tryz.func6,Tryz.ntmps6
           go_wp2_with (first|(go_at_call 17;refine (between_any _ _ _ _).mono ?_;rintro e w' ⟨rfl,rfl⟩)|(go_at_call 18;refine (name_any _ _ hs).mono ?_;rintro e w' ⟨rfl,rfl⟩)|(go_at_call 19;refine (ruled_any c _).mono ?_;rintro e w2 ⟨rfl,hb2⟩))
           go_ret
           exact⟨ret_i (by rw[T.out,Hs1.out,Hs2.out,Hs3.out,Hb.out,Hq.out];first|rfl|simp[argE]),(by repeat (with_reducible (first|exact Below.refl _ _|assumption|refine bl_alloc ?_ _|refine bl_drewN ?_ _|refine bl_drew ?_|refine bl_call ?_ ‹_›|(refine bl_setCell ?_ _ (Nat.le_refl _))|(refine bl_setCell ?_ _ (by simp)))))⟩
       · have Hb:=Lib.hid b
         go_enter Tryz.func6,Tryz.ntmps6
         go_wp2_with (first|(go_at_call 17;refine (between_any _ _ _ _).mono ?_;rintro e w' ⟨rfl,rfl⟩)|(go_at_call 18;refine (name_any _ _ hs).mono ?_;rintro e w' ⟨rfl,rfl⟩)|(go_at_call 19;refine (ruled_any c _).mono ?_;rintro e w2 ⟨rfl,hb2⟩))
         go_ret
         exact⟨ret_i (by rw[T.out,Hs1.out,Hs2.out,Hs3.out,Hb.out];first|rfl|simp[argE]),(by repeat (with_reducible (first|exact Below.refl _ _|assumption|refine bl_alloc ?_ _|refine bl_drewN ?_ _|refine bl_drew ?_|refine bl_call ?_ ‹_›|(refine bl_setCell ?_ _ (Nat.le_refl _))|(refine bl_setCell ?_ _ (by simp)))))⟩
   · have Hs2:=Lib.hid (show decide (c.last≤9996)=false by simpa using s2)
     rcases Bool.eq_false_or_eq_true (btwB c.policy 1 4) with b|b
     · have Hb:=Lib.hid b
       rcases Bool.eq_false_or_eq_true ((c.policy == 4) == (c.kind == 6)) with q|q
       · have Hq:=Lib.hid q
         go_enter Tryz.func6,Tryz.ntmps6
         go_wp2_with (first|(go_at_call 17;refine (between_any _ _ _ _).mono ?_;rintro e w' ⟨rfl,rfl⟩)|(go_at_call 18;refine (name_any _ _ hs).mono ?_;rintro e w' ⟨rfl,rfl⟩)|(go_at_call 19;refine (ruled_any c _).mono ?_;rintro e w2 ⟨rfl,hb2⟩))
         go_ret
         exact⟨ret_i (by rw[T.out,Hs1.out,Hs2.out,Hb.out,Hq.out];first|rfl|simp[argE]),(by repeat (with_reducible (first|exact Below.refl _ _|assumption|refine bl_alloc ?_ _|refine bl_drewN ?_ _|refine bl_drew ?_|refine bl_call ?_ ‹_›|(refine bl_setCell ?_ _ (Nat.le_refl _))|(refine bl_setCell ?_ _ (by simp)))))⟩
       · have Hq:=Lib.hid q
         go_enter Tryz.func6,Tryz.ntmps6
         go_wp2_with (first|(go_at_call 17;refine (between_any _ _ _ _).mono ?_;rintro e w' ⟨rfl,rfl⟩)|(go_at_call 18;refine (name_any _ _ hs).mono ?_;rintro e w' ⟨rfl,rfl⟩)|(go_at_call 19;refine (ruled_any c _).mono ?_;rintro e w2 ⟨rfl,hb2⟩))
         go_ret
         exact⟨ret_i (by rw[T.out,Hs1.out,Hs2.out,Hb.out,Hq.out];first|rfl|simp[argE]),(by repeat (with_reducible (first|exact Below.refl _ _|assumption|refine bl_alloc ?_ _|refine bl_drewN ?_ _|refine bl_drew ?_|refine bl_call ?_ ‹_›|(refine bl_setCell ?_ _ (Nat.le_refl _))|(refine bl_setCell ?_ _ (by simp)))))⟩
     · have Hb:=Lib.hid b
       go_enter Tryz.func6,Tryz.ntmps6
       go_wp2_with (first|(go_at_call 17;refine (between_any _ _ _ _).mono ?_;rintro e w' ⟨rfl,rfl⟩)|(go_at_call 18;refine (name_any _ _ hs).mono ?_;rintro e w' ⟨rfl,rfl⟩)|(go_at_call 19;refine (ruled_any c _).mono ?_;rintro e w2 ⟨rfl,hb2⟩))
       go_ret
       exact⟨ret_i (by rw[T.out,Hs1.out,Hs2.out,Hb.out];first|rfl|simp[argE]),(by repeat (with_reducible (first|exact Below.refl _ _|assumption|refine bl_alloc ?_ _|refine bl_drewN ?_ _|refine bl_drew ?_|refine bl_call ?_ ‹_›|(refine bl_setCell ?_ _ (Nat.le_refl _))|(refine bl_setCell ?_ _ (by simp)))))⟩
 · have Hs1:=Lib.hid (show decide (1602≤c.first)=false by simpa using s1)
   rcases Bool.eq_false_or_eq_true (btwB c.policy 1 4) with b|b
   · have Hb:=Lib.hid b
     rcases Bool.eq_false_or_eq_true ((c.policy == 4) == (c.kind == 6)) with q|q
     · have Hq:=Lib.hid q
       go_enter Tryz.func6,Tryz.ntmps6
       go_wp2_with (first|(go_at_call 17;refine (between_any _ _ _ _).mono ?_;rintro e w' ⟨rfl,rfl⟩)|(go_at_call 18;refine (name_any _ _ hs).mono ?_;rintro e w' ⟨rfl,rfl⟩)|(go_at_call 19;refine (ruled_any c _).mono ?_;rintro e w2 ⟨rfl,hb2⟩))
       go_ret
       exact⟨ret_i (by rw[T.out,Hs1.out,Hb.out,Hq.out];first|rfl|simp[argE]),(by repeat (with_reducible (first|exact Below.refl _ _|assumption|refine bl_alloc ?_ _|refine bl_drewN ?_ _|refine bl_drew ?_|refine bl_call ?_ ‹_›|(refine bl_setCell ?_ _ (Nat.le_refl _))|(refine bl_setCell ?_ _ (by simp)))))⟩
     · have Hq:=Lib.hid q
       go_enter Tryz.func6,Tryz.ntmps6
       go_wp2_with (first|(go_at_call 17;refine (between_any _ _ _ _).mono ?_;rintro e w' ⟨rfl,rfl⟩)|(go_at_call 18;refine (name_any _ _ hs).mono ?_;rintro e w' ⟨rfl,rfl⟩)|(go_at_call 19;refine (ruled_any c _).mono ?_;rintro e w2 ⟨rfl,hb2⟩))
       go_ret
       exact⟨ret_i (by rw[T.out,Hs1.out,Hb.out,Hq.out];first|rfl|simp[argE]),(by repeat (with_reducible (first|exact Below.refl _ _|assumption|refine bl_alloc ?_ _|refine bl_drewN ?_ _|refine bl_drew ?_|refine bl_call ?_ ‹_›|(refine bl_setCell ?_ _ (Nat.le_refl _))|(refine bl_setCell ?_ _ (by simp)))))⟩
   · have Hb:=Lib.hid b
     go_enter Tryz.func6,Tryz.ntmps6
     go_wp2_with (first|(go_at_call 17;refine (between_any _ _ _ _).mono ?_;rintro e w' ⟨rfl,rfl⟩)|(go_at_call 18;refine (name_any _ _ hs).mono ?_;rintro e w' ⟨rfl,rfl⟩)|(go_at_call 19;refine (ruled_any c _).mono ?_;rintro e w2 ⟨rfl,hb2⟩))
     go_ret
     exact⟨ret_i (by rw[T.out,Hs1.out,Hb.out];first|rfl|simp[argE]),(by repeat (with_reducible (first|exact Below.refl _ _|assumption|refine bl_alloc ?_ _|refine bl_drewN ?_ _|refine bl_drew ?_|refine bl_call ?_ ‹_›|(refine bl_setCell ?_ _ (Nat.le_refl _))|(refine bl_setCell ?_ _ (by simp)))))⟩
def ruleV (c:CalI):Value:=if c.kind=1∨c.kind=4 then .iface 202 (.agg #[.int .i64 c.month,.int .i64 c.day]) else if c.kind=6 then .iface 203 (.int .i64 c.month) else .iface 204 (.agg #[.int .i64 c.month,.int .i64 c.day])
theorem aruled_any (c:CalI) (w:World) :
 Calls Tryz.prog 63 #[calA c] w fun e w'=>e=.returned (ruleV c)∧Below w.heap.size w w':=by
 by_cases h1:c.kind=1∨c.kind=4
 · have T:=Lib.hid (show ruleV c=.iface 202 (.agg #[.int .i64 c.month,.int .i64 c.day]) by unfold ruleV;rw[if_pos h1])
   rcases h1 with h|h
   all_goals
    go_enter Tryz.func63,Tryz.ntmps63
    go_wp2
    go_ret
    exact⟨congrArg Ending.returned T.out.symm,(by repeat (with_reducible (first|exact Below.refl _ _|assumption|refine bl_alloc ?_ _|refine bl_drewN ?_ _|refine bl_drew ?_|refine bl_call ?_ ‹_›|(refine bl_setCell ?_ _ (Nat.le_refl _))|(refine bl_setCell ?_ _ (by simp)))))⟩
 by_cases h6:c.kind=6
 · have T:=Lib.hid (show ruleV c=.iface 203 (.int .i64 c.month) by unfold ruleV;rw[if_neg h1,if_pos h6])
   clear h1
   go_enter Tryz.func63,Tryz.ntmps63
   go_wp2
   go_ret
   exact⟨congrArg Ending.returned T.out.symm,(by repeat (with_reducible (first|exact Below.refl _ _|assumption|refine bl_alloc ?_ _|refine bl_drewN ?_ _|refine bl_drew ?_|refine bl_call ?_ ‹_›|(refine bl_setCell ?_ _ (Nat.le_refl _))|(refine bl_setCell ?_ _ (by simp)))))⟩
 · have T:=Lib.hid (show ruleV c=.iface 204 (.agg #[.int .i64 c.month,.int .i64 c.day]) by unfold ruleV;rw[if_neg h1,if_neg h6])
   have b1:(c.kind == 1)=false:=by simp;omega
   have b4:(c.kind == 4)=false:=by simp;omega
   have b6:(c.kind == 6)=false:=by simp;omega
   clear h1 h6
   go_enter Tryz.func63,Tryz.ntmps63
   go_wp2
   go_ret
   exact⟨congrArg Ending.returned T.out.symm,(by repeat (with_reducible (first|exact Below.refl _ _|assumption|refine bl_alloc ?_ _|refine bl_drewN ?_ _|refine bl_drew ?_|refine bl_call ?_ ‹_›|(refine bl_setCell ?_ _ (Nat.le_refl _))|(refine bl_setCell ?_ _ (by simp)))))⟩
theorem lastend_any (m d y:Int) (w:World) :
 Calls Tryz.prog 305 #[.agg #[.int .i64 m,.int .i64 d],.int .i64 y] w fun e w'=>e=.returned (.tuple #[.int .i64 (lastV y m d),.int .i64 (wkE y m d)])∧Below w.heap.size w w':=by
 go_enter Tryz.func305,Tryz.ntmps305
 go_wp2_with fail
 refine (last_any _ _ _ _).mono ?_
 rintro e w1 ⟨rfl,hb1⟩
 go_wp2
 go_ret2
 exact⟨rfl,(by repeat (with_reducible (first|exact Below.refl _ _|assumption|refine bl_alloc ?_ _|refine bl_drewN ?_ _|refine bl_drew ?_|refine bl_call ?_ ‹_›|(refine bl_setCell ?_ _ (Nat.le_refl _))|(refine bl_setCell ?_ _ (by simp)))))⟩
theorem nearend_any (m d y:Int) (w:World) :
 Calls Tryz.prog 307 #[.agg #[.int .i64 m,.int .i64 d],.int .i64 y] w fun e w'=>e=.returned (.tuple #[.int .i64 (nearV y m d),.int .i64 (nearE y m d)])∧Below w.heap.size w w':=by
 go_enter Tryz.func307,Tryz.ntmps307
 go_wp2_with fail
 refine (near_any _ _ _ _).mono ?_
 rintro e w1 ⟨rfl,hb1⟩
 go_wp2
 go_ret2
 exact⟨rfl,(by repeat (with_reducible (first|exact Below.refl _ _|assumption|refine bl_alloc ?_ _|refine bl_drewN ?_ _|refine bl_drew ?_|refine bl_call ?_ ‹_›|(refine bl_setCell ?_ _ (Nat.le_refl _))|(refine bl_setCell ?_ _ (by simp)))))⟩
theorem monthend_any (m y n:Int) (w:World) (h1:lenV y m=n) (h2:dateE (thereB y m)=0) :
 Calls Tryz.prog 306 #[.int .i64 m,.int .i64 y] w fun e w'=>e=.returned (.tuple #[.int .i64 (dayV y m n),.int .i64 (dateE (validB y m n))])∧Below w.heap.size w w':=by
 have c:=length_any y m
 rw[h1,h2] at c
 have C:=Lib.hid c
 clear h1 h2 c
 go_enter Tryz.func306,Tryz.ntmps306
 go_wp2_with fail
 refine (C.out _).mono ?_
 rintro e w1 ⟨rfl,hb1⟩
 go_wp2_with fail
 refine (day_any _ _ _ _).mono ?_
 rintro e w2 ⟨rfl,hb2⟩
 go_wp2
 go_ret2
 exact⟨rfl,(by repeat (with_reducible (first|exact Below.refl _ _|assumption|refine bl_alloc ?_ _|refine bl_drewN ?_ _|refine bl_drew ?_|refine bl_call ?_ ‹_›|(refine bl_setCell ?_ _ (Nat.le_refl _))|(refine bl_setCell ?_ _ (by simp)))))⟩
def tellE (c:CalI) (y f:Int):Int:=if calB c=true then (if f≤y∧y≤9997 then 0 else 11) else 1
theorem tell_ways (c:CalI) (y f:Int):(calB c=true∧f≤y∧y≤9997∧tellE c y f=0)∨(calB c=true∧y<f∧tellE c y f=11)∨(calB c=true∧f≤y∧9997<y∧tellE c y f=11)∨(calB c=false∧tellE c y f=1):=by
 unfold tellE
 rcases Bool.eq_false_or_eq_true (calB c) with h|h
 · rw[if_pos h]
   by_cases h1:f≤y∧y≤9997
   · exact .inl ⟨h,h1.1,h1.2,by rw[if_pos h1]⟩
   · rw[if_neg h1]
     by_cases h2:y<f
     · exact .inr (.inl ⟨h,h2,rfl⟩)
     · exact .inr (.inr (.inl ⟨h,by omega,by omega,rfl⟩))
 · rw[if_neg (by simp[h])];exact .inr (.inr (.inr ⟨h,rfl⟩))
theorem asked_any (c:CalI) (y f:Int) (w:World) (hs:c.name.size≤maxLen) :
 Calls Tryz.prog 62 #[calA c,.int .i64 y,.int .i64 f] w fun e w'=>e=.returned (.int .i64 (tellE c y f))∧Below w.heap.size w w':=by
 have C:=fcheck_any c
 rcases tell_ways c y f with ⟨h,h1,h2,h3⟩|⟨h,h1,h3⟩|⟨h,h1,h2,h3⟩|⟨h,h3⟩
 all_goals
  rw[h] at C
  have C:=Lib.hid (fun w=>C w hs)
  have T:=Lib.hid h3
  clear h h3
  go_enter Tryz.func62,Tryz.ntmps62
  go_wp2_with fail
  refine (C.out _).mono ?_
  rintro e w1 ⟨rfl,hb1⟩
  go_wp2
  go_ret
  exact⟨ret_i T.out.symm,(by repeat (with_reducible (first|exact Below.refl _ _|assumption|refine bl_alloc ?_ _|refine bl_drewN ?_ _|refine bl_drew ?_|refine bl_call ?_ ‹_›|(refine bl_setCell ?_ _ (Nat.le_refl _))|(refine bl_setCell ?_ _ (by simp)))))⟩
end Go.Proofs.YtmkhgnccpkhcaaaGreatDoor
