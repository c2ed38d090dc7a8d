/- Any input: 'quarterdaylaw04.ShareExact' returns true, and its arguments stay as they were. No conditions. -/
import Derived.Test.YtkejohmghacdhaaDoorLawShareExact
import Derived.Test.YtkejohmghacdhaaDoorFrame
import Derived.Test.YtkejohmghacdhaaDoorFrameD
import Derived.Test.YtkejohmghacdhaaDoorCards
import Derived.Test.YtkejohmghacdhaaDoorTie
import Derived.Test.YtkejohmghacdhaaDoorFrameS
namespace Go.Proofs.YtkejohmghacdhaaDoor
set_option linter.unusedVariables false
set_option linter.unusedSimpArgs false
open Go.ChangeShapes Go.WideShapes Go.ChangeAt Go.RowKit

set_option maxRecDepth 100000 in
theorem shareExact_lifted (os : Os) (started : os.Started) (H : Type) (enc : TypeId × Value → H) :
    ReturnsInHanded {} Tryd.checked os 7 .any (fun w args => (Rows.shareExactSpec.pre enc Tryd.prog Tryd.f7 [] false w args ∧ laidMetH Tryd.prog laidD w) ∧ sizedMet enc Tryd.prog Tryd.f7 (OpenSpec.ofChange Rows.shareExactSpec) false w args)
      (Rows.shareExactSpec.post enc Tryd.prog Tryd.f7 false true false false) := by
  refine returnsInHanded_of_change_and (C := Tryd.checked) (X := fun w _ => laidMetH Tryd.prog laidD w) (fun _ _ _ hh h => h.of_heap hh) own started (by kernel_rfl) Tryd.func7
    (ChangeSpec.witness_shaped (enc := enc) (C := Tryd.checked) (os := os) (X := fun w _ => laidMetH Tryd.prog laidD w) false (World.doorLaid Tryd.prog 400 os) #[.int .i64 0, .slice none 0 0] 8 rfl (World.shaped_of_RefB (by kernel_rfl) (by kernel_rfl)) (by kernel_rfl) (by kernel_rfl) (by kernel_rfl) (door_met os _)) ?_
  intro W base args ds gs before hval0 hW _ _ hL _
  have hval : ∀ (j : Nat) t v, Tryd.f7.params[j]? = some t → args[j]? = some v → Value.okWide Tryd.prog W .any base t v := hval0
  have hW' := hW
  obtain ⟨p, q, hA0, hV, rfl, hfz, hnd⟩ := hW
  have hA : DataW.TrodAll enc Tryd.prog W 0 (fun _ => true) true Tryd.f7.params.toList args.toList ds p := hA0
  rw [Tryd.params7] at hA hval
  obtain ⟨v0, vs0, d0, ds0, p0, q0, hargs, rfl, rfl, h0, r0⟩ := trodAll_cons hA
  obtain ⟨v1, vs1, d1, ds1, p1, q1, rfl, rfl, rfl, h1, r1⟩ := trodAll_cons r0
  obtain ⟨rfl, rfl, rfl⟩ := trodAll_nil r1
  obtain rfl : args = #[v0, v1] := by cases args; simp_all
  obtain ⟨rfl, rfl⟩ := trodVars_none hV
  obtain ⟨a0, rfl, rfl, rfl, w0⟩ := open_int Tryd.underlying2 (hval 0 2 v0 rfl rfl) h0
  obtain ⟨sa1, xs1, sc1, rfl, lc1, mc1, wf1, sl1⟩ := open_sl Tryd.underlying32 Tryd.underlying2 (by kernel_rfl) (hval 1 32 v1 rfl rfl) h1
  clear hA0 hval0
  refine (shareExact_any a0 xs1 sa1 sc1 W (In_of_wf w0) (by unfold maxLen at mc1; omega) (In_all wf1) sl1 (tab_of_laid hL)).mono fun e W' ⟨he, hg⟩ => ?_
  subst he
  exact ⟨_, rfl, law_post laidOut hg (by kernel_rfl) (by kernel_rfl) Tryd.underlying4 rfl rfl hW'⟩
theorem shareExact_over : Rows.shareExactRow.holds Tryd.pinned (OpenSpec.ofChange Rows.shareExactSpec) :=
  OpenClaim.holds_of_wide 7 Tryd.f7 rfl rfl rfl rfl rfl rfl rfl ⟨rfl, rfl, rfl, rfl, rfl⟩ rfl rfl rfl rfl rfl (by kernel_rfl) Tryd.func7 (by kernel_rfl)
    (of_decide_eq_true (by kernel_rfl)) (by unfold Func.isWrapper; first | (rw [if_pos (by decide +kernel)]; kernel_rfl) | (rw [if_neg (by decide +kernel)]; exact ⟨rfl, rfl⟩))
    (fun os started H enc _ => shareExact_lifted os started H enc)
theorem shareExact_holds : Rows.ShareExactCardSaid :=
  Claim7.holds_tied_plain_at .later [] [.data] true (true, "b4d12f6b7d7a0804626657869ad9cff5ca96b3739b6e3f026bdec01d2de90865") false
    shareExact_over (fun _ h => by cases h) (by kernel_rfl) (fun _ h => by cases h) shareExact_row_tie rfl ⟨rfl, rfl⟩ (by kernel_rfl) rfl
    (fun f fn hf hfn => by
      obtain rfl : 7 = f := Option.some.inj ((show Tryd.prog.funcNamed "quarterday/quarterdaylaw04.ShareExact" = some 7 by kernel_rfl).symm.trans hf)
      obtain rfl : fn = Tryd.f7 := (Option.some.inj (Tryd.func7.symm.trans hfn)).symm
      exact ⟨by kernel_rfl, stand_of_all (by kernel_rfl)⟩)
    (by kernel_rfl)
end Go.Proofs.YtkejohmghacdhaaDoor
