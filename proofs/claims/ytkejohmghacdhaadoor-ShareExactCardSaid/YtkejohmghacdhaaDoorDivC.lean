/- Contract of the package wide: Div. -/
import Derived.Test.YtkejohmghacdhaaDoorDivB
import Derived.Test.YtkejohmghacdhaaDoorMathX
namespace Go.Proofs.YtkejohmghacdhaaDoor
set_option linter.unusedVariables false
set_option linter.unusedSimpArgs false
open Go.RowKit
theorem ret_wii {a b c d x y u v : Int} (h1 : a = c) (h2 : b = d) (h3 : x = y) (h4 : u = v) : Ending.returned (.tuple #[.agg #[.int .i64 a, .int .u64 b], .int .i64 x, .int .i64 u]) = .returned (.tuple #[.agg #[.int .i64 c, .int .u64 d], .int .i64 y, .int .i64 v]) := by rw [h1, h2, h3, h4]
set_option maxHeartbeats 2000000 in
theorem wdiv_any (x c : Int) (w : World) (hx : InW x) (hc : In c) :
    Calls Tryd.prog 55 #[wideA x, .int .i64 c] w fun e w' => e = .returned (.tuple #[wideA (wdQ x c), .int .i64 (wdR x c), .int .i64 (wdE c)]) ∧ Below w.heap.size w w' := by
  by_cases c1 : c < 0
  · obtain ⟨d1, d2, d3⟩ := wd_neg x c c1
    have c2 : (c == 0) = false := by simp; omega
    have D1 := Lib.hid d1
    have D2 := Lib.hid d2
    have D3 := Lib.hid d3
    clear d1 d2 d3
    go_enter Tryd.func55, Tryd.ntmps55
    go_wp2
    refine bodyPost_ret (v := .tuple #[.agg #[.int .i64 0, .int .u64 0], .int .i64 0, .int .i64 1]) (by simp [results, Tryd.results55, go_sem]) rfl ⟨ret_wii (by rw [D1.out]; rfl) (by rw [D1.out]; rfl) D2.out.symm D3.out.symm, ?_⟩
    exact (by repeat (with_reducible (first | exact Below.refl _ _ | assumption | refine bl_alloc ?_ _ | refine bl_drewN ?_ _ | refine bl_drew ?_ | refine bl_call ?_ (by assumption) | (refine bl_setCell ?_ _ (Nat.le_refl _)) | (refine bl_setCell ?_ _ (by simp)))))
  by_cases c2 : c = 0
  · subst c2
    obtain ⟨d1, d2, d3⟩ := wd_zero x
    have D1 := Lib.hid d1
    have D2 := Lib.hid d2
    have D3 := Lib.hid d3
    clear d1 d2 d3
    go_enter Tryd.func55, Tryd.ntmps55
    go_wp2
    refine bodyPost_ret (v := .tuple #[.agg #[.int .i64 0, .int .u64 0], .int .i64 0, .int .i64 3]) (by simp [results, Tryd.results55, go_sem]) rfl ⟨ret_wii (by rw [D1.out]; rfl) (by rw [D1.out]; rfl) D2.out.symm D3.out.symm, ?_⟩
    exact (by repeat (with_reducible (first | exact Below.refl _ _ | assumption | refine bl_alloc ?_ _ | refine bl_drewN ?_ _ | refine bl_drew ?_ | refine bl_call ?_ (by assumption) | (refine bl_setCell ?_ _ (Nat.le_refl _)) | (refine bl_setCell ?_ _ (by simp)))))
  have c3 : 0 < c := by omega
  have c4 : (c == 0) = false := by simp; omega
  have cb : c ≤ 9223372036854775807 := hc.2
  obtain ⟨d1, d2, d3⟩ := wd_pos x c c3
  obtain ⟨e1, e2, e3, e4, e5, e6, e7, e8⟩ := wide_div hx c3 cb
  have lu := InU_lo x
  have hh := In_hi hx
  have DV := Lib.hid (fun w => div64_any (hiW x % c) (loW x) c w e6 e7 (by omega) lu)
  have R1 := Lib.hid (show hiW x / c = hiW (wdQ x c) by rw [d1, e1])
  have R2 := Lib.hid (show (hiW x % c * 18446744073709551616 + loW x) / c = loW (wdQ x c) by rw [d1, e2])
  have R3 := Lib.hid (show (hiW x % c * 18446744073709551616 + loW x) % c = wdR x c by rw [d2, e3])
  have R4 := Lib.hid d3
  have e5' : In ((hiW x % c * 18446744073709551616 + loW x) % c) := by rw [← e3]; exact e5
  have td := tdiv_floor (hiW x) c c3
  have tr : In ((hiW x).tdiv c) := tdiv_range hh (by omega) (by omega)
  have tm := tmod_bd (hiW x) c (by omega)
  have tm2 := tm.2.2.2.1 c3
  unfold In at e5' tr hh e8
  unfold InU at lu
  have e50 : 0 ≤ (hiW x % c * 18446744073709551616 + loW x) % c := Int.emod_nonneg _ (by omega)
  clear d1 d2 d3 e1 e2 e3 e4 e5 c1 c2 tm hx
  generalize hL : (hiW x % c * 18446744073709551616 + loW x) / c = L at *
  generalize hR : (hiW x % c * 18446744073709551616 + loW x) % c = R at *
  clear hL hR
  generalize hQ : hiW x / c = Q at *
  generalize hM : hiW x % c = M at *
  clear hQ hM
  rcases td with ⟨t1, t2, t3⟩ | ⟨t1, t2, t3⟩
  all_goals
    go_enter Tryd.func55, Tryd.ntmps55
    go_wp2_with fail
    refine (DV.out _).mono ?_
    rintro e w1 ⟨rfl, hb1⟩
    obtain ⟨hc1, hf1, hz1⟩ := own_stays hb1 (b := w.heap.size + 1) (by simp)
    go_wp2
    have q0 : w1.cell? ⟨w.heap.size + 1, 0, none⟩ = some (.int .i64 0) := by rw [hc1]; simp
    have q1 : w1.cell? ⟨w.heap.size + 1, 1, none⟩ = some (.int .u64 0) := by rw [hc1]; simp
    obtain ⟨s0, s1⟩ := set2 (.int .i64 Q) (.int .u64 L) q0 q1
    refine bodyPost_ret (v := .tuple #[.agg #[.int .i64 Q, .int .u64 L], .int .i64 R, .int .i64 0]) (by simp [results, Tryd.results55, go_sem, s0, s1]) rfl ⟨ret_wii R1.out R2.out R3.out R4.out.symm, ?_⟩
    exact (by repeat (with_reducible (first | exact Below.refl _ _ | assumption | refine bl_alloc ?_ _ | refine bl_drewN ?_ _ | refine bl_drew ?_ | refine bl_call ?_ (by assumption) | (refine bl_setCell ?_ _ (Nat.le_refl _)) | (refine bl_setCell ?_ _ (by simp)))))
end Go.Proofs.YtkejohmghacdhaaDoor
