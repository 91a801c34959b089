/- Contracts of parts rounded, of a weight that may be, and of a weight by numbers -/
import Derived.Test.YtpmenmcigflkdaaBase
namespace Go.Proofs.Ytpmenmcigflkdaa
open Go.RowKit
set_option linter.unusedVariables false
set_option linter.unusedSimpArgs false

set_option maxHeartbeats 400000 in
theorem by_pos (b : Int) (w : World) (hb : 0 < b) : Calls Try.prog 43 #[.int .i64 b] w fun e w' => e = .returned (.int .i64 0) ∧ w = w' := by
  have h1 : (b == 0) = false := by rw [beq_eq_false_iff_ne]; omega
  have h2 : ¬ b < 0 := by omega
  go_enter Try.func43, Try.ntmps43
  go_wp2
  go_ret
  exact ⟨rfl, rfl⟩

set_option maxHeartbeats 400000 in
theorem floor_pos (a b : Int) (w : World) (ha : 0 ≤ a) (ha' : a ≤ 4611686018427387904) (hb : 0 < b) :
    Calls Try.prog 16 #[.int .i64 a, .int .i64 b] w fun e w' => e = .returned (.tuple #[.int .i64 (a / b), .int .i64 0]) ∧ w = w' := by
  have hb' : 1 ≤ b := by omega
  have hq : a / b * b ≤ a := Win.fl_le a b hb
  have hq0 : 0 ≤ a / b := Int.ediv_nonneg ha (by omega)
  have hq1 : 0 ≤ a / b * b := Int.mul_nonneg hq0 (by omega)
  have h2 : ¬ a < a / b * b := by omega
  go_enter Try.func16, Try.ntmps16
  go_wp2_with (go_at_call 43; refine (by_pos _ _ (by omega)).mono ?_; rintro e w' ⟨rfl, rfl⟩)
  go_ret2
  exact ⟨rfl, rfl⟩

set_option maxHeartbeats 400000 in
theorem ceil_pos (a b : Int) (w : World) (ha : 0 ≤ a) (ha' : a ≤ 4611686018427387904) (hb : 0 < b) :
    Calls Try.prog 18 #[.int .i64 a, .int .i64 b] w fun e w' => e = .returned (.tuple #[.int .i64 (Win.up a b), .int .i64 0]) ∧ w = w' := by
  have hb' : 1 ≤ b := by omega
  have hq : a / b * b ≤ a := Win.fl_le a b hb
  have hq0 : 0 ≤ a / b := Int.ediv_nonneg ha (by omega)
  have hq1 : 0 ≤ a / b * b := Int.mul_nonneg hq0 (by omega)
  have hq2 : a / b ≤ a := Int.ediv_le_self _ ha
  by_cases h : a / b * b < a
  · have hu : Hid (Win.up a b = a / b + 1) := if_pos h
    go_enter Try.func18, Try.ntmps18
    go_wp2_with (go_at_call 43; refine (by_pos _ _ (by omega)).mono ?_; rintro e w' ⟨rfl, rfl⟩)
    go_ret2
    exact ⟨by rw [hu.out]; rfl, rfl⟩
  · have hu : Hid (Win.up a b = a / b) := if_neg h
    go_enter Try.func18, Try.ntmps18
    go_wp2_with (go_at_call 43; refine (by_pos _ _ (by omega)).mono ?_; rintro e w' ⟨rfl, rfl⟩)
    go_ret2
    exact ⟨by rw [hu.out]; rfl, rfl⟩

set_option maxHeartbeats 400000 in
theorem check_any (E P : Int) (w : World) : Calls Try.prog 49 #[.agg #[.int .i64 E, .int .i64 P]] w fun e w' => e = .returned (.bool (may E P)) ∧ Below w.heap.size w w' := by
  by_cases h1 : 1 ≤ E
  · by_cases h2 : E ≤ P
    · by_cases h3 : P ≤ 1048576
      · have hm : Hid (may E P = true) := by show may E P = true; simp [may, h1, h2, h3]
        go_enter Try.func49, Try.ntmps49
        go_wp2
        go_ret
        exact ⟨by rw [hm.out]; simp [h1, h2, h3], (Below.refl _ _).alloc (Nat.le_refl _) _⟩
      · have hm : Hid (may E P = false) := by show may E P = false; simp [may, h1, h2, h3]
        go_enter Try.func49, Try.ntmps49
        go_wp2
        go_ret
        exact ⟨by rw [hm.out]; simp [h1, h2, h3], (Below.refl _ _).alloc (Nat.le_refl _) _⟩
    · have hm : Hid (may E P = false) := by show may E P = false; simp [may, h1, h2]
      go_enter Try.func49, Try.ntmps49
      go_wp2
      go_ret
      exact ⟨by rw [hm.out]; simp [h1, h2], (Below.refl _ _).alloc (Nat.le_refl _) _⟩
  · have hm : Hid (may E P = false) := by show may E P = false; simp [may, h1]
    go_enter Try.func49, Try.ntmps49
    go_wp2
    go_ret
    exact ⟨by rw [hm.out]; simp [h1], (Below.refl _ _).alloc (Nat.le_refl _) _⟩

theorem check_yes (E P : Int) (w : World) (e1 : 1 ≤ E) (e2 : E ≤ P) (e3 : P ≤ 1048576) : Calls Try.prog 49 #[.agg #[.int .i64 E, .int .i64 P]] w fun e w' => e = .returned (.bool true) ∧ Below w.heap.size w w' :=
  (check_any E P w).mono fun _ _ h => ⟨by rw [h.1]; simp [may, e1, e2, e3], h.2⟩

set_option maxHeartbeats 800000 in
theorem made_any (q0 q1 : Int) (w : World) :
    Calls Try.prog 26 #[.agg #[.int .i64 q0, .int .i64 q1]] w fun e w' => e = .returned (.agg #[.int .i64 (eOf q0 (pOf q1)), .int .i64 (pOf q1)]) ∧ Below w.heap.size w w' := by
  have hp := mask20 q1
  have b1 : 1 ≤ 1 + q1 % 1048576 := by omega
  have b2 : 1 + q1 % 1048576 ≤ 1048576 := by omega
  have b3 : 0 ≤ q0.tmod (1 + q1 % 1048576) + (1 + q1 % 1048576) := by
    have := Int.lt_tmod_of_pos q0 (b := 1 + q1 % 1048576) (by omega); omega
  have b4 : q0.tmod (1 + q1 % 1048576) + (1 + q1 % 1048576) ≤ 2097152 := by
    have := Int.tmod_lt_of_pos q0 (b := 1 + q1 % 1048576) (by omega); omega
  have b5 : 0 ≤ (q0.tmod (1 + q1 % 1048576) + (1 + q1 % 1048576)) % (1 + q1 % 1048576) := Int.emod_nonneg _ (by omega)
  have b6 : (q0.tmod (1 + q1 % 1048576) + (1 + q1 % 1048576)) % (1 + q1 % 1048576) ≤ 1048576 := by
    have := Int.emod_lt_of_pos (q0.tmod (1 + q1 % 1048576) + (1 + q1 % 1048576)) (b := 1 + q1 % 1048576) (by omega); omega
  have b7 := Int.emod_nonneg (q0.tmod (1 + q1 % 1048576)) (b := 1 + q1 % 1048576) (by omega)
  have b8 := Int.emod_lt_of_pos (q0.tmod (1 + q1 % 1048576)) (b := 1 + q1 % 1048576) (by omega)
  go_enter Try.func26, Try.ntmps26
  go_wp2
  exact bodyPost_ret (v := .agg #[.int .i64 (eOf q0 (pOf q1)), .int .i64 (pOf q1)]) (by simp [results, Try.results26, go_sem]; exact ⟨rfl, rfl⟩) rfl ⟨rfl, (by repeat' (first | (with_reducible exact Below.refl _ _) | (with_reducible refine Below.alloc ?_ ?_ _) | (with_reducible refine below_drewN ?_ _) | (with_reducible refine Below.drew ?_) | (with_reducible refine Below.setCell ?_ ?_ _) | omega | (simp; omega) | (simp; done)))⟩

end Go.Proofs.Ytpmenmcigflkdaa
