/- The walks of the laws ExactBack and ExactBetween. -/
import Derived.Test.YtpmenmcigflkdaaEx01
namespace Go.Proofs.Ytpmenmcigflkdaa
open Go.RowKit
set_option linter.unusedVariables false
set_option linter.unusedSimpArgs false

theorem fits_of {x : Int} (h : (Lit.int .i64 x).wf = true) : Fits x := bounds_i64 h

theorem div_back (a b : Int) (hb : 0 < b) : a * b / b = a ∧ Win.up (a * b) b = a := ⟨Int.mul_ediv_cancel a (by omega), Win.up_unique hb (by omega) (by omega)⟩

set_option maxHeartbeats 3200000 in
theorem walk_ExactBack (a0 a1 : Int) (w : World) (f0 : (Lit.int .i64 a0).wf = true) (f1 : (Lit.int .i64 a1).wf = true) :
    Calls Try.prog 12 #[.int .i64 a0, .int .i64 a1] w fun e w' => e = .returned (.bool true) ∧ Below w.heap.size w w' := by
  have ha := fits_of f0
  have hb := fits_of f1
  clear f0 f1
  have h1 := fun w => add_any a0 a1 w ha hb
  have h2 : Fits (a0 + a1) → ∀ w, Calls Try.prog 36 #[.int .i64 (a0 + a1), .int .i64 a1] w fun e w' => e = .returned (.tuple #[.int .i64 a0, .int .i64 0]) ∧ w = w' := fun k w => by
    have h := sub_any (a0 + a1) a1 w k hb
    rw [show a0 + a1 - a1 = a0 by omega, told_in ha] at h; exact h
  have h3 := fun w => mul_any a0 a1 w ha hb
  have h4 : Fits (a0 * a1) → 0 < a1 → ∀ w, Calls Try.prog 16 #[.int .i64 (a0 * a1), .int .i64 a1] w fun e w' => e = .returned (.tuple #[.int .i64 a0, .int .i64 0]) ∧ w = w' := fun k p w => by
    have h := floor_all (a0 * a1) a1 w k p (by unfold Fits at hb; omega)
    rw [(div_back a0 a1 p).1] at h; exact h
  have h5 : Fits (a0 * a1) → 0 < a1 → ∀ w, Calls Try.prog 18 #[.int .i64 (a0 * a1), .int .i64 a1] w fun e w' => e = .returned (.tuple #[.int .i64 a0, .int .i64 0]) ∧ w = w' := fun k p w => by
    have h := ceil_all (a0 * a1) a1 w k p (by unfold Fits at hb; omega)
    rw [(div_back a0 a1 p).2] at h; exact h
  have z : (a0 == a0) = true := by simp
  have z' : (a0 != a0) = false := by simp
  clear ha hb
  by_cases c1 : Fits (a0 + a1) <;> by_cases c2 : Fits (a0 * a1) <;> by_cases c3 : 0 < a1
  · have H2 := Lib.hid (h2 c1)
    have H4 := Lib.hid (h4 c2 c3)
    have H5 := Lib.hid (h5 c2 c3)
    rw [told_in c1] at h1; rw [told_in c2] at h3
    generalize a0 + a1 = s at *
    generalize a0 * a1 = p at *
    have H1 := Lib.hid h1
    have H3 := Lib.hid h3
    clear h1 h2 h3 h4 h5 c1 c2
    go_enter Try.func12, Try.ntmps12
    go_wp2_with (first
      | (go_at_call 15; refine (awake01 _).mono ?_; rintro e w1 ⟨rfl, hb1⟩)
      | (go_at_call 34; (with_reducible refine (H1.out _).mono ?_); rintro e w2 ⟨rfl, rfl⟩)
      | (go_at_call 36; (with_reducible refine (H2.out _).mono ?_); rintro e w2 ⟨rfl, rfl⟩)
      | (go_at_call 24; (with_reducible refine (H3.out _).mono ?_); rintro e w2 ⟨rfl, rfl⟩)
      | (go_at_call 16; (with_reducible refine (H4.out _).mono ?_); rintro e w2 ⟨rfl, rfl⟩)
      | (go_at_call 18; (with_reducible refine (H5.out _).mono ?_); rintro e w2 ⟨rfl, rfl⟩))
    go_ret
    exact ⟨by first | rfl | simp [*], hb1⟩
  · have H2 := Lib.hid (h2 c1)
    rw [told_in c1] at h1; rw [told_in c2] at h3
    generalize a0 + a1 = s at *
    generalize a0 * a1 = p at *
    have H1 := Lib.hid h1
    have H3 := Lib.hid h3
    clear h1 h2 h3 h4 h5 c1 c2
    go_enter Try.func12, Try.ntmps12
    go_wp2_with (first
      | (go_at_call 15; refine (awake01 _).mono ?_; rintro e w1 ⟨rfl, hb1⟩)
      | (go_at_call 34; (with_reducible refine (H1.out _).mono ?_); rintro e w2 ⟨rfl, rfl⟩)
      | (go_at_call 36; (with_reducible refine (H2.out _).mono ?_); rintro e w2 ⟨rfl, rfl⟩)
      | (go_at_call 24; (with_reducible refine (H3.out _).mono ?_); rintro e w2 ⟨rfl, rfl⟩))
    go_ret
    exact ⟨by first | rfl | simp [*], hb1⟩
  all_goals
    first
    | (have H2 := Lib.hid (h2 c1)
       rw [told_in c1] at h1; rw [told_out c2] at h3
       generalize a0 + a1 = s at *
       generalize a0 * a1 = p at *
       have H1 := Lib.hid h1
       have H3 := Lib.hid h3
       clear h1 h2 h3 h4 h5 c1 c2
       go_enter Try.func12, Try.ntmps12
       go_wp2_with (first
         | (go_at_call 15; refine (awake01 _).mono ?_; rintro e w1 ⟨rfl, hb1⟩)
         | (go_at_call 34; (with_reducible refine (H1.out _).mono ?_); rintro e w2 ⟨rfl, rfl⟩)
         | (go_at_call 36; (with_reducible refine (H2.out _).mono ?_); rintro e w2 ⟨rfl, rfl⟩)
         | (go_at_call 24; (with_reducible refine (H3.out _).mono ?_); rintro e w2 ⟨rfl, rfl⟩))
       go_ret
       exact ⟨by first | rfl | simp [*], hb1⟩)
    | (rw [told_out c1] at h1; rw [told_out c2] at h3
       generalize a0 + a1 = s at *
       generalize a0 * a1 = p at *
       have H1 := Lib.hid h1
       have H3 := Lib.hid h3
       clear h1 h2 h3 h4 h5 c1 c2
       go_enter Try.func12, Try.ntmps12
       go_wp2_with (first
         | (go_at_call 15; refine (awake01 _).mono ?_; rintro e w1 ⟨rfl, hb1⟩)
         | (go_at_call 34; (with_reducible refine (H1.out _).mono ?_); rintro e w2 ⟨rfl, rfl⟩)
         | (go_at_call 24; (with_reducible refine (H3.out _).mono ?_); rintro e w2 ⟨rfl, rfl⟩))
       go_ret
       exact ⟨by first | rfl | simp [*], hb1⟩)
    | (have H4 := Lib.hid (h4 c2 c3)
       have H5 := Lib.hid (h5 c2 c3)
       rw [told_out c1] at h1; rw [told_in c2] at h3
       generalize a0 + a1 = s at *
       generalize a0 * a1 = p at *
       have H1 := Lib.hid h1
       have H3 := Lib.hid h3
       clear h1 h2 h3 h4 h5 c1 c2
       go_enter Try.func12, Try.ntmps12
       go_wp2_with (first
         | (go_at_call 15; refine (awake01 _).mono ?_; rintro e w1 ⟨rfl, hb1⟩)
         | (go_at_call 34; (with_reducible refine (H1.out _).mono ?_); rintro e w2 ⟨rfl, rfl⟩)
         | (go_at_call 24; (with_reducible refine (H3.out _).mono ?_); rintro e w2 ⟨rfl, rfl⟩)
         | (go_at_call 16; (with_reducible refine (H4.out _).mono ?_); rintro e w2 ⟨rfl, rfl⟩)
         | (go_at_call 18; (with_reducible refine (H5.out _).mono ?_); rintro e w2 ⟨rfl, rfl⟩))
       go_ret
       exact ⟨by first | rfl | simp [*], hb1⟩)
    | (rw [told_out c1] at h1; rw [told_in c2] at h3
       generalize a0 + a1 = s at *
       generalize a0 * a1 = p at *
       have H1 := Lib.hid h1
       have H3 := Lib.hid h3
       clear h1 h2 h3 h4 h5 c1 c2
       go_enter Try.func12, Try.ntmps12
       go_wp2_with (first
         | (go_at_call 15; refine (awake01 _).mono ?_; rintro e w1 ⟨rfl, hb1⟩)
         | (go_at_call 34; (with_reducible refine (H1.out _).mono ?_); rintro e w2 ⟨rfl, rfl⟩)
         | (go_at_call 24; (with_reducible refine (H3.out _).mono ?_); rintro e w2 ⟨rfl, rfl⟩))
       go_ret
       exact ⟨by first | rfl | simp [*], hb1⟩)
end Go.Proofs.Ytpmenmcigflkdaa
