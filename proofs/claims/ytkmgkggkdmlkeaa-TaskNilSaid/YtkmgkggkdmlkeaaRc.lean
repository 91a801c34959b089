/- The document's Check, of any weight (sliced out of Rf.src). -/
import Derived.Test.YtkmgkggkdmlkeaaNl
namespace Go.Proofs.Ytkmgkggkdmlkeaa
open Go.RowKit
set_option linter.unusedVariables false
set_option linter.unusedSimpArgs false

set_option maxHeartbeats 400000 in
theorem rcheck_any (E P : Int) (w : World) : Calls Try.prog 32 #[.agg #[.int .i64 E, .int .i64 P]] w fun e w' => e = .returned (.bool (may E P)) ∧ Below w.heap.size w w' := by
  by_cases h1 : 1 ≤ E
  · by_cases h2 : E ≤ P
    · by_cases h3 : P ≤ 1048576
      · have hm : Hid (may E P = true) := by show may E P = true; simp [may, h1, h2, h3]
        go_enter Try.func32, Try.ntmps32
        go_wp2
        go_ret
        exact ⟨by rw [hm.out]; simp [h1, h2, h3], (by repeat' (first | (with_reducible exact Below.refl _ _) | (with_reducible refine Below.alloc ?_ ?_ _) | (with_reducible refine below_drewN ?_ _) | (with_reducible refine Below.drew ?_) | (with_reducible refine Below.setCell ?_ ?_ _) | omega | (simp; omega) | (simp; done)))⟩
      · have hm : Hid (may E P = false) := by show may E P = false; simp [may, h1, h2, h3]
        go_enter Try.func32, Try.ntmps32
        go_wp2
        go_ret
        exact ⟨by rw [hm.out]; simp [h1, h2, h3], (by repeat' (first | (with_reducible exact Below.refl _ _) | (with_reducible refine Below.alloc ?_ ?_ _) | (with_reducible refine below_drewN ?_ _) | (with_reducible refine Below.drew ?_) | (with_reducible refine Below.setCell ?_ ?_ _) | omega | (simp; omega) | (simp; done)))⟩
    · have hm : Hid (may E P = false) := by show may E P = false; simp [may, h1, h2]
      go_enter Try.func32, Try.ntmps32
      go_wp2
      go_ret
      exact ⟨by rw [hm.out]; simp [h1, h2], (by repeat' (first | (with_reducible exact Below.refl _ _) | (with_reducible refine Below.alloc ?_ ?_ _) | (with_reducible refine below_drewN ?_ _) | (with_reducible refine Below.drew ?_) | (with_reducible refine Below.setCell ?_ ?_ _) | omega | (simp; omega) | (simp; done)))⟩
  · have hm : Hid (may E P = false) := by show may E P = false; simp [may, h1]
    go_enter Try.func32, Try.ntmps32
    go_wp2
    go_ret
    exact ⟨by rw [hm.out]; simp [h1], (by repeat' (first | (with_reducible exact Below.refl _ _) | (with_reducible refine Below.alloc ?_ ?_ _) | (with_reducible refine below_drewN ?_ _) | (with_reducible refine Below.drew ?_) | (with_reducible refine Below.setCell ?_ ?_ _) | omega | (simp; omega) | (simp; done)))⟩

end Go.Proofs.Ytkmgkggkdmlkeaa
