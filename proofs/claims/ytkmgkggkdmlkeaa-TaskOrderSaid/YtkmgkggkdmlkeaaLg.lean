/- Contract of the document's Long (layer 4). -/
import Derived.Test.YtkmgkggkdmlkeaaRf
namespace Go.Proofs.Ytkmgkggkdmlkeaa
open Go.RowKit
set_option linter.unusedVariables false
set_option linter.unusedSimpArgs false

set_option maxHeartbeats 1600000 in
theorem rlong_yes (E P i : Int) (w : World) (e1 : 1 ≤ E) (e2 : E ≤ P) (e3 : P ≤ 1048576) (i1 : 1 ≤ i) (i2 : i ≤ 1099511627776) :
    Calls Try.prog 15 #[.agg #[.int .i64 E, .int .i64 P], .int .i64 i] w fun e w' => e = .returned (.int .i64 (Win.dl E P i - Win.rel E P i)) ∧ Below w.heap.size w w' := by
  obtain ⟨d1, d2, d3⟩ := long_bd E P i e1 e2 e3 i1 i2
  have hw : Hid (IntKind.i64.wrap (Win.dl E P i - Win.rel E P i) = Win.dl E P i - Win.rel E P i) := IntWalk.i64_in _ (by omega)
  go_enter Try.func15, Try.ntmps15
  go_wp2_with fail
  go_region_held3 (fun w' => Below w.heap.size w w' ∧ w.heap.size < w'.heap.size ∧ w'.cell? ⟨w.heap.size, 0, none⟩ = some (.int .i64 E) ∧ w'.cell? ⟨w.heap.size, 1, none⟩ = some (.int .i64 P))
    (first | exact keep2 (by assumption) (by omega) hb | exact ⟨(by repeat' (first | (with_reducible exact Below.refl _ _) | (with_reducible refine Below.alloc ?_ ?_ _) | (with_reducible refine below_drewN ?_ _) | (with_reducible refine Below.drew ?_) | (with_reducible refine Below.setCell ?_ ?_ _) | omega | (simp; omega) | (simp; done))), by simp, by simp, by simp⟩)
    (first
      | (go_at_call 40; (with_reducible refine (rdeadline_yes E P i _ e1 e2 e3 i1 i2).mono ?_); rintro e w1 ⟨rfl, hb⟩)
      | (go_at_call 20; (with_reducible refine (rrelease_yes E P i _ e1 e2 e3 i1 i2).mono ?_); rintro e w1 ⟨rfl, hb⟩))
  go_wp2
  go_ret
  exact ⟨by first | rfl | (rw [hw.out]; rfl), ‹Below w.heap.size w _ ∧ _›.1⟩
end Go.Proofs.Ytkmgkggkdmlkeaa
