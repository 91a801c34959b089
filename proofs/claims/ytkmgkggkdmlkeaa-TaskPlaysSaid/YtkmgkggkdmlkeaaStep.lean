/- Contracts of the stepper's counter. -/
import Derived.Test.YtkmgkggkdmlkeaaWk
import Derived.Lib.Hide
namespace Go.Proofs.Ytkmgkggkdmlkeaa
open Go.RowKit
set_option linter.unusedVariables false
set_option linter.unusedSimpArgs false

set_option maxHeartbeats 1600000 in
theorem step_lo (b o : Nat) (x l d wh rest : Int) (w : World) (h0 : w.cell? ⟨b, o, none⟩ = some (.int .i64 x)) (h1 : w.cell? ⟨b, o + 1, none⟩ = some (.int .i64 l)) (h2 : w.cell? ⟨b, o + 2, none⟩ = some (.int .i64 d))
    (f0 : w.frozen? ⟨b, o, none⟩ = false) (f1 : w.frozen? ⟨b, o + 1, none⟩ = false)
    (a1 : -9223372036854775808 ≤ x + wh) (a2 : x + wh ≤ 9223372036854775807) (a3 : -9223372036854775808 ≤ l + rest) (a4 : l + rest ≤ 9223372036854775807) (hlt : l + rest < d) :
    Calls Try.prog 47 #[.pointer (some ⟨b, o, none⟩), .int .i64 wh, .int .i64 rest] w fun e w' => e = .returned (.tuple #[]) ∧ ∃ n, w' = ((w.setCell ⟨b, o, none⟩ (.int .i64 (x + wh))).setCell ⟨b, o + 1, none⟩ (.int .i64 (l + rest))).drewN n := by
  have hn : ¬ d ≤ l + rest := by omega
  go_enter Try.func47, Try.ntmps47
  go_wp2
  have q1 : ((w.setCell ⟨b, o, none⟩ (.int .i64 (x + wh))).setCell ⟨b, o + 1, none⟩ (.int .i64 (l + rest))).cell? ⟨b, o + 1, none⟩ = some (.int .i64 (l + rest)) := by go_simp
  have q2 : ((w.setCell ⟨b, o, none⟩ (.int .i64 (x + wh))).setCell ⟨b, o + 1, none⟩ (.int .i64 (l + rest))).cell? ⟨b, o + 2, none⟩ = some (.int .i64 d) := by go_simp
  go_quiet (fail)
  go_wp2
  go_end0
  exact ⟨rfl, nq, rfl⟩
set_option maxHeartbeats 1600000 in
theorem step_hi (b o : Nat) (x l d wh rest : Int) (w : World) (h0 : w.cell? ⟨b, o, none⟩ = some (.int .i64 x)) (h1 : w.cell? ⟨b, o + 1, none⟩ = some (.int .i64 l)) (h2 : w.cell? ⟨b, o + 2, none⟩ = some (.int .i64 d))
    (f0 : w.frozen? ⟨b, o, none⟩ = false) (f1 : w.frozen? ⟨b, o + 1, none⟩ = false)
    (a1 : -9223372036854775808 ≤ x + wh) (a2 : x + wh ≤ 9223372036854775807) (a3 : -9223372036854775808 ≤ l + rest) (a4 : l + rest ≤ 9223372036854775807) (hge : d ≤ l + rest) (a5 : -9223372036854775808 ≤ l + rest - d) (a6 : l + rest - d ≤ 9223372036854775807) (a7 : x + wh + 1 ≤ 9223372036854775807) :
    Calls Try.prog 47 #[.pointer (some ⟨b, o, none⟩), .int .i64 wh, .int .i64 rest] w fun e w' => e = .returned (.tuple #[]) ∧ ∃ n, w' = ((((w.setCell ⟨b, o, none⟩ (.int .i64 (x + wh))).setCell ⟨b, o + 1, none⟩ (.int .i64 (l + rest))).drewN n).setCell ⟨b, o + 1, none⟩ (.int .i64 (l + rest - d))).setCell ⟨b, o, none⟩ (.int .i64 (x + wh + 1)) := by
  go_enter Try.func47, Try.ntmps47
  go_wp2
  have q1 : ((w.setCell ⟨b, o, none⟩ (.int .i64 (x + wh))).setCell ⟨b, o + 1, none⟩ (.int .i64 (l + rest))).cell? ⟨b, o + 1, none⟩ = some (.int .i64 (l + rest)) := by go_simp
  have q2 : ((w.setCell ⟨b, o, none⟩ (.int .i64 (x + wh))).setCell ⟨b, o + 1, none⟩ (.int .i64 (l + rest))).cell? ⟨b, o + 2, none⟩ = some (.int .i64 d) := by go_simp
  go_quiet (fail)
  go_wp2
  go_big_region
  go_wp2
  go_end0
  exact ⟨rfl, nq + 1, rfl⟩

set_option maxHeartbeats 800000 in
theorem up_pos (x l d : Int) (w : World) (h : 0 < l) (a1 : -9223372036854775808 ≤ x) (a2 : x + 1 ≤ 9223372036854775807) :
    Calls Try.prog 48 #[.agg #[.int .i64 x, .int .i64 l, .int .i64 d]] w fun e w' => e = .returned (.int .i64 (x + 1)) ∧ Below w.heap.size w w' := by
  go_enter Try.func48, Try.ntmps48
  go_wp2
  go_ret
  exact ⟨rfl, (by repeat' (first | (with_reducible exact Below.refl _ _) | (with_reducible refine Below.alloc ?_ ?_ _) | (with_reducible refine below_drewN ?_ _) | (with_reducible refine Below.drew ?_) | (with_reducible refine Below.setCell ?_ ?_ _) | omega | (simp; omega) | (simp; done)))⟩

set_option maxHeartbeats 800000 in
theorem up_not (x l d : Int) (w : World) (h : ¬ 0 < l) :
    Calls Try.prog 48 #[.agg #[.int .i64 x, .int .i64 l, .int .i64 d]] w fun e w' => e = .returned (.int .i64 x) ∧ Below w.heap.size w w' := by
  go_enter Try.func48, Try.ntmps48
  go_wp2
  go_ret
  exact ⟨rfl, (by repeat' (first | (with_reducible exact Below.refl _ _) | (with_reducible refine Below.alloc ?_ ?_ _) | (with_reducible refine below_drewN ?_ _) | (with_reducible refine Below.drew ?_) | (with_reducible refine Below.setCell ?_ ?_ _) | omega | (simp; omega) | (simp; done)))⟩
end Go.Proofs.Ytkmgkggkdmlkeaa
