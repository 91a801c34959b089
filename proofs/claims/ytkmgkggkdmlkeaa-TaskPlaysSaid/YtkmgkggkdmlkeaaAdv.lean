/- Contracts of the stepper's counter in quotients, and of 'advance'. -/
import Derived.Test.YtkmgkggkdmlkeaaStp
import Derived.StillTailTactics
namespace Go.Proofs.Ytkmgkggkdmlkeaa
open Go.RowKit
set_option linter.unusedVariables false
set_option linter.unusedSimpArgs false

/-- A counter's two cells behind a step. -/
def Stepped (w w' : World) (b o : Nat) (x l : Int) : Prop :=
  w'.cell? ⟨b, o, none⟩ = some (.int .i64 x) ∧ w'.cell? ⟨b, o + 1, none⟩ = some (.int .i64 l) ∧ (∀ j, j ≠ o → j ≠ o + 1 → w'.cell? ⟨b, j, none⟩ = w.cell? ⟨b, j, none⟩) ∧ (∀ j, w'.frozen? ⟨b, j, none⟩ = w.frozen? ⟨b, j, none⟩) ∧ Only b w w'

theorem cell_other (w : World) (b o j : Nat) (v : Value) (h : j ≠ o) : (w.setCell ⟨b, o, none⟩ v).cell? ⟨b, j, none⟩ = w.cell? ⟨b, j, none⟩ := by
  go_simp
/-- Go on from a world of which this much is known. -/
theorem gen_world {P : Program} {c : Code} {Q : Exit → Act → World → Prop} {a : Act} {w : World} (F : World → Prop) (h : F w) (h2 : ∀ W, F W → c.wp P Q a W) : c.wp P Q a w := h2 w h
theorem cell_drewN (w : World) (a : Addr) (n : Nat) : (w.drewN n).cell? a = w.cell? a := rfl
theorem frozen_drewN (w : World) (a : Addr) (n : Nat) : (w.drewN n).frozen? a = w.frozen? a := rfl

set_option maxHeartbeats 1600000 in
theorem step_any (b o : Nat) (a p d : Int) (w : World) (h0 : w.cell? ⟨b, o, none⟩ = some (.int .i64 (a / d))) (h1 : w.cell? ⟨b, o + 1, none⟩ = some (.int .i64 (a % d))) (h2 : w.cell? ⟨b, o + 2, none⟩ = some (.int .i64 d))
    (f0 : w.frozen? ⟨b, o, none⟩ = false) (f1 : w.frozen? ⟨b, o + 1, none⟩ = false) (hd : 0 < d) (hd' : d ≤ 1048576) (a0 : 0 ≤ a) (p0 : 0 ≤ p) (a1 : (a + p) / d ≤ 4611686018427387904) :
    Calls Try.prog 47 #[.pointer (some ⟨b, o, none⟩), .int .i64 (p / d), .int .i64 (p % d)] w fun e w' => e = .returned (.tuple #[]) ∧ Stepped w w' b o ((a + p) / d) ((a + p) % d) := by
  have b1 := Int.emod_nonneg a (b := d) (by omega)
  have b2 := Int.emod_nonneg p (b := d) (by omega)
  have b3 := Int.emod_lt_of_pos a (b := d) hd
  have b4 := Int.emod_lt_of_pos p (b := d) hd
  have b5 : 0 ≤ a / d := Int.ediv_nonneg a0 (by omega)
  have b6 : 0 ≤ p / d := Int.ediv_nonneg p0 (by omega)
  by_cases h : a % d + p % d < d
  · obtain ⟨q1, q2⟩ := Win.stepdiv_lo a p d hd h
    rw [q1] at a1; rw [q1, q2]
    refine (step_lo b o (a / d) (a % d) d (p / d) (p % d) w h0 h1 h2 f0 f1 (by omega) (by omega) (by omega) (by omega) h).mono ?_
    rintro e w' ⟨rfl, n, rfl⟩
    refine ⟨rfl, ?_, ?_, ?_, ?_, (by repeat' (first | (with_reducible exact Only.refl _ _) | (with_reducible refine Only.alloc ?_ _) | (with_reducible refine only_drewN ?_ _) | (with_reducible refine Only.drew ?_) | (with_reducible refine Only.setCell ?_ ?_ _) | (exact Or.inl rfl) | (right; first | omega | (simp; done) | (simp; omega)) | omega | (simp; omega) | (simp; done)))⟩
    · go_simp
    · go_simp
    · intro j hj hj'
      rw [cell_drewN, cell_other _ _ _ _ _ hj', cell_other _ _ _ _ _ hj]
    · intro j; simp
  · obtain ⟨q1, q2⟩ := Win.stepdiv_hi a p d hd (by omega)
    rw [q1] at a1; rw [q1, q2]
    refine (step_hi b o (a / d) (a % d) d (p / d) (p % d) w h0 h1 h2 f0 f1 (by omega) (by omega) (by omega) (by omega) (by omega) (by omega) (by omega) (by omega)).mono ?_
    rintro e w' ⟨rfl, n, rfl⟩
    have q3 : (((w.setCell ⟨b, o, none⟩ (.int .i64 (a / d + p / d))).setCell ⟨b, o + 1, none⟩ (.int .i64 (a % d + p % d))).drewN n).cell? ⟨b, o + 1, none⟩ = some (.int .i64 (a % d + p % d)) := by rw [cell_drewN]; go_simp
    have q4 : (((w.setCell ⟨b, o, none⟩ (.int .i64 (a / d + p / d))).setCell ⟨b, o + 1, none⟩ (.int .i64 (a % d + p % d))).drewN n).cell? ⟨b, o, none⟩ = some (.int .i64 (a / d + p / d)) := by rw [cell_drewN]; go_simp
    refine ⟨rfl, ?_, ?_, ?_, ?_, (by repeat' (first | (with_reducible exact Only.refl _ _) | (with_reducible refine Only.alloc ?_ _) | (with_reducible refine only_drewN ?_ _) | (with_reducible refine Only.drew ?_) | (with_reducible refine Only.setCell ?_ ?_ _) | (exact Or.inl rfl) | (right; first | omega | (simp; done) | (simp; omega)) | omega | (simp; omega) | (simp; done)))⟩
    · go_simp
    · go_simp
    · intro j hj hj'
      rw [cell_other _ _ _ _ _ hj, cell_other _ _ _ _ _ hj', cell_drewN, cell_other _ _ _ _ _ hj', cell_other _ _ _ _ _ hj]
    · intro j; simp

theorem up_any (a d : Int) (w : World) (hd : 0 < d) (a0 : 0 ≤ a) (a1 : a / d ≤ 4611686018427387904) :
    Calls Try.prog 48 #[.agg #[.int .i64 (a / d), .int .i64 (a % d), .int .i64 d]] w fun e w' => e = .returned (.int .i64 (Win.up a d)) ∧ Below w.heap.size w w' := by
  have b5 : 0 ≤ a / d := Int.ediv_nonneg a0 (by omega)
  rw [Win.up_rest a d hd]
  by_cases h : 0 < a % d
  · rw [if_pos h]; exact up_pos _ _ _ w h (by omega) (by omega)
  · rw [if_neg h]; exact up_not _ _ _ w h
end Go.Proofs.Ytkmgkggkdmlkeaa
