/- Contracts for the law ExactParts: parts rounded, the greatest common part and the least common number, by the program and by the document. -/
import Derived.Test.YtpmenmcigflkdaaExSums
namespace Go.Proofs.Ytpmenmcigflkdaa
open Go.RowKit
set_option linter.unusedVariables false
set_option linter.unusedSimpArgs false

/-- What a part is told as. -/
def partS (q b : Int) : Int × Int := if b = 0 then (0, 17) else if b < 0 then (0, 1) else (q, 0)
def gcdS (a b : Int) : Int × Int := if a < 0 ∨ b < 0 then (0, 1) else (((Nat.gcd a.toNat b.toNat : Nat) : Int), 0)

set_option maxHeartbeats 400000 in
theorem by_zero (w : World) : Calls Try.prog 43 #[.int .i64 0] w fun e w' => e = .returned (.int .i64 17) ∧ w = w' := by
  go_enter Try.func43, Try.ntmps43
  go_wp2
  go_ret
  exact ⟨rfl, rfl⟩
set_option maxHeartbeats 400000 in
theorem by_neg (b : Int) (w : World) (h : b < 0) : Calls Try.prog 43 #[.int .i64 b] w fun e w' => e = .returned (.int .i64 1) ∧ w = w' := by
  have h1 : (b == 0) = false := by rw [beq_eq_false_iff_ne]; omega
  go_enter Try.func43, Try.ntmps43
  go_wp2
  go_ret
  exact ⟨rfl, rfl⟩

set_option maxHeartbeats 800000 in
theorem floor_every (a b : Int) (w : World) (ha : Fits a) (hb : Fits b) : Calls Try.prog 16 #[.int .i64 a, .int .i64 b] w fun e w' => e = .returned (.tuple #[.int .i64 (partS (a / b) b).1, .int .i64 (partS (a / b) b).2]) ∧ w = w' := by
  unfold Fits at hb
  by_cases h : b = 0
  · subst h
    have H : Hid (partS (a / 0) 0 = (0, 17)) := by show _ = _; unfold partS; rw [if_pos rfl]
    go_enter Try.func16, Try.ntmps16
    go_wp2_with (go_at_call 43; refine (by_zero _).mono ?_; rintro e w' ⟨rfl, rfl⟩)
    go_ret2
    exact ⟨by rw [H.out]; rfl, rfl⟩
  · by_cases h2 : b < 0
    · have H : Hid (partS (a / b) b = (0, 1)) := by show _ = _; unfold partS; rw [if_neg h, if_pos h2]
      go_enter Try.func16, Try.ntmps16
      go_wp2_with (go_at_call 43; refine (by_neg _ _ h2).mono ?_; rintro e w' ⟨rfl, rfl⟩)
      go_ret2
      exact ⟨by rw [H.out]; rfl, rfl⟩
    · have H : partS (a / b) b = (a / b, 0) := by unfold partS; rw [if_neg h, if_neg h2]
      rw [H]
      exact floor_all a b w ha (by omega) (by omega)

set_option maxHeartbeats 800000 in
theorem ceil_every (a b : Int) (w : World) (ha : Fits a) (hb : Fits b) : Calls Try.prog 18 #[.int .i64 a, .int .i64 b] w fun e w' => e = .returned (.tuple #[.int .i64 (partS (Win.up a b) b).1, .int .i64 (partS (Win.up a b) b).2]) ∧ w = w' := by
  unfold Fits at hb
  by_cases h : b = 0
  · subst h
    have H : Hid (partS (Win.up a 0) 0 = (0, 17)) := by show _ = _; unfold partS; rw [if_pos rfl]
    go_enter Try.func18, Try.ntmps18
    go_wp2_with (go_at_call 43; refine (by_zero _).mono ?_; rintro e w' ⟨rfl, rfl⟩)
    go_ret2
    exact ⟨by rw [H.out]; rfl, rfl⟩
  · by_cases h2 : b < 0
    · have H : Hid (partS (Win.up a b) b = (0, 1)) := by show _ = _; unfold partS; rw [if_neg h, if_pos h2]
      go_enter Try.func18, Try.ntmps18
      go_wp2_with (go_at_call 43; refine (by_neg _ _ h2).mono ?_; rintro e w' ⟨rfl, rfl⟩)
      go_ret2
      exact ⟨by rw [H.out]; rfl, rfl⟩
    · have H : partS (Win.up a b) b = (Win.up a b, 0) := by unfold partS; rw [if_neg h, if_neg h2]
      rw [H]
      exact ceil_all a b w ha (by omega) (by omega)

set_option maxHeartbeats 400000 in
theorem gcd_any (a b : Int) (w : World) (ha : Fits a) (hb : Fits b) : Calls Try.prog 20 #[.int .i64 a, .int .i64 b] w fun e w' => e = .returned (.tuple #[.int .i64 (gcdS a b).1, .int .i64 (gcdS a b).2]) ∧ Below w.heap.size w w' := by
  unfold Fits at ha hb
  by_cases h : a < 0
  · have H : Hid (gcdS a b = (0, 1)) := by show _ = _; unfold gcdS; rw [if_pos (.inl h)]
    go_enter Try.func20, Try.ntmps20
    go_wp2
    go_ret2
    exact ⟨by rw [H.out]; rfl, Below.refl _ _⟩
  · by_cases h2 : b < 0
    · have H : Hid (gcdS a b = (0, 1)) := by show _ = _; unfold gcdS; rw [if_pos (.inr h2)]
      go_enter Try.func20, Try.ntmps20
      go_wp2
      go_ret2
      exact ⟨by rw [H.out]; rfl, Below.refl _ _⟩
    · obtain ⟨x, rfl⟩ : ∃ x : Nat, a = x := ⟨a.toNat, by omega⟩
      obtain ⟨y, rfl⟩ : ∃ y : Nat, b = y := ⟨b.toNat, by omega⟩
      have H : gcdS x y = (((Nat.gcd x y : Nat) : Int), 0) := by unfold gcdS; rw [if_neg (by omega)]; rfl
      rw [H]
      exact gcd_yes x y w (by omega) (by omega)

set_option maxHeartbeats 400000 in
theorem rgcd_yes (y : Nat) : ∀ (x : Nat) (w : World), x ≤ 9223372036854775807 → y ≤ 9223372036854775807 → Calls Try.prog 21 #[.int .i64 x, .int .i64 y] w fun e w' => e = .returned (.tuple #[.int .i64 (Nat.gcd x y : Nat), .int .i64 0]) ∧ Below w.heap.size w w' := by
  induction y using Nat.strongRecOn with
  | _ y ih =>
    intro x w hx hy
    have c1 : ¬ (x : Int) < 0 := by omega
    have c2 : ¬ (y : Int) < 0 := by omega
    by_cases h : y = 0
    · subst h
      have IH := Lib.hid ih
      clear ih
      go_enter Try.func21, Try.ntmps21
      go_wp2
      go_ret2
      exact ⟨rfl, Below.refl _ _⟩
    · have hlt : x % y < y := Nat.mod_lt _ (by omega)
      have IH : Hid (∀ w, Calls Try.prog 21 #[.int .i64 y, .int .i64 ((x : Int) % (y : Int))] w fun e w' => e = .returned (.tuple #[.int .i64 (Nat.gcd x y : Nat), .int .i64 0]) ∧ Below w.heap.size w w') := by
        intro w
        have := ih (x % y) hlt y w hy (by omega)
        rw [Nat.gcd_comm y, ← Nat.gcd_rec, Nat.gcd_comm y, Int.natCast_emod] at this
        exact this
      clear ih
      have h1 : ((y : Int) == 0) = false := by simp; omega
      have h2 : (1 : Int) ≤ (y : Int) := by omega
      have h3 : ¬ (y : Int) = 0 := by omega
      have h3' : ¬ y = 0 := by omega
      have h4 : (0 : Int) ≤ (x : Int) := by omega
      go_enter Try.func21, Try.ntmps21
      go_wp2_with (go_at_call 21; (with_reducible refine (IH.out _).mono ?_); rintro e w1 ⟨rfl, hb1⟩)
      go_ret2
      exact ⟨rfl, (by have s0_ := hb1.size; (try simp only [World.size_alloc, World.size_setCell, World.size_drew, sz_drewN] at s0_); repeat' (first | (with_reducible exact Below.refl _ _) | (with_reducible refine bel_call ?_ ?_ hb1) | (with_reducible refine Below.alloc ?_ ?_ _) | (with_reducible refine below_drewN ?_ _) | (with_reducible refine Below.drew ?_) | (with_reducible refine Below.setCell ?_ ?_ _) | omega | (simp; omega) | (simp; done)))⟩

set_option maxHeartbeats 400000 in
theorem rgcd_any (a b : Int) (w : World) (ha : Fits a) (hb : Fits b) : Calls Try.prog 21 #[.int .i64 a, .int .i64 b] w fun e w' => e = .returned (.tuple #[.int .i64 (gcdS a b).1, .int .i64 (gcdS a b).2]) ∧ Below w.heap.size w w' := by
  unfold Fits at ha hb
  by_cases h : a < 0
  · have H : Hid (gcdS a b = (0, 1)) := by show _ = _; unfold gcdS; rw [if_pos (.inl h)]
    go_enter Try.func21, Try.ntmps21
    go_wp2
    go_ret2
    exact ⟨by rw [H.out]; rfl, Below.refl _ _⟩
  · by_cases h2 : b < 0
    · have H : Hid (gcdS a b = (0, 1)) := by show _ = _; unfold gcdS; rw [if_pos (.inr h2)]
      go_enter Try.func21, Try.ntmps21
      go_wp2
      go_ret2
      exact ⟨by rw [H.out]; rfl, Below.refl _ _⟩
    · obtain ⟨x, rfl⟩ : ∃ x : Nat, a = x := ⟨a.toNat, by omega⟩
      obtain ⟨y, rfl⟩ : ∃ y : Nat, b = y := ⟨b.toNat, by omega⟩
      have H : gcdS x y = (((Nat.gcd x y : Nat) : Int), 0) := by unfold gcdS; rw [if_neg (by omega)]; rfl
      rw [H]
      exact rgcd_yes y x w (by omega) (by omega)
end Go.Proofs.Ytpmenmcigflkdaa
