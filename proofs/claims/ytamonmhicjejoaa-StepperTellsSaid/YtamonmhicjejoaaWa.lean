/- Contracts of the window's own functions. -/
import Derived.Test.YtamonmhicjejoaaRows
import Derived.Test.YtamonmhicjejoaaWin
import Derived.WalkKit
import Derived.WalkSpells
import Derived.WalkLawsBesides
import Derived.Deep.RegionHeld3
import Derived.Deep.QuietTactic
import Derived.BigQuiet
import Derived.Handy
import Derived.WalkSmall
namespace Go.Proofs.Ytamonmhicjejoaa
open Go.RowKit
set_option linter.unusedVariables false
set_option linter.unusedSimpArgs false

set_option maxHeartbeats 400000 in
theorem by_pos (b : Int) (w : World) (hb : 0 < b) : Calls Try.prog 56 #[.int .i64 b] w fun e w' => e = .returned (.int .i64 0) ∧ w = w' := by
  have h1 : (b == 0) = false := by rw [beq_eq_false_iff_ne]; omega
  have h2 : ¬ b < 0 := by omega
  go_enter Try.func56, Try.ntmps56
  go_wp2
  go_ret
  exact ⟨rfl, rfl⟩

set_option maxHeartbeats 400000 in
theorem floor_pos (a b : Int) (w : World) (ha : 0 ≤ a) (ha' : a ≤ 4611686018427387904) (hb : 0 < b) :
    Calls Try.prog 55 #[.int .i64 a, .int .i64 b] w fun e w' => e = .returned (.tuple #[.int .i64 (a / b), .int .i64 0]) ∧ w = w' := by
  have hb' : 1 ≤ b := by omega
  have hq : a / b * b ≤ a := Win.fl_le a b hb
  have hq0 : 0 ≤ a / b := Int.ediv_nonneg ha (by omega)
  have hq1 : 0 ≤ a / b * b := Int.mul_nonneg hq0 (by omega)
  have h2 : ¬ a < a / b * b := by omega
  go_enter Try.func55, Try.ntmps55
  go_wp2_with (go_at_call 56; refine (by_pos _ _ (by omega)).mono ?_; rintro e w' ⟨rfl, rfl⟩)
  go_ret2
  exact ⟨rfl, rfl⟩

set_option maxHeartbeats 400000 in
theorem ceil_pos (a b : Int) (w : World) (ha : 0 ≤ a) (ha' : a ≤ 4611686018427387904) (hb : 0 < b) :
    Calls Try.prog 53 #[.int .i64 a, .int .i64 b] w fun e w' => e = .returned (.tuple #[.int .i64 (Win.up a b), .int .i64 0]) ∧ w = w' := by
  have hb' : 1 ≤ b := by omega
  have hq : a / b * b ≤ a := Win.fl_le a b hb
  have hq0 : 0 ≤ a / b := Int.ediv_nonneg ha (by omega)
  have hq1 : 0 ≤ a / b * b := Int.mul_nonneg hq0 (by omega)
  have hq2 : a / b ≤ a := Int.ediv_le_self _ ha
  by_cases h : a / b * b < a
  · have hu : Hid (Win.up a b = a / b + 1) := if_pos h
    go_enter Try.func53, Try.ntmps53
    go_wp2_with (go_at_call 56; refine (by_pos _ _ (by omega)).mono ?_; rintro e w' ⟨rfl, rfl⟩)
    go_ret2
    exact ⟨by rw [hu.out]; rfl, rfl⟩
  · have hu : Hid (Win.up a b = a / b) := if_neg h
    go_enter Try.func53, Try.ntmps53
    go_wp2_with (go_at_call 56; refine (by_pos _ _ (by omega)).mono ?_; rintro e w' ⟨rfl, rfl⟩)
    go_ret2
    exact ⟨by rw [hu.out]; rfl, rfl⟩

set_option maxHeartbeats 400000 in
theorem times_ceil (E P i b : Int) (w : World) (h0 : 0 ≤ i * P) (h1 : i * P ≤ 4611686018427387904) (hb : 0 < b) :
    Calls Try.prog 54 #[.agg #[.int .i64 E, .int .i64 P], .int .i64 i, .int .i64 b, .func (.func 53) #[] #[]] w fun e w' => e = .returned (.int .i64 (Win.up (i * P) b)) ∧ Below w.heap.size w w' := by
  go_enter Try.func54, Try.ntmps54
  go_wp2_with (go_at_call 53; refine (ceil_pos _ _ _ h0 h1 hb).mono ?_; rintro e w' ⟨rfl, rfl⟩)
  go_ret
  exact ⟨rfl, (Below.refl _ _).alloc (Nat.le_refl _) _⟩

set_option maxHeartbeats 400000 in
theorem times_floor (E P i b : Int) (w : World) (h0 : 0 ≤ i * P) (h1 : i * P ≤ 4611686018427387904) (hb : 0 < b) :
    Calls Try.prog 54 #[.agg #[.int .i64 E, .int .i64 P], .int .i64 i, .int .i64 b, .func (.func 55) #[] #[]] w fun e w' => e = .returned (.int .i64 (i * P / b)) ∧ Below w.heap.size w w' := by
  go_enter Try.func54, Try.ntmps54
  go_wp2_with (go_at_call 55; refine (floor_pos _ _ _ h0 h1 hb).mono ?_; rintro e w' ⟨rfl, rfl⟩)
  go_ret
  exact ⟨rfl, (Below.refl _ _).alloc (Nat.le_refl _) _⟩

theorem mul_bd {i P : Int} (h0 : 0 ≤ i) (h1 : i ≤ 1099511627776) (p0 : 0 ≤ P) (p1 : P ≤ 1048576) : 0 ≤ i * P ∧ i * P ≤ 1152921504606846976 := by
  refine ⟨Int.mul_nonneg h0 p0, ?_⟩
  have a := Int.mul_le_mul_of_nonneg_right h1 p0
  have b := Int.mul_le_mul_of_nonneg_left p1 (show (0 : Int) ≤ 1099511627776 by omega)
  omega

theorem sz_drewN (w : World) (n : Nat) : (w.drewN n).heap.size = w.heap.size := rfl

/-- The old cells and marks behind a call that leaves old memory alone. -/
theorem bcell {W w1 : World} (hb : Below W.heap.size W w1) : (∀ b o, b < W.heap.size → w1.cell? ⟨b, o, none⟩ = W.cell? ⟨b, o, none⟩) ∧ (∀ b o, b < W.heap.size → w1.frozen? ⟨b, o, none⟩ = W.frozen? ⟨b, o, none⟩) :=
  ⟨fun b o h => hb.cell (p := ⟨b, o, none⟩) h, fun b o h => hb.frozen (p := ⟨b, o, none⟩) h⟩

set_option maxHeartbeats 400000 in
theorem release_any (E P i : Int) (w : World) (e1 : 1 ≤ E) (e2 : E ≤ P) (e3 : P ≤ 1048576) (i1 : 1 ≤ i) (i2 : i ≤ 1099511627776) :
    Calls Try.prog 45 #[.agg #[.int .i64 E, .int .i64 P], .int .i64 i] w fun e w' => e = .returned (.int .i64 (Win.rel E P i)) ∧ Below w.heap.size w w' := by
  have m := mul_bd (i := i - 1) (P := P) (by omega) (by omega) (by omega) (by omega)
  go_enter Try.func45, Try.ntmps45
  go_wp2_with (go_at_call 54; refine (times_floor E P (i - 1) E _ m.1 (by omega) (by omega)).mono ?_; rintro e w' ⟨rfl, hb⟩)
  go_ret
  exact ⟨rfl, ((Below.refl _ _).alloc (Nat.le_refl _) _).trans (hb.mono (by simp))⟩

set_option maxHeartbeats 400000 in
theorem deadline_any (E P i : Int) (w : World) (e1 : 1 ≤ E) (e2 : E ≤ P) (e3 : P ≤ 1048576) (i1 : 1 ≤ i) (i2 : i ≤ 1099511627776) :
    Calls Try.prog 44 #[.agg #[.int .i64 E, .int .i64 P], .int .i64 i] w fun e w' => e = .returned (.int .i64 (Win.dl E P i)) ∧ Below w.heap.size w w' := by
  have m := mul_bd (i := i) (P := P) (by omega) (by omega) (by omega) (by omega)
  go_enter Try.func44, Try.ntmps44
  go_wp2_with (go_at_call 54; refine (times_ceil E P i E _ m.1 (by omega) (by omega)).mono ?_; rintro e w' ⟨rfl, hb⟩)
  go_ret
  exact ⟨rfl, ((Below.refl _ _).alloc (Nat.le_refl _) _).trans (hb.mono (by simp))⟩

set_option maxHeartbeats 400000 in
theorem bit_any (E P i : Int) (w : World) (e1 : 1 ≤ E) (e2 : E ≤ P) (e3 : P ≤ 1048576) (i1 : 1 ≤ i) (i2 : i ≤ 1099511627776) :
    Calls Try.prog 47 #[.agg #[.int .i64 E, .int .i64 P], .int .i64 i] w fun e w' => e = .returned (.int .i64 (Win.bit E P i)) ∧ Below w.heap.size w w' := by
  have m := mul_bd (i := i) (P := P) (by omega) (by omega) (by omega) (by omega)
  obtain ⟨m1, m2⟩ := m
  by_cases h : i * P % E = 0
  · have hb : Hid (Win.bit E P i = 0) := if_pos h
    have h' : (i * P % E == 0) = true := by simp [h]
    clear h
    go_enter Try.func47, Try.ntmps47
    go_wp2
    go_ret
    exact ⟨by rw [hb.out]; rfl, (Below.refl _ _).alloc (Nat.le_refl _) _⟩
  · have hb : Hid (Win.bit E P i = 1) := if_neg h
    have h' : (i * P % E == 0) = false := by simp [h]
    clear h
    go_enter Try.func47, Try.ntmps47
    go_wp2
    go_ret
    exact ⟨by rw [hb.out]; rfl, (Below.refl _ _).alloc (Nat.le_refl _) _⟩

theorem grp_bds (E P i : Int) (e1 : 1 ≤ E) (e2 : E ≤ P) (e3 : P ≤ 1048576) (i1 : 1 ≤ i) (i2 : i ≤ 1099511627776) :
    0 ≤ Win.dl E P i ∧ Win.dl E P i ≤ 1152921504606846976 := by
  have m := mul_bd (i := i) (P := P) (by omega) (by omega) (by omega) (by omega)
  refine ⟨Win.up_nonneg (by omega) m.1, Win.up_le (by omega) ?_⟩
  have := Int.mul_le_mul_of_nonneg_left e1 (show (0 : Int) ≤ 1152921504606846976 by omega)
  omega

theorem grp_bds1 (E P i : Int) (e1 : 1 ≤ E) (e2 : E ≤ P) (_e3 : P ≤ 1048576) (h : P - E ≤ E) (i1 : 1 ≤ i) (i2 : i ≤ 1099511627776) :
    0 ≤ Win.dl E P i ∧ Win.dl E P i ≤ 2199023255552 := by
  have m := Int.mul_nonneg (show 0 ≤ i by omega) (show 0 ≤ P by omega)
  have k := Int.mul_le_mul_of_nonneg_left (show P ≤ 2 * E by omega) (show 0 ≤ i by omega)
  have k2 : i * (2 * E) = 2 * i * E := by rw [← Int.mul_assoc, Int.mul_comm i 2]
  have : Win.dl E P i ≤ 2 * i := Win.up_le (by omega) (by omega)
  exact ⟨Win.up_nonneg (by omega) m, by omega⟩

theorem grp_bds2 (d P r : Int) (d0 : 0 ≤ d) (d1 : d ≤ 2199023255552) (r0 : 1 ≤ r) (r1 : r < P) (e3 : P ≤ 1048576) :
    0 ≤ d % P ∧ 0 ≤ d / P ∧ 0 ≤ d % P * r ∧ d % P * r ≤ 1099511627776 ∧ 0 ≤ d / P * r ∧ d / P * r ≤ d ∧ 0 ≤ Win.up (d % P * r) P ∧ Win.up (d % P * r) P ≤ 1048576 ∧
      0 ≤ (d / P * r + Win.up (d % P * r) P) * P ∧ (d / P * r + Win.up (d % P * r) P) * P ≤ 4611686018427387904 := by
  have a1 := Int.emod_nonneg d (b := P) (by omega)
  have a2 := Int.emod_lt_of_pos d (b := P) (by omega)
  have a3 : 0 ≤ d / P := Int.ediv_nonneg d0 (by omega)
  have a4 : 0 ≤ d % P * r := Int.mul_nonneg a1 (by omega)
  have a5 : d % P * r ≤ d % P * P := Int.mul_le_mul_of_nonneg_left (by omega) a1
  have a6 : d % P * P ≤ 1048576 * P := Int.mul_le_mul_of_nonneg_right (by omega) (by omega)
  have a7 : 0 ≤ d / P * r := Int.mul_nonneg a3 (by omega)
  have a8 : d / P * r ≤ d / P * P := Int.mul_le_mul_of_nonneg_left (by omega) a3
  have a9 := Win.fl_le d P (by omega)
  have u0 : 0 ≤ Win.up (d % P * r) P := Win.up_nonneg (by omega) a4
  have u1 : Win.up (d % P * r) P ≤ r := Win.up_le (by omega) (by rw [Int.mul_comm r P]; exact Int.mul_le_mul_of_nonneg_right (by omega) (by omega))
  refine ⟨a1, a3, a4, by omega, a7, by omega, u0, by omega, Int.mul_nonneg (by omega) (by omega), ?_⟩
  rw [Win.grp_k d r P (by omega)]
  have k1 := Win.up_lt (d * r) P (by omega)
  have k2 : d * r ≤ d * P := Int.mul_le_mul_of_nonneg_left (by omega) d0
  have k3 : d * P ≤ 2199023255552 * P := Int.mul_le_mul_of_nonneg_right (by omega) (by omega)
  omega

set_option maxHeartbeats 400000 in
theorem group_any (E P i : Int) (w : World) (e1 : 1 ≤ E) (e2 : E ≤ P) (e3 : P ≤ 1048576) (i1 : 1 ≤ i) (i2 : i ≤ 1099511627776) :
    Calls Try.prog 43 #[.agg #[.int .i64 E, .int .i64 P], .int .i64 i] w fun e w' => e = .returned (.int .i64 (Win.grp E P i)) ∧ Below w.heap.size w w' := by
  by_cases h1 : P - E > E
  · have hg : Hid (Win.grp E P i = 0) := if_pos h1
    go_enter Try.func43, Try.ntmps43
    go_wp2_with (go_at_call 44; refine (deadline_any E P i _ e1 e2 e3 i1 i2).mono ?_; rintro e w' ⟨rfl, hb⟩; obtain ⟨hc, hf⟩ := bcell hb)
    go_ret
    exact ⟨by rw [hg.out]; rfl, ((Below.refl _ _).alloc (Nat.le_refl _) _).trans (hb.mono (by simp))⟩
  · by_cases h2 : P - E = 0
    · have hg : Hid (Win.grp E P i = Win.dl E P i) := by show _ = _; unfold Win.grp; rw [if_neg h1, if_pos h2]
      have h2' : (P - E == 0) = true := by simp [h2]
      clear h2
      go_enter Try.func43, Try.ntmps43
      go_wp2_with (go_at_call 44; refine (deadline_any E P i _ e1 e2 e3 i1 i2).mono ?_; rintro e w' ⟨rfl, hb⟩; obtain ⟨hc, hf⟩ := bcell hb)
      go_ret
      exact ⟨by rw [hg.out]; rfl, ((Below.refl _ _).alloc (Nat.le_refl _) _).trans (hb.mono (by simp))⟩
    · have hg : Hid (Win.grp E P i = Win.up ((Win.dl E P i / P * (P - E) + Win.up (Win.dl E P i % P * (P - E)) P) * P) (P - E)) := by show _ = _; unfold Win.grp; rw [if_neg h1, if_neg h2]
      have h2' : (P - E == 0) = false := by simp [h2]
      obtain ⟨d0, d1⟩ := grp_bds1 E P i e1 e2 e3 (by omega) i1 i2
      obtain ⟨b1, b2, b3, b4, b5, b6, b7, b8, b9, b10⟩ := grp_bds2 (Win.dl E P i) P (P - E) d0 d1 (by omega) (by omega) e3
      have hP : 1 ≤ P := by omega
      have h3 : 0 < P - E := by omega
      clear h2
      go_enter Try.func43, Try.ntmps43
      go_wp2_with (go_at_call 44; refine (deadline_any E P i _ e1 e2 e3 i1 i2).mono ?_; rintro e w' ⟨rfl, hb⟩; obtain ⟨hc, hf⟩ := bcell hb)
      go_quiet (fail)
      go_wp2_with (go_at_call 53; refine (ceil_pos _ _ _ (by omega) (by omega) (by omega)).mono ?_; rintro e w' ⟨rfl, rfl⟩)
      go_wp2_with (go_at_call 54; go_must (refine (times_ceil E P _ _ _ b9 b10 (by omega)).mono ?_); rintro e w'' ⟨rfl, hb2⟩)
      go_ret
      exact ⟨by rw [hg.out]; rfl, ((Below.refl _ _).alloc (Nat.le_refl _) _).trans ((hb.mono (by simp)).trans ((below_drewN (Below.refl _ _) _).trans (hb2.mono (by have := hb.size; simp at this; simp; omega))))⟩
end Go.Proofs.Ytamonmhicjejoaa
