/- Contracts of parts rounded down and up, for all numbers, and the example of chapter 1. -/
import Derived.Test.YtpmenmcigflkdaaGcd
namespace Go.Proofs.Ytpmenmcigflkdaa
open Go.RowKit
set_option linter.unusedVariables false
set_option linter.unusedSimpArgs false

theorem tdiv_facts (a b : Int) (hb : 0 < b) : (0 ≤ a → a.tdiv b * b ≤ a ∧ 0 ≤ a.tdiv b * b ∧ 0 ≤ a.tdiv b ∧ a.tdiv b ≤ a) ∧ (a < 0 → a ≤ a.tdiv b * b ∧ a.tdiv b * b ≤ 0 ∧ a ≤ a.tdiv b ∧ a.tdiv b ≤ 0) ∧
    a / b = (if a < a.tdiv b * b then a.tdiv b - 1 else a.tdiv b) ∧ Win.up a b = (if a.tdiv b * b < a then a.tdiv b + 1 else a.tdiv b) := by
  by_cases h : 0 ≤ a
  · have e : a.tdiv b = a / b := Int.tdiv_eq_ediv_of_nonneg h
    rw [e]
    have l1 := Win.fl_le a b hb
    have q0 : 0 ≤ a / b := Int.ediv_nonneg h (by omega)
    have q1 : 0 ≤ a / b * b := Int.mul_nonneg q0 (by omega)
    have q2 : a / b ≤ a := Int.ediv_le_self _ h
    refine ⟨fun _ => ⟨l1, q1, q0, q2⟩, fun k => by omega, by rw [if_neg (by omega)], rfl⟩
  · have e : a.tdiv b = -((-a) / b) := by
      have h1 : (-a).tdiv b = (-a) / b := Int.tdiv_eq_ediv_of_nonneg (by omega)
      rw [Int.neg_tdiv] at h1; omega
    rw [e]
    have l1 := Win.fl_le (-a) b hb
    have l2 := Win.lt_fl (-a) b hb
    have q0 : 0 ≤ (-a) / b := Int.ediv_nonneg (by omega) (by omega)
    have q1 : 0 ≤ (-a) / b * b := Int.mul_nonneg q0 (by omega)
    have q2 : (-a) / b ≤ -a := Int.ediv_le_self _ (by omega)
    have m : -((-a) / b) * b = -((-a) / b * b) := Int.neg_mul _ _
    rw [m]
    have fl : a / b = if a < -((-a) / b * b) then -((-a) / b) - 1 else -((-a) / b) := by
      split
      · refine Win.fl_unique hb ?_ ?_
        · rw [Int.sub_mul, Int.one_mul, m]; omega
        · rw [Int.sub_mul, Int.one_mul, m]; omega
      · refine Win.fl_unique hb ?_ ?_
        · rw [m]; omega
        · rw [m]; omega
    refine ⟨fun k => by omega, fun _ => by omega, fl, ?_⟩
    rw [if_neg (by omega)]
    refine Win.up_unique hb ?_ ?_
    · rw [m]; omega
    · rw [m]; omega

set_option maxHeartbeats 800000 in
theorem floor_all (a b : Int) (w : World) (ha : Fits a) (hb : 0 < b) (hb' : b ≤ 9223372036854775807) :
    Calls Try.prog 16 #[.int .i64 a, .int .i64 b] w fun e w' => e = .returned (.tuple #[.int .i64 (a / b), .int .i64 0]) ∧ w = w' := by
  obtain ⟨f1, f2, f3, _⟩ := tdiv_facts a b hb
  unfold Fits at ha
  have b1 : -9223372036854775808 ≤ a.tdiv b * b := by by_cases h : 0 ≤ a; (· have := f1 h; omega); (· have := f2 (by omega); omega)
  have b2 : a.tdiv b * b ≤ 9223372036854775807 := by by_cases h : 0 ≤ a; (· have := f1 h; omega); (· have := f2 (by omega); omega)
  have b3 : -9223372036854775808 ≤ a.tdiv b := by by_cases h : 0 ≤ a; (· have := f1 h; omega); (· have := f2 (by omega); omega)
  have b4 : a.tdiv b ≤ 9223372036854775807 := by by_cases h : 0 ≤ a; (· have := f1 h; omega); (· have := f2 (by omega); omega)
  have b5 : a < a.tdiv b * b → -9223372036854775807 ≤ a.tdiv b := fun h => by
    by_cases k : 0 ≤ a
    · have := f1 k; omega
    · have := f2 (by omega)
      by_cases z : a.tdiv b = -9223372036854775808
      · rw [z] at h; omega
      · omega
  obtain ⟨hb1, ha1, ha2⟩ : 1 ≤ b ∧ -9223372036854775808 ≤ a ∧ a ≤ 9223372036854775807 := ⟨by omega, ha.1, ha.2⟩
  by_cases h : a < a.tdiv b * b
  · have hu : Hid (a / b = a.tdiv b - 1) := by show _ = _; rw [f3, if_pos h]
    have b6 := b5 h
    clear f1 f2 f3 b5 ha
    have hw : Hid (wrap64 (a.tdiv b) = a.tdiv b) := IntWalk.wrap64_in _ ⟨b3, b4⟩
    go_enter Try.func16, Try.ntmps16
    go_wp2_with (go_at_call 43; refine (by_pos _ _ hb).mono ?_; rintro e w' ⟨rfl, rfl⟩)
    go_ret2
    exact ⟨by rw [hu.out]; rfl, rfl⟩
  · have hu : Hid (a / b = a.tdiv b) := by show _ = _; rw [f3, if_neg h]
    clear f1 f2 f3 b5 ha
    go_enter Try.func16, Try.ntmps16
    go_wp2_with (go_at_call 43; refine (by_pos _ _ hb).mono ?_; rintro e w' ⟨rfl, rfl⟩)
    go_ret2
    exact ⟨by rw [hu.out]; rfl, rfl⟩

set_option maxHeartbeats 800000 in
theorem ceil_all (a b : Int) (w : World) (ha : Fits a) (hb : 0 < b) (hb' : b ≤ 9223372036854775807) :
    Calls Try.prog 18 #[.int .i64 a, .int .i64 b] w fun e w' => e = .returned (.tuple #[.int .i64 (Win.up a b), .int .i64 0]) ∧ w = w' := by
  obtain ⟨f1, f2, _, f3⟩ := tdiv_facts a b hb
  unfold Fits at ha
  have b1 : -9223372036854775808 ≤ a.tdiv b * b := by by_cases h : 0 ≤ a; (· have := f1 h; omega); (· have := f2 (by omega); omega)
  have b2 : a.tdiv b * b ≤ 9223372036854775807 := by by_cases h : 0 ≤ a; (· have := f1 h; omega); (· have := f2 (by omega); omega)
  have b3 : -9223372036854775808 ≤ a.tdiv b := by by_cases h : 0 ≤ a; (· have := f1 h; omega); (· have := f2 (by omega); omega)
  have b4 : a.tdiv b ≤ 9223372036854775807 := by by_cases h : 0 ≤ a; (· have := f1 h; omega); (· have := f2 (by omega); omega)
  have b5 : a.tdiv b * b < a → a.tdiv b ≤ 9223372036854775806 := fun h => by
    by_cases k : 0 ≤ a
    · have := f1 k
      by_cases z : a.tdiv b = 9223372036854775807
      · rw [z] at h; omega
      · omega
    · have := f2 (by omega); omega
  obtain ⟨hb1, ha1, ha2⟩ : 1 ≤ b ∧ -9223372036854775808 ≤ a ∧ a ≤ 9223372036854775807 := ⟨by omega, ha.1, ha.2⟩
  by_cases h : a.tdiv b * b < a
  · have hu : Hid (Win.up a b = a.tdiv b + 1) := by show _ = _; rw [f3, if_pos h]
    have b6 := b5 h
    clear f1 f2 f3 b5 ha
    go_enter Try.func18, Try.ntmps18
    go_wp2_with (go_at_call 43; refine (by_pos _ _ hb).mono ?_; rintro e w' ⟨rfl, rfl⟩)
    go_ret2
    exact ⟨by rw [hu.out]; rfl, rfl⟩
  · have hu : Hid (Win.up a b = a.tdiv b) := by show _ = _; rw [f3, if_neg h]
    clear f1 f2 f3 b5 ha
    go_enter Try.func18, Try.ntmps18
    go_wp2_with (go_at_call 43; refine (by_pos _ _ hb).mono ?_; rintro e w' ⟨rfl, rfl⟩)
    go_ret2
    exact ⟨by rw [hu.out]; rfl, rfl⟩

set_option maxHeartbeats 1600000 in
theorem awake01 (w : World) : Calls Try.prog 15 #[] w fun e w' => e = .returned (.bool true) ∧ Below w.heap.size w w' := by
  have h1 := fun w => floor_all (-7) 2 w (by unfold Fits; omega) (by omega) (by omega)
  have h2 := fun w => ceil_all (-7) 2 w (by unfold Fits; omega) (by omega) (by omega)
  rw [show ((-7 : Int) / 2) = -4 from rfl] at h1
  rw [show Win.up (-7) 2 = -3 from by decide] at h2
  have h3 : ∀ b w, b < w.heap.size → w.cell? ⟨b, 0, none⟩ = some (.int .i64 4) → w.cell? ⟨b, 1, none⟩ = some (.int .i64 6) → Calls Try.prog 22 #[.slice (some ⟨b, 0, none⟩) 2 2] w fun e w' => e = .returned (.tuple #[.int .i64 12, .int .i64 0]) ∧ Below w.heap.size w w' := fun b w hb c0 c1 => by
    have h := lcm_any b 0 2 2 [4, 6] w hb rfl (by omega) (fun i hi => by match i, hi with | 0, _ => simpa using c0 | 1, _ => simpa using c1) (fun i hi => by match i, hi with | 0, _ => (show Fits 4; unfold Fits; omega) | 1, _ => (show Fits 6; unfold Fits; omega))
    rw [show lcmS 1 [4, 6] = (12, 0) from by decide] at h
    exact h
  have H1 := Lib.hid h1
  have H2 := Lib.hid h2
  have H3 := Lib.hid h3
  clear h1 h2 h3
  go_enter Try.func15, Try.ntmps15
  go_wp2_with (first
    | (go_at_call 16; (with_reducible refine (H1.out _).mono ?_); rintro e w1 ⟨rfl, rfl⟩)
    | (go_at_call 18; (with_reducible refine (H2.out _).mono ?_); rintro e w1 ⟨rfl, rfl⟩)
    | (go_at_call 22; refine (H3.out _ _ (by simp) (by go_simp) (by go_simp)).mono ?_; rintro e w1 ⟨rfl, hb1⟩))
  go_ret
  exact ⟨by first | rfl | simp [*], (by have s0_ := hb1.size; (try simp only [World.size_alloc, World.size_setCell, World.size_drew, sz_drewN] at s0_); repeat' (first | (with_reducible exact Below.refl _ _) | (with_reducible refine bel_call ?_ ?_ hb1) | (with_reducible refine Below.alloc ?_ ?_ _) | (with_reducible refine below_drewN ?_ _) | (with_reducible refine Below.drew ?_) | (with_reducible refine Below.setCell ?_ ?_ _) | omega | (simp; omega) | (simp; done)))⟩
end Go.Proofs.Ytpmenmcigflkdaa
