/- The walk of the law ExactBetween. -/
import Derived.Test.YtpmenmcigflkdaaExBack
namespace Go.Proofs.Ytpmenmcigflkdaa
open Go.RowKit
set_option linter.unusedVariables false
set_option linter.unusedSimpArgs false

theorem between_of (a b : Int) (ha : Fits a) (hb : 1 ≤ b) (hb' : b ≤ 2147483648) :
    ∃ f c p : Int, a / b = f ∧ Win.up a b = c ∧ f * b = p ∧ ((a.tmod b == 0) = true ∧ (c - f == 0) = true ∨ (a.tmod b == 0) = false ∧ (c - f == 1) = true) ∧ p ≤ a ∧ a - p < b ∧ (¬ Fits p → a < 0) ∧ Fits f ∧ Fits c ∧ 0 ≤ c - f ∧ c - f ≤ 1 := by
  refine ⟨_, _, _, rfl, rfl, rfl, ?_⟩
  have l1 := Win.fl_le a b (by omega)
  have l2 := Win.lt_fl a b (by omega)
  obtain ⟨t1, t2, t3, t4⟩ := tdiv_facts a b (by omega)
  have hm := Int.mul_tdiv_add_tmod a b
  have hc : b * a.tdiv b = a.tdiv b * b := Int.mul_comm _ _
  have tl := Int.lt_tmod_of_pos a (b := b) (by omega)
  have tu := Int.tmod_lt_of_pos a (b := b) (by omega)
  have up2 : Win.up a b = if a / b * b < a then a / b + 1 else a / b := rfl
  unfold Fits at *
  have ff : -9223372036854775808 ≤ a / b ∧ a / b ≤ 9223372036854775807 := by
    constructor
    · exact Win.le_fl (by omega) (by omega)
    · have : a / b < 9223372036854775808 := Win.fl_lt (by omega) (by omega)
      omega
  have fc : -9223372036854775808 ≤ Win.up a b ∧ Win.up a b ≤ 9223372036854775807 := by
    constructor
    · have : -9223372036854775809 < Win.up a b := Win.lt_up (by omega) (by omega)
      omega
    · exact Win.up_le (by omega) (by omega)
  refine ⟨?_, l1, by omega, fun h => ?_, ff, fc, ?_, ?_⟩
  · by_cases z : a.tmod b = 0
    · left
      refine ⟨by simp [z], ?_⟩
      have e : a.tdiv b * b = a := by omega
      rw [t4, t3, if_neg (by omega), if_neg (by omega)]; simp
    · right
      refine ⟨by simp [z], ?_⟩
      rw [t4, t3]
      by_cases k : a < a.tdiv b * b
      · rw [if_pos k, if_neg (by omega)]; simp; omega
      · rw [if_neg k, if_pos (by omega)]; simp; omega
  · have q0 : 0 ≤ a → 0 ≤ a / b * b := fun k => Int.mul_nonneg (Int.ediv_nonneg k (by omega)) (by omega)
    omega
  · rw [up2]; split <;> omega
  · rw [up2]; split <;> omega

set_option maxHeartbeats 6400000 in
theorem walk_ExactBetween (a0 a1 : Int) (w : World) (f0 : (Lit.int .i64 a0).wf = true) (f1 : (Lit.int .i32 a1).wf = true) :
    Calls Try.prog 4 #[.int .i64 a0, .int .i32 a1] w fun e w' => e = .returned (.bool true) ∧ Below w.heap.size w w' := by
  have ha := fits_of f0
  have hb := bounds_i32 f1
  obtain ⟨n1, n2⟩ := hb
  obtain ⟨m1, m2⟩ := ha
  clear f0 f1
  by_cases y1 : a1 < 0
  · have y2 : (-a1 == 0) = false := by simp; omega
    have hF := fun w => floor_all a0 (-a1) w ⟨m1, m2⟩ (by omega) (by omega)
    have hC := fun w => ceil_all a0 (-a1) w ⟨m1, m2⟩ (by omega) (by omega)
    obtain ⟨f, c, p, k1, k2, k3, z, p1, p2, p3, ff, fc, c1, c2⟩ := between_of a0 (-a1) ⟨m1, m2⟩ (by omega) (by omega)
    rw [Int.tmod_neg] at z
    have hM := fun w => mul_any f (-a1) w ff (by unfold Fits; omega)
    rw [k1] at hF; rw [k2] at hC; rw [k3] at hM
    have HF := Lib.hid hF
    have HC := Lib.hid hC
    obtain ⟨g1, g2⟩ := ff
    obtain ⟨g3, g4⟩ := fc
    clear k1 k2 k3 hF hC
    by_cases q : Fits p
    · rw [told_in q] at hM
      have HM := Lib.hid hM
      obtain ⟨q1, q2⟩ := q
      clear hM p3
      rcases z with ⟨z1, z2⟩ | ⟨z1, z2⟩
      · go_enter Try.func4, Try.ntmps4
        go_wp2_with (first
          | (go_at_call 15; refine (awake01 _).mono ?_; rintro e w1 ⟨rfl, hb1⟩)
          | (go_at_call 16; (with_reducible refine (HF.out _).mono ?_); rintro e w2 ⟨rfl, rfl⟩)
          | (go_at_call 18; (with_reducible refine (HC.out _).mono ?_); rintro e w2 ⟨rfl, rfl⟩)
          | (go_at_call 24; (with_reducible refine (HM.out _).mono ?_); rintro e w2 ⟨rfl, rfl⟩))
        go_ret
        exact ⟨by first | rfl | simp [*], hb1⟩
      · go_enter Try.func4, Try.ntmps4
        go_wp2_with (first
          | (go_at_call 15; refine (awake01 _).mono ?_; rintro e w1 ⟨rfl, hb1⟩)
          | (go_at_call 16; (with_reducible refine (HF.out _).mono ?_); rintro e w2 ⟨rfl, rfl⟩)
          | (go_at_call 18; (with_reducible refine (HC.out _).mono ?_); rintro e w2 ⟨rfl, rfl⟩)
          | (go_at_call 24; (with_reducible refine (HM.out _).mono ?_); rintro e w2 ⟨rfl, rfl⟩))
        go_ret
        exact ⟨by first | rfl | simp [*], hb1⟩
    · rw [told_out q] at hM; have p4 := p3 q
      have HM := Lib.hid hM
      clear hM p3 q p1 p2
      rcases z with ⟨z1, z2⟩ | ⟨z1, z2⟩
      · go_enter Try.func4, Try.ntmps4
        go_wp2_with (first
          | (go_at_call 15; refine (awake01 _).mono ?_; rintro e w1 ⟨rfl, hb1⟩)
          | (go_at_call 16; (with_reducible refine (HF.out _).mono ?_); rintro e w2 ⟨rfl, rfl⟩)
          | (go_at_call 18; (with_reducible refine (HC.out _).mono ?_); rintro e w2 ⟨rfl, rfl⟩)
          | (go_at_call 24; (with_reducible refine (HM.out _).mono ?_); rintro e w2 ⟨rfl, rfl⟩))
        go_ret
        exact ⟨by first | rfl | simp [*], hb1⟩
      · go_enter Try.func4, Try.ntmps4
        go_wp2_with (first
          | (go_at_call 15; refine (awake01 _).mono ?_; rintro e w1 ⟨rfl, hb1⟩)
          | (go_at_call 16; (with_reducible refine (HF.out _).mono ?_); rintro e w2 ⟨rfl, rfl⟩)
          | (go_at_call 18; (with_reducible refine (HC.out _).mono ?_); rintro e w2 ⟨rfl, rfl⟩)
          | (go_at_call 24; (with_reducible refine (HM.out _).mono ?_); rintro e w2 ⟨rfl, rfl⟩))
        go_ret
        exact ⟨by first | rfl | simp [*], hb1⟩
  · by_cases y2 : a1 = 0
    · subst y2
      have y3 : ((0 : Int) == 0) = true := by simp
      have hF := fun w => floor_all a0 (1) w ⟨m1, m2⟩ (by omega) (by omega)
      have hC := fun w => ceil_all a0 (1) w ⟨m1, m2⟩ (by omega) (by omega)
      obtain ⟨f, c, p, k1, k2, k3, z, p1, p2, p3, ff, fc, c1, c2⟩ := between_of a0 (1) ⟨m1, m2⟩ (by omega) (by omega)
      have hM := fun w => mul_any f (1) w ff (by unfold Fits; omega)
      rw [k1] at hF; rw [k2] at hC; rw [k3] at hM
      have HF := Lib.hid hF
      have HC := Lib.hid hC
      obtain ⟨g1, g2⟩ := ff
      obtain ⟨g3, g4⟩ := fc
      clear k1 k2 k3 hF hC
      by_cases q : Fits p
      · rw [told_in q] at hM
        have HM := Lib.hid hM
        obtain ⟨q1, q2⟩ := q
        clear hM p3
        rcases z with ⟨z1, z2⟩ | ⟨z1, z2⟩
        · go_enter Try.func4, Try.ntmps4
          go_wp2_with (first
            | (go_at_call 15; refine (awake01 _).mono ?_; rintro e w1 ⟨rfl, hb1⟩)
            | (go_at_call 16; (with_reducible refine (HF.out _).mono ?_); rintro e w2 ⟨rfl, rfl⟩)
            | (go_at_call 18; (with_reducible refine (HC.out _).mono ?_); rintro e w2 ⟨rfl, rfl⟩)
            | (go_at_call 24; (with_reducible refine (HM.out _).mono ?_); rintro e w2 ⟨rfl, rfl⟩))
          go_ret
          exact ⟨by first | rfl | simp [*], hb1⟩
        · exact absurd z1 (by simp)
      · rw [told_out q] at hM; have p4 := p3 q
        have HM := Lib.hid hM
        clear hM p3 q p1 p2
        rcases z with ⟨z1, z2⟩ | ⟨z1, z2⟩
        · go_enter Try.func4, Try.ntmps4
          go_wp2_with (first
            | (go_at_call 15; refine (awake01 _).mono ?_; rintro e w1 ⟨rfl, hb1⟩)
            | (go_at_call 16; (with_reducible refine (HF.out _).mono ?_); rintro e w2 ⟨rfl, rfl⟩)
            | (go_at_call 18; (with_reducible refine (HC.out _).mono ?_); rintro e w2 ⟨rfl, rfl⟩)
            | (go_at_call 24; (with_reducible refine (HM.out _).mono ?_); rintro e w2 ⟨rfl, rfl⟩))
          go_ret
          exact ⟨by first | rfl | simp [*], hb1⟩
        · exact absurd z1 (by simp)
    · have y3 : (a1 == 0) = false := by simp [y2]
      have y4 : 0 < a1 := by omega
      clear y2
      have hF := fun w => floor_all a0 (a1) w ⟨m1, m2⟩ (by omega) (by omega)
      have hC := fun w => ceil_all a0 (a1) w ⟨m1, m2⟩ (by omega) (by omega)
      obtain ⟨f, c, p, k1, k2, k3, z, p1, p2, p3, ff, fc, c1, c2⟩ := between_of a0 (a1) ⟨m1, m2⟩ (by omega) (by omega)
      have hM := fun w => mul_any f (a1) w ff (by unfold Fits; omega)
      rw [k1] at hF; rw [k2] at hC; rw [k3] at hM
      have HF := Lib.hid hF
      have HC := Lib.hid hC
      obtain ⟨g1, g2⟩ := ff
      obtain ⟨g3, g4⟩ := fc
      clear k1 k2 k3 hF hC
      by_cases q : Fits p
      · rw [told_in q] at hM
        have HM := Lib.hid hM
        obtain ⟨q1, q2⟩ := q
        clear hM p3
        rcases z with ⟨z1, z2⟩ | ⟨z1, z2⟩
        · go_enter Try.func4, Try.ntmps4
          go_wp2_with (first
            | (go_at_call 15; refine (awake01 _).mono ?_; rintro e w1 ⟨rfl, hb1⟩)
            | (go_at_call 16; (with_reducible refine (HF.out _).mono ?_); rintro e w2 ⟨rfl, rfl⟩)
            | (go_at_call 18; (with_reducible refine (HC.out _).mono ?_); rintro e w2 ⟨rfl, rfl⟩)
            | (go_at_call 24; (with_reducible refine (HM.out _).mono ?_); rintro e w2 ⟨rfl, rfl⟩))
          go_ret
          exact ⟨by first | rfl | simp [*], hb1⟩
        · go_enter Try.func4, Try.ntmps4
          go_wp2_with (first
            | (go_at_call 15; refine (awake01 _).mono ?_; rintro e w1 ⟨rfl, hb1⟩)
            | (go_at_call 16; (with_reducible refine (HF.out _).mono ?_); rintro e w2 ⟨rfl, rfl⟩)
            | (go_at_call 18; (with_reducible refine (HC.out _).mono ?_); rintro e w2 ⟨rfl, rfl⟩)
            | (go_at_call 24; (with_reducible refine (HM.out _).mono ?_); rintro e w2 ⟨rfl, rfl⟩))
          go_ret
          exact ⟨by first | rfl | simp [*], hb1⟩
      · rw [told_out q] at hM; have p4 := p3 q
        have HM := Lib.hid hM
        clear hM p3 q p1 p2
        rcases z with ⟨z1, z2⟩ | ⟨z1, z2⟩
        · go_enter Try.func4, Try.ntmps4
          go_wp2_with (first
            | (go_at_call 15; refine (awake01 _).mono ?_; rintro e w1 ⟨rfl, hb1⟩)
            | (go_at_call 16; (with_reducible refine (HF.out _).mono ?_); rintro e w2 ⟨rfl, rfl⟩)
            | (go_at_call 18; (with_reducible refine (HC.out _).mono ?_); rintro e w2 ⟨rfl, rfl⟩)
            | (go_at_call 24; (with_reducible refine (HM.out _).mono ?_); rintro e w2 ⟨rfl, rfl⟩))
          go_ret
          exact ⟨by first | rfl | simp [*], hb1⟩
        · go_enter Try.func4, Try.ntmps4
          go_wp2_with (first
            | (go_at_call 15; refine (awake01 _).mono ?_; rintro e w1 ⟨rfl, hb1⟩)
            | (go_at_call 16; (with_reducible refine (HF.out _).mono ?_); rintro e w2 ⟨rfl, rfl⟩)
            | (go_at_call 18; (with_reducible refine (HC.out _).mono ?_); rintro e w2 ⟨rfl, rfl⟩)
            | (go_at_call 24; (with_reducible refine (HM.out _).mono ?_); rintro e w2 ⟨rfl, rfl⟩))
          go_ret
          exact ⟨by first | rfl | simp [*], hb1⟩
end Go.Proofs.Ytpmenmcigflkdaa
