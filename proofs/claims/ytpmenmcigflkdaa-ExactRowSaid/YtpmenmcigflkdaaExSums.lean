/- Contracts of the document's sums, and the walk of the law ExactSums. -/
import Derived.Test.YtpmenmcigflkdaaExBack
namespace Go.Proofs.Ytpmenmcigflkdaa
open Go.RowKit
set_option linter.unusedVariables false
set_option linter.unusedSimpArgs false

set_option maxHeartbeats 1600000 in
theorem radd_any (a b : Int) (w : World) (ha : Fits a) (hb : Fits b) : Calls Try.prog 35 #[.int .i64 a, .int .i64 b] w fun e w' => e = .returned (.tuple #[.int .i64 (told (a + b)).1, .int .i64 (told (a + b)).2]) ∧ w = w' := by
  obtain ⟨a1, a2⟩ := ha
  obtain ⟨b1, b2⟩ := hb
  by_cases p : 0 < b
  · by_cases q : 9223372036854775807 - b < a
    · have H : Hid (told (a + b) = (0, 16)) := told_out (by unfold Fits; omega)
      go_enter Try.func35, Try.ntmps35
      go_wp2
      go_ret2
      exact ⟨by rw [H.out]; rfl, rfl⟩
    · have H : Hid (told (a + b) = (a + b, 0)) := told_in (by unfold Fits; omega)
      go_enter Try.func35, Try.ntmps35
      go_wp2
      go_ret2
      exact ⟨by rw [H.out]; rfl, rfl⟩
  · by_cases z : b < 0
    · by_cases q : a < -9223372036854775808 - b
      · have H : Hid (told (a + b) = (0, 16)) := told_out (by unfold Fits; omega)
        go_enter Try.func35, Try.ntmps35
        go_wp2
        go_ret2
        exact ⟨by rw [H.out]; rfl, rfl⟩
      · have H : Hid (told (a + b) = (a + b, 0)) := told_in (by unfold Fits; omega)
        go_enter Try.func35, Try.ntmps35
        go_wp2
        go_ret2
        exact ⟨by rw [H.out]; rfl, rfl⟩
    · have H : Hid (told (a + b) = (a + b, 0)) := told_in (by unfold Fits; omega)
      go_enter Try.func35, Try.ntmps35
      go_wp2
      go_ret2
      exact ⟨by rw [H.out]; rfl, rfl⟩

set_option maxHeartbeats 1600000 in
theorem rsub_any (a b : Int) (w : World) (ha : Fits a) (hb : Fits b) : Calls Try.prog 37 #[.int .i64 a, .int .i64 b] w fun e w' => e = .returned (.tuple #[.int .i64 (told (a - b)).1, .int .i64 (told (a - b)).2]) ∧ w = w' := by
  obtain ⟨a1, a2⟩ := ha
  obtain ⟨b1, b2⟩ := hb
  by_cases z : b < 0
  · by_cases q : 9223372036854775807 + b < a
    · have H : Hid (told (a - b) = (0, 16)) := told_out (by unfold Fits; omega)
      go_enter Try.func37, Try.ntmps37
      go_wp2
      go_ret2
      exact ⟨by rw [H.out]; rfl, rfl⟩
    · have H : Hid (told (a - b) = (a - b, 0)) := told_in (by unfold Fits; omega)
      go_enter Try.func37, Try.ntmps37
      go_wp2
      go_ret2
      exact ⟨by rw [H.out]; rfl, rfl⟩
  · by_cases p : 0 < b
    · by_cases q : a < -9223372036854775808 + b
      · have H : Hid (told (a - b) = (0, 16)) := told_out (by unfold Fits; omega)
        go_enter Try.func37, Try.ntmps37
        go_wp2
        go_ret2
        exact ⟨by rw [H.out]; rfl, rfl⟩
      · have H : Hid (told (a - b) = (a - b, 0)) := told_in (by unfold Fits; omega)
        go_enter Try.func37, Try.ntmps37
        go_wp2
        go_ret2
        exact ⟨by rw [H.out]; rfl, rfl⟩
    · have H : Hid (told (a - b) = (a - b, 0)) := told_in (by unfold Fits; omega)
      go_enter Try.func37, Try.ntmps37
      go_wp2
      go_ret2
      exact ⟨by rw [H.out]; rfl, rfl⟩

/-- When a product of two numbers above nought passes a bound: by a quotient. -/
theorem over_div (x c N : Int) (hc : 0 < c) : N / c < x ↔ N < x * c := by
  have l1 := Win.fl_le N c hc
  have l2 := Win.lt_fl N c hc
  constructor
  · intro h
    have := Int.mul_le_mul_of_nonneg_right (show N / c + 1 ≤ x by omega) (show 0 ≤ c by omega)
    rw [Int.add_mul, Int.one_mul] at this
    omega
  · intro h
    exact Win.fl_lt hc h

set_option maxHeartbeats 3200000 in
theorem rmul_any (a b : Int) (w : World) (ha : Fits a) (hb : Fits b) : Calls Try.prog 38 #[.int .i64 a, .int .i64 b] w fun e w' => e = .returned (.tuple #[.int .i64 (told (a * b)).1, .int .i64 (told (a * b)).2]) ∧ w = w' := by
  obtain ⟨a1, a2⟩ := ha
  obtain ⟨b1, b2⟩ := hb
  by_cases z1 : a = 0
  · subst z1
    have H : Hid (told (0 * b) = (0, 0)) := by show _ = _; rw [Int.zero_mul]; exact told_in (by unfold Fits; omega)
    have z : ((0 : Int) == 0) = true := by simp
    go_enter Try.func38, Try.ntmps38
    go_wp2
    go_ret2
    exact ⟨by rw [H.out]; rfl, rfl⟩
  · have y1 : (a == 0) = false := by simp [z1]
    by_cases z2 : b = 0
    · subst z2
      have H : Hid (told (a * 0) = (0, 0)) := by show _ = _; rw [Int.mul_zero]; exact told_in (by unfold Fits; omega)
      have z : ((0 : Int) == 0) = true := by simp
      go_enter Try.func38, Try.ntmps38
      go_wp2
      go_ret2
      exact ⟨by rw [H.out]; rfl, rfl⟩
    · have y2 : (b == 0) = false := by simp [z2]
      by_cases pa : 0 < a <;> by_cases pb : 0 < b
      · have na : ¬ a < 0 := by omega
        have nb : ¬ b < 0 := by omega
        have h1 : 1 ≤ b := by omega
        have od := over_div a b 9223372036854775807 pb
        have m0 : 0 ≤ a * b := Int.mul_nonneg (by omega) (by omega)
        by_cases q : 9223372036854775807 / b < a
        · have H : Hid (told (a * b) = (0, 16)) := told_out (by unfold Fits; omega)
          clear od m0 z1 z2
          go_enter Try.func38, Try.ntmps38
          go_wp2
          go_ret2
          exact ⟨by rw [H.out]; rfl, rfl⟩
        · have hf : Fits (a * b) := by unfold Fits; omega
          have H : Hid (told (a * b) = (a * b, 0)) := told_in hf
          obtain ⟨f1, f2⟩ := hf
          clear od m0 z1 z2
          go_enter Try.func38, Try.ntmps38
          go_wp2
          go_ret2
          exact ⟨by rw [H.out]; rfl, rfl⟩
      · have nb : b < 0 := by omega
        have na : ¬ a < 0 := by omega
        have h1 : 1 ≤ a := by omega
        have od : b < wrap64 (-Int.tdiv 9223372036854775808 a) ↔ a * b < -9223372036854775808 := by
          have e : wrap64 (-Int.tdiv 9223372036854775808 a) = -(9223372036854775808 / a) := by
            rw [Int.tdiv_eq_ediv_of_nonneg (by omega)]
            have g0 : 0 ≤ 9223372036854775808 / a := Int.ediv_nonneg (by omega) (by omega)
            have g1 : 9223372036854775808 / a ≤ 9223372036854775808 := Int.ediv_le_self _ (by omega)
            exact IntWalk.wrap64_in _ ⟨by omega, by omega⟩
          have o := over_div (-b) a 9223372036854775808 (by omega)
          have m : -b * a = -(a * b) := by rw [Int.neg_mul, Int.mul_comm]
          rw [m] at o
          rw [e]; omega
        have m0 : a * b ≤ 0 := Int.mul_nonpos_of_nonneg_of_nonpos (by omega) (by omega)
        by_cases q : b < wrap64 (-Int.tdiv 9223372036854775808 a)
        · have H : Hid (told (a * b) = (0, 16)) := told_out (by unfold Fits; omega)
          clear od m0 z1 z2
          go_enter Try.func38, Try.ntmps38
          go_wp2
          go_ret2
          exact ⟨by rw [H.out]; rfl, rfl⟩
        · have hf : Fits (a * b) := by unfold Fits; omega
          have H : Hid (told (a * b) = (a * b, 0)) := told_in hf
          obtain ⟨f1, f2⟩ := hf
          clear od m0 z1 z2
          go_enter Try.func38, Try.ntmps38
          go_wp2
          go_ret2
          exact ⟨by rw [H.out]; rfl, rfl⟩
      · have na : a < 0 := by omega
        have nb : ¬ b < 0 := by omega
        have h1 : 1 ≤ b := by omega
        have od : a < wrap64 (-Int.tdiv 9223372036854775808 b) ↔ a * b < -9223372036854775808 := by
          have e : wrap64 (-Int.tdiv 9223372036854775808 b) = -(9223372036854775808 / b) := by
            rw [Int.tdiv_eq_ediv_of_nonneg (by omega)]
            have g0 : 0 ≤ 9223372036854775808 / b := Int.ediv_nonneg (by omega) (by omega)
            have g1 : 9223372036854775808 / b ≤ 9223372036854775808 := Int.ediv_le_self _ (by omega)
            exact IntWalk.wrap64_in _ ⟨by omega, by omega⟩
          have o := over_div (-a) b 9223372036854775808 (by omega)
          have m : -a * b = -(a * b) := Int.neg_mul _ _
          rw [m] at o
          rw [e]; omega
        have m0 : a * b ≤ 0 := Int.mul_nonpos_of_nonpos_of_nonneg (by omega) (by omega)
        by_cases q : a < wrap64 (-Int.tdiv 9223372036854775808 b)
        · have H : Hid (told (a * b) = (0, 16)) := told_out (by unfold Fits; omega)
          clear od m0 z1 z2
          go_enter Try.func38, Try.ntmps38
          go_wp2
          go_ret2
          exact ⟨by rw [H.out]; rfl, rfl⟩
        · have hf : Fits (a * b) := by unfold Fits; omega
          have H : Hid (told (a * b) = (a * b, 0)) := told_in hf
          obtain ⟨f1, f2⟩ := hf
          clear od m0 z1 z2
          go_enter Try.func38, Try.ntmps38
          go_wp2
          go_ret2
          exact ⟨by rw [H.out]; rfl, rfl⟩
      · have na : a < 0 := by omega
        have nb : b < 0 := by omega
        have od : a < wrap64 (Int.tdiv 9223372036854775807 b) ↔ 9223372036854775807 < a * b := by
          have e : Int.tdiv 9223372036854775807 b = -(9223372036854775807 / (-b)) := by
            rw [show b = -(-b) by omega, Int.tdiv_neg, Int.tdiv_eq_ediv_of_nonneg (by omega)]; simp
          have g0 : 0 ≤ 9223372036854775807 / (-b) := Int.ediv_nonneg (by omega) (by omega)
          have g1 : 9223372036854775807 / (-b) ≤ 9223372036854775807 := Int.ediv_le_self _ (by omega)
          have o := over_div (-a) (-b) 9223372036854775807 (by omega)
          have m : -a * -b = a * b := Int.neg_mul_neg _ _
          rw [m] at o
          rw [e, IntWalk.wrap64_in _ ⟨by omega, by omega⟩]; omega
        have m0 : 0 ≤ a * b := Int.mul_nonneg_of_nonpos_of_nonpos (by omega) (by omega)
        by_cases q : a < wrap64 (Int.tdiv 9223372036854775807 b)
        · have H : Hid (told (a * b) = (0, 16)) := told_out (by unfold Fits; omega)
          clear od m0 z1 z2
          go_enter Try.func38, Try.ntmps38
          go_wp2
          go_ret2
          exact ⟨by rw [H.out]; rfl, rfl⟩
        · have hf : Fits (a * b) := by unfold Fits; omega
          have H : Hid (told (a * b) = (a * b, 0)) := told_in hf
          obtain ⟨f1, f2⟩ := hf
          clear od m0 z1 z2
          go_enter Try.func38, Try.ntmps38
          go_wp2
          go_ret2
          exact ⟨by rw [H.out]; rfl, rfl⟩

set_option maxHeartbeats 3200000 in
theorem walk_ExactSums (a0 a1 : Int) (w : World) (f0 : (Lit.int .i64 a0).wf = true) (f1 : (Lit.int .i64 a1).wf = true) :
    Calls Try.prog 11 #[.int .i64 a0, .int .i64 a1] w fun e w' => e = .returned (.bool true) ∧ Below w.heap.size w w' := by
  have ha := fits_of f0
  have hb := fits_of f1
  clear f0 f1
  have h1 := fun w => add_any a0 a1 w ha hb
  have h2 := fun w => radd_any a0 a1 w ha hb
  have h3 := fun w => sub_any a0 a1 w ha hb
  have h4 := fun w => rsub_any a0 a1 w ha hb
  have h5 := fun w => mul_any a0 a1 w ha hb
  have h6 := fun w => rmul_any a0 a1 w ha hb
  generalize told (a0 + a1) = s at *
  generalize told (a0 - a1) = d at *
  generalize told (a0 * a1) = p at *
  obtain ⟨s1, s2⟩ := s
  obtain ⟨d1, d2⟩ := d
  obtain ⟨p1, p2⟩ := p
  have z1 : (s1 == s1) = true := by simp
  have z2 : (s2 == s2) = true := by simp
  have z3 : (d1 == d1) = true := by simp
  have z4 : (d2 == d2) = true := by simp
  have z5 : (p1 == p1) = true := by simp
  have z6 : (p2 == p2) = true := by simp
  have H1 := Lib.hid h1
  have H2 := Lib.hid h2
  have H3 := Lib.hid h3
  have H4 := Lib.hid h4
  have H5 := Lib.hid h5
  have H6 := Lib.hid h6
  clear h1 h2 h3 h4 h5 h6 ha hb
  go_enter Try.func11, Try.ntmps11
  go_wp2_with (first
    | (go_at_call 15; refine (awake01 _).mono ?_; rintro e w1 ⟨rfl, hb1⟩)
    | (go_at_call 34; (with_reducible refine (H1.out _).mono ?_); rintro e w2 ⟨rfl, rfl⟩)
    | (go_at_call 35; (with_reducible refine (H2.out _).mono ?_); rintro e w2 ⟨rfl, rfl⟩)
    | (go_at_call 36; (with_reducible refine (H3.out _).mono ?_); rintro e w2 ⟨rfl, rfl⟩)
    | (go_at_call 37; (with_reducible refine (H4.out _).mono ?_); rintro e w2 ⟨rfl, rfl⟩)
    | (go_at_call 24; (with_reducible refine (H5.out _).mono ?_); rintro e w2 ⟨rfl, rfl⟩)
    | (go_at_call 38; (with_reducible refine (H6.out _).mono ?_); rintro e w2 ⟨rfl, rfl⟩))
  go_ret
  exact ⟨by first | rfl | simp [*], hb1⟩
end Go.Proofs.Ytpmenmcigflkdaa
