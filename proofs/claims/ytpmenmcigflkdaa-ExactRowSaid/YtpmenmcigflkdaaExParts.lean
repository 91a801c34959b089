/- The document's parts, and the walk of the law ExactParts. -/
import Derived.Test.YtpmenmcigflkdaaLcmRow
import Derived.Test.YtpmenmcigflkdaaFrame
namespace Go.Proofs.Ytpmenmcigflkdaa
open Go.RowKit
set_option linter.unusedVariables false
set_option linter.unusedSimpArgs false

set_option maxHeartbeats 800000 in
theorem rlcm_empty (A : Option Addr) (cap : Nat) (w : World) : Calls Try.prog 23 #[.slice A 0 cap] w fun e w' => e = .returned (.tuple #[.int .i64 1, .int .i64 0]) ∧ Below w.heap.size w w' := by
  go_enter Try.func23, Try.ntmps23
  go_wp2
  go_loopw [4, 5] (fun s4 s5 wr => s4 = .int .i64 1 ∧ s5 = .int .i64 0 ∧ wr = w) (fun _ _ _ => 0)
  case atStart => exact ⟨rfl, rfl, rfl⟩
  case round =>
    obtain ⟨rfl, rfl, rfl⟩ := hrel
    go_wp2
    try rw [Exit.noGoto_ret]
    go_ret2
    exact ⟨rfl, Below.refl _ _⟩

set_option maxHeartbeats 800000 in
theorem rfloor_every (a b : Int) (w : World) (ha : Fits a) (hb : Fits b) : Calls Try.prog 17 #[.int .i64 a, .int .i64 b] w fun e w' => e = .returned (.tuple #[.int .i64 (partS (a / b) b).1, .int .i64 (partS (a / b) b).2]) ∧ w = w' := by
  unfold Fits at hb ha
  obtain ⟨ha1, ha2⟩ := ha
  by_cases h : b = 0
  · subst h
    have H : Hid (partS (a / 0) 0 = (0, 17)) := by show _ = _; unfold partS; rw [if_pos rfl]
    go_enter Try.func17, Try.ntmps17
    go_wp2
    go_ret2
    exact ⟨by rw [H.out]; rfl, rfl⟩
  · have hz : (b == 0) = false := by simp [h]
    by_cases h2 : b < 0
    · have H : Hid (partS (a / b) b = (0, 1)) := by show _ = _; unfold partS; rw [if_neg h, if_pos h2]
      clear h
      go_enter Try.func17, Try.ntmps17
      go_wp2
      go_ret2
      exact ⟨by rw [H.out]; rfl, rfl⟩
    · obtain ⟨f1, f2, fq, fu⟩ := tdiv_facts a b (by omega)
      have ht : a.tmod b = a - a.tdiv b * b := by rw [Int.tmod_def, Int.mul_comm]
      have b3 : -9223372036854775808 ≤ a.tdiv b := by by_cases h : 0 ≤ a; (· have := f1 h; omega); (· have := f2 (by omega); omega)
      have b4 : a.tdiv b ≤ 9223372036854775807 := by by_cases h : 0 ≤ a; (· have := f1 h; omega); (· have := f2 (by omega); omega)
      have b5 : a < a.tdiv b * b → -9223372036854775807 ≤ a.tdiv b := fun h => by
        by_cases k : 0 ≤ a
        · have := f1 k; omega
        · have := f2 (by omega)
          by_cases z : a.tdiv b = -9223372036854775808
          · rw [z] at h; omega
          · omega
      have b6 : a.tdiv b * b < a → a.tdiv b ≤ 9223372036854775806 := fun h => by
        by_cases k : 0 ≤ a
        · have := f1 k
          by_cases z : a.tdiv b = 9223372036854775807
          · rw [z] at h; omega
          · omega
        · have := f2 (by omega); omega
      have hw : Hid (wrap64 (a.tdiv b) = a.tdiv b) := IntWalk.wrap64_in _ ⟨b3, b4⟩
      have h3 : 1 ≤ b := by omega
      by_cases t : a < a.tdiv b * b
      · have tt : a.tmod b < 0 := by omega
        have H : Hid (partS (a / b) b = (a.tdiv b - 1, 0)) := by show _ = _; unfold partS; rw [if_neg h, if_neg h2, fq, if_pos t]
        have c5 := b5 t
        clear f1 f2 fq fu ht b5 b6 t h
        go_enter Try.func17, Try.ntmps17
        go_wp2
        go_ret2
        exact ⟨by rw [H.out]; rfl, rfl⟩
      · have tt : ¬ a.tmod b < 0 := by omega
        have H : Hid (partS (a / b) b = (a.tdiv b, 0)) := by show _ = _; unfold partS; rw [if_neg h, if_neg h2, fq, if_neg t]
        clear f1 f2 fq fu ht b5 b6 t h
        go_enter Try.func17, Try.ntmps17
        go_wp2
        go_ret2
        exact ⟨by rw [H.out]; rfl, rfl⟩

set_option maxHeartbeats 800000 in
theorem rceil_every (a b : Int) (w : World) (ha : Fits a) (hb : Fits b) : Calls Try.prog 19 #[.int .i64 a, .int .i64 b] w fun e w' => e = .returned (.tuple #[.int .i64 (partS (Win.up a b) b).1, .int .i64 (partS (Win.up a b) b).2]) ∧ w = w' := by
  unfold Fits at hb ha
  obtain ⟨ha1, ha2⟩ := ha
  by_cases h : b = 0
  · subst h
    have H : Hid (partS (Win.up a 0) 0 = (0, 17)) := by show _ = _; unfold partS; rw [if_pos rfl]
    go_enter Try.func19, Try.ntmps19
    go_wp2
    go_ret2
    exact ⟨by rw [H.out]; rfl, rfl⟩
  · have hz : (b == 0) = false := by simp [h]
    by_cases h2 : b < 0
    · have H : Hid (partS (Win.up a b) b = (0, 1)) := by show _ = _; unfold partS; rw [if_neg h, if_pos h2]
      clear h
      go_enter Try.func19, Try.ntmps19
      go_wp2
      go_ret2
      exact ⟨by rw [H.out]; rfl, rfl⟩
    · obtain ⟨f1, f2, fq, fu⟩ := tdiv_facts a b (by omega)
      have ht : a.tmod b = a - a.tdiv b * b := by rw [Int.tmod_def, Int.mul_comm]
      have b3 : -9223372036854775808 ≤ a.tdiv b := by by_cases h : 0 ≤ a; (· have := f1 h; omega); (· have := f2 (by omega); omega)
      have b4 : a.tdiv b ≤ 9223372036854775807 := by by_cases h : 0 ≤ a; (· have := f1 h; omega); (· have := f2 (by omega); omega)
      have b5 : a < a.tdiv b * b → -9223372036854775807 ≤ a.tdiv b := fun h => by
        by_cases k : 0 ≤ a
        · have := f1 k; omega
        · have := f2 (by omega)
          by_cases z : a.tdiv b = -9223372036854775808
          · rw [z] at h; omega
          · omega
      have b6 : a.tdiv b * b < a → a.tdiv b ≤ 9223372036854775806 := fun h => by
        by_cases k : 0 ≤ a
        · have := f1 k
          by_cases z : a.tdiv b = 9223372036854775807
          · rw [z] at h; omega
          · omega
        · have := f2 (by omega); omega
      have hw : Hid (wrap64 (a.tdiv b) = a.tdiv b) := IntWalk.wrap64_in _ ⟨b3, b4⟩
      have h3 : 1 ≤ b := by omega
      by_cases t : a.tdiv b * b < a
      · have tt : 0 < a.tmod b := by omega
        have H : Hid (partS (Win.up a b) b = (a.tdiv b + 1, 0)) := by show _ = _; unfold partS; rw [if_neg h, if_neg h2, fu, if_pos t]
        have c5 := b6 t
        clear f1 f2 fq fu ht b5 b6 t h
        go_enter Try.func19, Try.ntmps19
        go_wp2
        go_ret2
        exact ⟨by rw [H.out]; rfl, rfl⟩
      · have tt : ¬ 0 < a.tmod b := by omega
        have H : Hid (partS (Win.up a b) b = (a.tdiv b, 0)) := by show _ = _; unfold partS; rw [if_neg h, if_neg h2, fu, if_neg t]
        clear f1 f2 fq fu ht b5 b6 t h
        go_enter Try.func19, Try.ntmps19
        go_wp2
        go_ret2
        exact ⟨by rw [H.out]; rfl, rfl⟩

end Go.Proofs.Ytpmenmcigflkdaa
