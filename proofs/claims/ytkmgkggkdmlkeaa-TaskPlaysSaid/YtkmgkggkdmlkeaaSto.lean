/- Shift and Copy of a stepper that stands at a subtask. -/
import Derived.Test.YtkmgkggkdmlkeaaNw
namespace Go.Proofs.Ytkmgkggkdmlkeaa
open Go.RowKit
set_option linter.unusedVariables false
set_option linter.unusedSimpArgs false

theorem shG_zero (g : Int) : shG 0 g = g := by unfold shG; split <;> omega
theorem st_size {w : World} {b : Nat} {E P off n x0 x1 x2 x3 x4 : Int} (h : St w b E P off n x0 x1 x2 x3 x4) : b < w.heap.size := h.2.2.2.2.2.2.2.2.2.2.2.2.2.2.2.2.2.2.2.2

theorem Sn.keep {w w' : World} {b c : Nat} {E P off n : Int} (h : Sn w b E P off n) (k : Only c w w') (hc : b ≠ c) : Sn w' b E P off n := St.keep h k hc
theorem Sn.keepb {w w' : World} {b : Nat} {E P off n : Int} (h : Sn w b E P off n) (k : Below w.heap.size w w') : Sn w' b E P off n := St.keepb h k
theorem shift_yes_sn (b : Nat) (E P off n s : Int) (w : World) (h : Sn w b E P off n) (p : 1 ≤ P) (o0 : 0 ≤ off) (o1 : off ≤ 2305843009213693952) (s0 : 0 ≤ s) (s1 : s ≤ 2305843009213693952 - off) :
    Calls Try.prog 38 #[.pointer (some ⟨b, 0, none⟩), .int .i64 s] w fun e w' => e = .returned (.bool true) ∧ Sn w' b E P (off + s) n ∧ Only b w w' := shift_yes b E P off n _ _ _ _ _ s w h p o0 o1 s0 s1
theorem shift_no_sn (b : Nat) (E P off n s : Int) (w : World) (h : Sn w b E P off n) (p : 1 ≤ P) (o0 : 0 ≤ off) (o1 : off ≤ 2305843009213693952) (hs : s < 0 ∨ 2305843009213693952 - off < s) :
    Calls Try.prog 38 #[.pointer (some ⟨b, 0, none⟩), .int .i64 s] w fun e w' => e = .returned (.bool false) ∧ Below w.heap.size w w' := shift_no b P off s w h.2.1 h.2.2.1 p o0 o1 hs
/-- The offset behind a shift. -/
def shOff (off s : Int) : Int := if 0 ≤ s ∧ s ≤ 2305843009213693952 - off then off + s else off
theorem shOff_bd (off s : Int) (o0 : 0 ≤ off) (o1 : off ≤ 2305843009213693952) : 0 ≤ shOff off s ∧ shOff off s ≤ 2305843009213693952 := by
  unfold shOff; split <;> omega
theorem shift_sn (b : Nat) (E P off n s : Int) (w : World) (h : Sn w b E P off n) (p : 1 ≤ P) (o0 : 0 ≤ off) (o1 : off ≤ 2305843009213693952) :
    Calls Try.prog 38 #[.pointer (some ⟨b, 0, none⟩), .int .i64 s] w fun e w' => e = .returned (.bool (decide (0 ≤ s ∧ s ≤ 2305843009213693952 - off))) ∧ Sn w' b E P (shOff off s) n ∧ Only b w w' := by
  by_cases c : 0 ≤ s ∧ s ≤ 2305843009213693952 - off
  · refine (shift_yes_sn b E P off n s w h p o0 o1 c.1 c.2).mono ?_
    rintro e w' ⟨rfl, h1, h2⟩
    refine ⟨by simp [c], ?_, h2⟩
    unfold shOff; rw [if_pos c]; exact h1
  · refine (shift_no_sn b E P off n s w h p o0 o1 (by omega)).mono ?_
    rintro e w' ⟨rfl, h1⟩
    refine ⟨by simp [c], ?_, only_of_below h1⟩
    unfold shOff; rw [if_neg c]; exact h.keepb h1
end Go.Proofs.Ytkmgkggkdmlkeaa
