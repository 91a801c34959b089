/- Rows of subtasks with their offsets: plain lemmas for TaskOrder. -/
import Derived.Test.YtkmgkggkdmlkeaaAr
namespace Go.Proofs.Ytkmgkggkdmlkeaa
open Go.RowKit
set_option linter.unusedVariables false
set_option linter.unusedSimpArgs false

/-- Subtask i, o slots later, as five cells. -/
def subV (E P o i : Int) : List Value := [.int .i64 i, .int .i64 (Win.rel E P i + o), .int .i64 (Win.dl E P i + o), .int .i64 (Win.bit E P i), .int .i64 (shG o (Win.grp E P i))]
/-- The first k subtasks, number j with offset f j. -/
def rowsV (E P : Int) (f : Nat → Int) : Nat → List Value
  | 0 => []
  | k + 1 => rowsV E P f k ++ subV E P (f k) (k + 1)
theorem rows_len (E P : Int) (f : Nat → Int) (k : Nat) : (rowsV E P f k).length = k * 5 := by
  induction k with
  | zero => rfl
  | succ k ih => rw [rowsV, List.length_append, ih]; simp [subV]; omega
theorem rows_get (E P : Int) (f : Nat → Int) (k j r : Nat) (hj : j < k) (hr : r < 5) : (rowsV E P f k)[j * 5 + r]? = (subV E P (f j) (j + 1))[r]? := by
  induction k with
  | zero => omega
  | succ k ih =>
    rw [rowsV]
    by_cases h : j < k
    · rw [List.getElem?_append_left (by rw [rows_len]; omega)]; exact ih h
    · have e : j = k := by omega
      subst e
      rw [List.getElem?_append_right (by rw [rows_len]; omega), rows_len, show j * 5 + r - j * 5 = r by omega]
theorem rows_congr (E P : Int) (f g : Nat → Int) (k : Nat) (h : ∀ j, j < k → f j = g j) : rowsV E P f k = rowsV E P g k := by
  induction k with
  | zero => rfl
  | succ k ih => rw [rowsV, rowsV, ih (fun j hj => h j (by omega)), h k (by omega)]
/-- One more, of offset o. -/
theorem rows_more (E P o : Int) (f : Nat → Int) (k : Nat) : rowsV E P f k ++ subV E P o (k + 1) = rowsV E P (fun j => if j = k then o else f j) (k + 1) := by
  rw [rowsV, rows_congr E P f (fun j => if j = k then o else f j) k (fun j hj => by rw [if_neg (by omega)])]
  simp
/-- Offsets that never fall keep windows in order. -/
theorem order_next (E P o o' i : Int) (hE : 0 < E) (hP : E ≤ P) (h : o ≤ o') :
    Win.dl E P i + o - Win.bit E P i ≤ Win.rel E P (i + 1) + o' ∧ Win.dl E P i + o < Win.dl E P (i + 1) + o' := by
  have a := Win.next_rel E P i hE
  have b := Win.dl_lt E P i hE hP
  omega
end Go.Proofs.Ytkmgkggkdmlkeaa
