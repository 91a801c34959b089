/- Subtasks as plain structures; a row of them as cells; those that arrive; those that a cut leaves. No function of the program is named. -/
import Derived.Test.YtkmgkggkdmlkeaaCt
namespace Go.Proofs.Ytkmgkggkdmlkeaa
open Go.RowKit
set_option linter.unusedVariables false
set_option linter.unusedSimpArgs false

/-- A subtask: number, release, deadline, bit, group. -/
structure Sb where
  i : Int
  r : Int
  d : Int
  b : Int
  g : Int
def Sb.zero : Sb := ⟨0, 0, 0, 0, 0⟩
def Sb.vals (x : Sb) : List Value := [.int .i64 x.i, .int .i64 x.r, .int .i64 x.d, .int .i64 x.b, .int .i64 x.g]
def Sb.agg (x : Sb) : Value := .agg #[.int .i64 x.i, .int .i64 x.r, .int .i64 x.d, .int .i64 x.b, .int .i64 x.g]
def flat : List Sb → List Value
  | [] => []
  | x :: l => x.vals ++ flat l
theorem flat_app (a b : List Sb) : flat (a ++ b) = flat a ++ flat b := by
  induction a with
  | nil => rfl
  | cons x a ih => rw [List.cons_append, flat, flat, ih, List.append_assoc]
theorem flat_len (l : List Sb) : (flat l).length = l.length * 5 := by
  induction l with
  | nil => rfl
  | cons x l ih => rw [flat, List.length_append, ih]; simp [Sb.vals]; omega
theorem flat_one (x : Sb) : flat [x] = x.vals := by simp [flat]
theorem flat_take (n : Nat) (l : List Sb) : (flat l).take (n * 5) = flat (l.take n) := by
  induction l generalizing n with
  | nil => simp [flat]
  | cons x l ih =>
    cases n with
    | zero => simp [flat]
    | succ n =>
      rw [List.take_succ_cons, flat, flat, ← ih n, show (n + 1) * 5 = x.vals.length + n * 5 by simp [Sb.vals]; omega, List.take_length_add_append]
theorem flat_get (l : List Sb) (j r : Nat) (x : Sb) (h : l[j]? = some x) (hr : r < 5) : (flat l)[j * 5 + r]? = x.vals[r]? := by
  induction l generalizing j with
  | nil => simp at h
  | cons y l ih =>
    cases j with
    | zero =>
      simp at h; subst h
      rw [flat, List.getElem?_append_left (by simp [Sb.vals]; omega)]; simp
    | succ j =>
      rw [flat, List.getElem?_append_right (by simp [Sb.vals]; omega), show (j + 1) * 5 + r - y.vals.length = j * 5 + r by simp [Sb.vals]; omega]
      exact ih j (by simpa using h)

/-- Those that arrive. -/
def sbs (E P a off i : Int) : Nat → List Sb
  | 0 => []
  | k + 1 => sbs E P a off i k ++ [⟨i + k, Win.rel E P (i + k) + aoff E P a off i (k + 1), Win.dl E P (i + k) + aoff E P a off i (k + 1), Win.bit E P (i + k), shG (aoff E P a off i (k + 1)) (Win.grp E P (i + k))⟩]
theorem asub_flat (E P a off i : Int) (k : Nat) : asub E P a off i k = flat (sbs E P a off i k) := by
  induction k with
  | zero => rfl
  | succ k ih => rw [sbs, flat_app, flat_one, ← ih]; rfl
theorem sbs_len (E P a off i : Int) (k : Nat) : (sbs E P a off i k).length = k := by
  induction k with
  | zero => rfl
  | succ k ih => rw [sbs, List.length_append, ih]; rfl

/-- Releases never fall, and none is behind m. -/
def Up (m : Int) (L : List Sb) : Prop := L.Pairwise (fun x y => x.r ≤ y.r) ∧ ∀ x ∈ L, x.r ≤ m
theorem Up.nil (m : Int) : Up m [] := ⟨List.Pairwise.nil, fun _ h => by cases h⟩
theorem Up.sub {m : Int} {L K : List Sb} (h : Up m L) (k : K.Sublist L) : Up m K := ⟨h.1.sublist k, fun x hx => h.2 x (k.subset hx)⟩
theorem rel_up (E P : Int) (hE : 0 < E) (hP : 0 ≤ P) {x y : Int} (h : x ≤ y) : Win.rel E P x ≤ Win.rel E P y := by
  unfold Win.rel
  exact Int.ediv_le_ediv hE (Int.mul_le_mul_of_nonneg_right (by omega) hP)
theorem up_arrive (E P a off i : Int) (hE : 0 < E) (hP : 0 ≤ P) (L : List Sb) (h : Up (Win.rel E P i + off) L) (k : Nat) :
    Up (Win.rel E P (i + k) + aoff E P a off i k) (L ++ sbs E P a off i k) := by
  induction k with
  | zero => simpa [sbs, aoff] using h
  | succ k ih =>
    have s1 : aoff E P a off i k ≤ aoff E P a off i (k + 1) := by
      show _ ≤ aoff E P a off i k + max _ 0; omega
    have s2 := rel_up E P hE hP (show i + (k : Int) ≤ i + ((k + 1 : Nat) : Int) by omega)
    rw [sbs, ← List.append_assoc]
    refine ⟨List.pairwise_append.2 ⟨ih.1, List.pairwise_singleton _ _, fun x hx y hy => ?_⟩, fun x hx => ?_⟩
    · rw [List.mem_singleton] at hy; subst hy
      have := ih.2 x hx
      show x.r ≤ Win.rel E P (i + k) + aoff E P a off i (k + 1)
      omega
    · rcases List.mem_append.1 hx with h1 | h1
      · have := ih.2 x h1; omega
      · rw [List.mem_singleton] at h1; subst h1
        show Win.rel E P (i + k) + aoff E P a off i (k + 1) ≤ _
        omega
/-- What a cut leaves. -/
def cutL (a : Int) (L : List Sb) : List Sb := L.filter (fun x => decide (x.r ≤ a))
theorem cut_take (a : Int) (L : List Sb) (h : L.Pairwise (fun x y => x.r ≤ y.r)) (n : Nat) (hn : n ≤ L.length) (h1 : ∀ j x, j < n → L[j]? = some x → x.r ≤ a) (h2 : ∀ x, L[n]? = some x → a < x.r) : cutL a L = L.take n := by
  induction L generalizing n with
  | nil => simp [cutL]
  | cons y L ih =>
    cases n with
    | zero =>
      have hy := h2 y rfl
      rw [List.take_zero, cutL, List.filter_eq_nil_iff]
      intro x hx
      rw [decide_eq_true_iff]
      rcases List.mem_cons.1 hx with rfl | hx
      · omega
      · have := (List.pairwise_cons.1 h).1 x hx; omega
    | succ n =>
      have hy := h1 0 y (by omega) rfl
      rw [List.take_succ_cons, cutL, List.filter_cons_of_pos (by simpa using hy)]
      congr 1
      exact ih (List.pairwise_cons.1 h).2 n (by simpa using hn) (fun j x hj hx => h1 (j + 1) x (by omega) (by simpa using hx)) (fun x hx => h2 x (by simpa using hx))
theorem cut_next (a : Int) (L : List Sb) (j : Nat) (x : Sb) (h : L[j]? = some x) : cutL a (L.take (j + 1)) = cutL a (L.take j) ++ (if x.r ≤ a then [x] else []) := by
  have hj := (List.getElem?_eq_some_iff.1 h).1
  rw [List.take_add_one, h, Option.toList_some, cutL, cutL, List.filter_append]
  congr 1
  by_cases hx : x.r ≤ a <;> simp [hx]
end Go.Proofs.Ytkmgkggkdmlkeaa
