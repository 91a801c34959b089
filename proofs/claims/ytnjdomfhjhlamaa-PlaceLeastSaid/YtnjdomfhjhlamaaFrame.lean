/- What the rows of this seat's laws share: arguments opened to values, whatever the law. No function of the program is named. -/
import Derived.Test.YtnjdomfhjhlamaaRows
import Derived.WalkKit
import Derived.ProofKit
import Derived.OpenShut
import Derived.ShutString
import Derived.ChangeOld
import Derived.Below
import Derived.Lib.SmallJoins
namespace Go.Proofs.Ytnjdomfhjhlamaa
open Go.ChangeShapes Go.WideShapes Go.ChangeAt Go.RowKit Go.Joins Go.Deep
set_option linter.unusedVariables false
set_option linter.unusedSimpArgs false

theorem ownK : ownKnob Try.prog.godebug = none := by kernel_rfl
theorem laidK : laidOutB Try.prog = true := by kernel_rfl

section
variable {H : Type} {enc : TypeId × Value → H} {P : Program} {w : World} {base : Nat} {spare : Nat → Bool} {held : Bool}
theorem agg_of {r : Reach} {b0 t e n : Nat} {v : Value} (ht : P.underlying t = some (.array n e)) (hv : Value.okWide P w r b0 t v) : ∃ cs, v = .agg cs ∧ cs.size = P.cellsOf t := by
  simp only [Value.okWide, ht] at hv
  obtain ⟨cs, h1, h2, _⟩ := hv
  exact ⟨cs, h1, h2⟩
/-- An array of two integers by value. -/
theorem open_arr2 {r : Reach} {b0 t e : Nat} {k : IntKind} {v : Value} {d : DataW H} {p : List MemPlace} (ht : P.underlying t = some (.array 2 e)) (he : P.underlying e = some (.int k)) (hC : P.cellsOf t = 2) (hce : P.cellsOf e = 1)
    (hv : Value.okWide P w r b0 t v) (h : DataW.Trod enc P w base spare held t v d p) : ∃ x0 x1 : Int, v = .agg #[.int k x0, .int k x1] ∧ (Lit.int k x0).wf = true ∧ (Lit.int k x1).wf = true := by
  obtain ⟨cs, rfl, hsz⟩ := agg_of ht hv
  rw [hC] at hsz
  obtain ⟨l⟩ := cs
  obtain ⟨fuel, hf⟩ := h
  obtain ⟨xs, m, _, _, _, _, hel⟩ := DataW.trod_array ht hf
  match l, hsz with
  | [c0, c1], _ =>
    have h0 := hel 0 (by omega)
    have h1 := hel 1 (by omega)
    rw [hce] at h0 h1
    simp only [Value.cells, Nat.zero_mul, List.drop_zero, List.take_succ_cons, List.take_zero, Nat.one_mul, List.drop_succ_cons] at h0 h1
    have l0 : xs[0]? = some (xs[0]'(by omega)) := List.getElem?_eq_getElem _
    have l1 : xs[1]? = some (xs[1]'(by omega)) := List.getElem?_eq_getElem _
    obtain ⟨x0, e0, _, wf0⟩ := DataW.trod_int he (h0.trans l0)
    obtain ⟨x1, e1, _, wf1⟩ := DataW.trod_int he (h1.trans l1)
    simp at e0 e1
    subst e0 e1
    exact ⟨x0, x1, rfl, wf0, wf1⟩
/-- An array of three integers by value. -/
theorem open_arr3 {r : Reach} {b0 t e : Nat} {k : IntKind} {v : Value} {d : DataW H} {p : List MemPlace} (ht : P.underlying t = some (.array 3 e)) (he : P.underlying e = some (.int k)) (hC : P.cellsOf t = 3) (hce : P.cellsOf e = 1)
    (hv : Value.okWide P w r b0 t v) (h : DataW.Trod enc P w base spare held t v d p) : ∃ x0 x1 x2 : Int, v = .agg #[.int k x0, .int k x1, .int k x2] ∧ (Lit.int k x0).wf = true ∧ (Lit.int k x1).wf = true ∧ (Lit.int k x2).wf = true := by
  obtain ⟨cs, rfl, hsz⟩ := agg_of ht hv
  rw [hC] at hsz
  obtain ⟨l⟩ := cs
  obtain ⟨fuel, hf⟩ := h
  obtain ⟨xs, m, _, _, _, _, hel⟩ := DataW.trod_array ht hf
  match l, hsz with
  | [c0, c1, c2], _ =>
    have h0 := hel 0 (by omega)
    have h1 := hel 1 (by omega)
    have h2 := hel 2 (by omega)
    rw [hce] at h0 h1 h2
    simp only [Value.cells, Nat.zero_mul, List.drop_zero, List.take_succ_cons, List.take_zero, Nat.one_mul, List.drop_succ_cons, Nat.mul_one] at h0 h1 h2
    have l0 : xs[0]? = some (xs[0]'(by omega)) := List.getElem?_eq_getElem _
    have l1 : xs[1]? = some (xs[1]'(by omega)) := List.getElem?_eq_getElem _
    have l2 : xs[2]? = some (xs[2]'(by omega)) := List.getElem?_eq_getElem _
    obtain ⟨x0, e0, _, wf0⟩ := DataW.trod_int he (h0.trans l0)
    obtain ⟨x1, e1, _, wf1⟩ := DataW.trod_int he (h1.trans l1)
    obtain ⟨x2, e2, _, wf2⟩ := DataW.trod_int he (h2.trans l2)
    simp at e0 e1 e2
    subst e0 e1 e2
    exact ⟨x0, x1, x2, rfl, wf0, wf1, wf2⟩
/-- A struct of two integers of one kind by value. -/
theorem open_two {r : Reach} {b0 t : Nat} {k : IntKind} {f0 f1 : Field} {v : Value} {d : DataW H} {p : List MemPlace} (hs : P.underlying t = some (.struct #[f0, f1])) (hone : oneCellFields P #[f0, f1] = true) (hC : P.cellsOf t = 2)
    (u0 : P.underlying f0.type = some (.int k)) (u1 : P.underlying f1.type = some (.int k))
    (hv : Value.okWide P w r b0 t v) (h : DataW.Trod enc P w base spare held t v d p) : ∃ x0 x1 : Int, v = .agg #[.int k x0, .int k x1] ∧ (Lit.int k x0).wf = true ∧ (Lit.int k x1).wf = true := by
  obtain ⟨v0, v1, y0, y1, n, rfl, _, _, h0, h1⟩ := open_agg2 hs hone hC hv h
  obtain ⟨x0, e0, _, wf0⟩ := DataW.trod_int u0 h0
  obtain ⟨x1, e1, _, wf1⟩ := DataW.trod_int u1 h1
  simp at e0 e1
  subst e0 e1
  exact ⟨x0, x1, rfl, wf0, wf1⟩
end
/-- What the walk is told of a slice of integers that came in: nil, or a row of 'cap' cells, the first 'len' of which are its elements. -/
def IsRow (k : IntKind) (w : World) (a : Option Addr) (len cap : Nat) (zs : List Int) : Prop :=
  (a = none ∧ len = 0 ∧ cap = 0 ∧ zs = []) ∨
  ∃ x, a = some x ∧ len ≤ cap ∧ cap ≤ maxLen ∧ zs.length = cap ∧ (∀ i, i < zs.length → w.cell? (x.add i) = some (.int k (zs.getD i 0))) ∧ (∀ n ∈ zs, (Lit.int k n).wf = true) ∧ (0 < cap → x.block < w.heap.size)
end Go.Proofs.Ytnjdomfhjhlamaa
