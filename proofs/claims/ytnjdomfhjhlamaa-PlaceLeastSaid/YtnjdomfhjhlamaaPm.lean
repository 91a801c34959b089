/- A set of numbers kept as a map of bools. -/
import Derived.Test.YtnjdomfhjhlamaaPb
import Derived.Maps.Own
import Derived.Maps.OwnSet
import Derived.Maps.Views
namespace Go.Proofs.Ytnjdomfhjhlamaa
open Go.RowKit
set_option linter.unusedVariables false
set_option linter.unusedSimpArgs false

def IdSet (w : World) (b : Nat) (ids : List Int) : Prop :=
  ∃ (n : Nat) (D : DataW Unit), w.ownsMap Try.prog 3 (plainElem Try.prog 4) b n D ∧ n ≤ ids.length ∧ Maps.IsMap D ∧ ∀ x, D.atKey (.int .i64 x) (.lit (.bool false)) = .lit (.bool (decide (x ∈ ids)))
theorem bool_inv {v : Value} {B : Bool} {ps : List MemPlace} (h : plainElem (H := Unit) Try.prog 4 v = some (.lit (.bool B), ps)) : v = .bool B := by
  unfold plainElem at h
  rw [Try.underlying4] at h
  cases v <;> simp at h
  rw [h.1]
theorem IdSet.made (w : World) : IdSet (w.alloc (.map #[] 0)) w.heap.size [] :=
  ⟨0, .map [], World.ownsMap_made w Try.prog _ _, by simp, Maps.isMap_empty, fun x => WideAt.atKey_none _ (by simp)⟩
theorem IdSet.look {w : World} {b : Nat} {ids : List Int} (h : IdSet w b ids) (x : Int) (hx : (Lit.int .i64 x).wf = true) : (Instr.lookup 43 (.map (some b)) (.int .i64 x) false).run Try.prog w = .ok (.bool (decide (x ∈ ids))) w := by
  obtain ⟨n, D, hD, hn, hm, hat⟩ := h
  obtain ⟨v, ps, hr, hv⟩ := hD.lookup (Maps.int_keyed Try.underlying3) Try.underlying43 (Try.zeroValue4 w) (plainElem_bool Try.underlying4 false) (Maps.keyOf_int_mk Try.underlying3 hx)
  rw [hat x] at hv
  rw [hr, bool_inv hv]
theorem IdSet.put {w : World} {b : Nat} {ids : List Int} (h : IdSet w b ids) (x : Int) (hx : (Lit.int .i64 x).wf = true) (hl : ids.length < 100000) :
    ∃ w', (Instr.mapUpdate 43 (.map (some b)) (.int .i64 x) (.bool true)).run Try.prog w = .ok () w' ∧ IdSet w' b (x :: ids) ∧ w.grownBy w' (some b) := by
  obtain ⟨n, D, hD, hn, hm, hat⟩ := h
  obtain ⟨w', hr, h1, h2⟩ := hD.update (Maps.int_keyed Try.underlying3) Try.underlying43 (by unfold maxLen; omega) (Maps.keyOf_int_mk Try.underlying3 hx) (plainElem_bool Try.underlying4 true)
  refine ⟨w', hr, ⟨n + 1, _, h1, by simp; omega, hm.put _ _, fun y => ?_⟩, h2⟩
  by_cases e : y = x
  · subst e
    rw [Maps.atKey_put_same hm (by trivial)]; simp
  · rw [Maps.atKey_put_other (by simpa using e), hat y]; simp [e]
theorem IdSet.lt {w : World} {b : Nat} {ids : List Int} (h : IdSet w b ids) : b < w.heap.size := by
  obtain ⟨n, D, hD, _⟩ := h
  exact hD.lt
theorem IdSet.block {w w' : World} {b : Nat} {ids : List Int} (h : IdSet w b ids) (e : w'.heap[b]? = w.heap[b]?) : IdSet w' b ids := by
  obtain ⟨n, D, ⟨es, clock, hb, F, r⟩, hn, hm, hat⟩ := h
  exact ⟨n, D, ⟨es, clock, e.trans hb, F, r⟩, hn, hm, hat⟩
end Go.Proofs.Ytnjdomfhjhlamaa
