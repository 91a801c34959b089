/- Slices of whole numbers, of pairs, of structs of whole numbers that came in, opened flat. No function of the program is named. -/
import Derived.Test.YtnjdomfhjhlamaaFrame
import Derived.Deep.Slices
namespace Go.Proofs.Ytnjdomfhjhlamaa
open Go.ChangeShapes Go.WideShapes Go.ChangeAt Go.RowKit Go.Joins Go.Deep
set_option linter.unusedVariables false
set_option linter.unusedSimpArgs false

/-- n elements of c whole numbers each lie in a row that came in. -/
def Flat (w : World) (v : Value) (n c : Nat) (Z : Nat → Int) : Prop :=
  ∃ p cap, v = .slice p n cap ∧ n ≤ cap ∧ cap ≤ maxLen ∧ (0 < n → ∃ g off, p = some ⟨g, off, none⟩ ∧ g < w.heap.size ∧ ∀ j, j < n * c → w.cell? ⟨g, off + j, none⟩ = some (.int .i64 (Z j)) ∧ (Lit.int .i64 (Z j)).wf = true)

section
variable {H : Type} {enc : TypeId × Value → H} {P : Program} {w : World} {base : Nat} {spare : Nat → Bool} {held : Bool}
theorem open_flat {r : Reach} {b0 t e c : Nat} {v : Value} {d : DataW H} {p : List MemPlace} (ht : P.underlying t = some (.slice e)) (hc : P.cellsOf e = c) (h0 : 0 < c)
    (hel : ∀ n cs' y, DataW.trod enc P w base spare held n e cs' = some y → ∀ r, r < c → ∃ z, cs'[r]? = some (.int .i64 z) ∧ (Lit.int .i64 z).wf = true)
    (hv : Value.okWide P w r b0 t v) (h : DataW.Trod enc P w base spare held t v d p) : ∃ n Z, Flat w v n c Z := by
  obtain ⟨a, len, cap, rfl⟩ := okWide_slice ht hv
  obtain ⟨fuel, hf⟩ := h
  rcases open_slice ht hf with ⟨hcs, _⟩ | ⟨a', len', cap', m, n, D, Pl, hcs, _, hl, hm, hmm, _, hx⟩
  · simp [Value.cells] at hcs
    obtain ⟨rfl, rfl, rfl⟩ := hcs
    exact ⟨0, fun _ => 0, none, 0, rfl, Nat.le_refl _, Nat.zero_le _, fun h => absurd h (Nat.lt_irrefl _)⟩
  · simp [Value.cells] at hcs
    obtain ⟨rfl, rfl, rfl⟩ := hcs
    have hlm : len ≤ m := by rw [hmm]; split <;> omega
    have each : ∀ j, j < len * c → ∃ z, w.cell? (a'.add j) = some (.int .i64 z) ∧ (Lit.int .i64 z).wf = true := fun j hj => by
      have hi : j / c < len := Nat.div_lt_of_lt_mul (by rw [Nat.mul_comm]; exact hj)
      obtain ⟨cs', h1, h2⟩ := hx (j / c) (by omega)
      obtain ⟨_, hlen, hcell⟩ := World.cells?_some h1
      have hr : j % c < c := Nat.mod_lt _ h0
      obtain ⟨z, hz, hw⟩ := hel _ _ _ h2 (j % c) hr
      refine ⟨z, ?_, hw⟩
      have := hcell (j % c) (by omega)
      rw [hz, hc, add_add] at this
      rw [show j = j / c * c + j % c by rw [Nat.mul_comm]; exact (Nat.div_add_mod j c).symm]
      exact this
    obtain ⟨Z, hZ⟩ := choose_lt (α := Int) each
    refine ⟨len, Z, some a', cap, rfl, hl, hm, fun hn => ?_⟩
    have hz0 := (hZ 0 (Nat.mul_pos hn h0)).1
    obtain ⟨g, off, sp⟩ := a'
    have hsp : sp = none := by
      simp only [Addr.add, if_pos] at hz0
      unfold World.cell? at hz0
      split at hz0
      · cases sp with
        | none => rfl
        | some s => simp at hz0
      · cases hz0
    subst hsp
    refine ⟨g, off, rfl, World.block_lt_of_cell? w _ (by simpa [Addr.add] using hz0), fun j hj => ?_⟩
    have := hZ j hj
    rw [Addr.add_lit] at this
    exact this
/-- Elements that are whole numbers. -/
theorem el_int {e : Nat} (he : P.underlying e = some (.int .i64)) (n : Nat) (cs' : List Value) (y : DataW H × List MemPlace) (h : DataW.trod enc P w base spare held n e cs' = some y) : ∀ r, r < 1 → ∃ z, cs'[r]? = some (.int .i64 z) ∧ (Lit.int .i64 z).wf = true := by
  obtain ⟨m, rfl, _, hw⟩ := DataW.trod_int he h
  intro r hr
  obtain rfl : r = 0 := by omega
  exact ⟨m, rfl, hw⟩
/-- Elements that are arrays of c whole numbers. -/
theorem el_arr {e u c : Nat} (ht : P.underlying e = some (.array c u)) (he : P.underlying u = some (.int .i64)) (hcu : P.cellsOf u = 1) (n : Nat) (cs' : List Value) (y : DataW H × List MemPlace) (h : DataW.trod enc P w base spare held n e cs' = some y) : ∀ r, r < c → ∃ z, cs'[r]? = some (.int .i64 z) ∧ (Lit.int .i64 z).wf = true := by
  obtain ⟨xs, m, _, _, hlen, hxl, hel⟩ := DataW.trod_array ht h
  intro r hr
  have h1 := hel r hr
  rw [hcu, Nat.mul_one] at h1
  rw [List.getElem?_eq_getElem (by omega : r < xs.length)] at h1
  obtain ⟨z, e1, _, hw⟩ := DataW.trod_int he h1
  refine ⟨z, ?_, hw⟩
  have : (cs'.drop r)[0]? = some (.int .i64 z) := by
    cases hd : cs'.drop r with
    | nil => rw [hd] at e1; simp at e1
    | cons a l => rw [hd] at e1; simp at e1; rw [e1]; rfl
  rw [List.getElem?_drop] at this
  simpa using this
/-- Elements that are structs of c whole numbers, one cell each. -/
theorem el_struct {e c : Nat} {fs : Array Field} (ht : P.underlying e = some (.struct fs)) (hn : fs.size = c) (hfs : ∀ (i : Nat) (f : Field), fs[i]? = some f → f.offset = i ∧ P.cellsOf f.type = 1 ∧ P.underlying f.type = some (.int .i64)) (n : Nat) (cs' : List Value) (y : DataW H × List MemPlace) (h : DataW.trod enc P w base spare held n e cs' = some y) : ∀ r, r < c → ∃ z, cs'[r]? = some (.int .i64 z) ∧ (Lit.int .i64 z).wf = true := by
  obtain ⟨xs, m, _, _, hlen, hxl, hel⟩ := DataW.trod_struct ht h
  intro r hr
  obtain ⟨f, hf⟩ : ∃ f, fs[r]? = some f := ⟨_, Array.getElem?_eq_getElem (by omega)⟩
  obtain ⟨ho, hc, hu⟩ := hfs r f hf
  have h1 := hel r f hf
  rw [hc, ho, List.getElem?_eq_getElem (by omega : r < xs.length)] at h1
  obtain ⟨z, e1, _, hw⟩ := DataW.trod_int hu h1
  refine ⟨z, ?_, hw⟩
  have : (cs'.drop r)[0]? = some (.int .i64 z) := by
    cases hd : cs'.drop r with
    | nil => rw [hd] at e1; simp at e1
    | cons a l => rw [hd] at e1; simp at e1; rw [e1]; rfl
  rw [List.getElem?_drop] at this
  simpa using this
end
end Go.Proofs.Ytnjdomfhjhlamaa
