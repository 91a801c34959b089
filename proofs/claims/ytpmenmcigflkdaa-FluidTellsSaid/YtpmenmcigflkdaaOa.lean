/- An 'Ask' that came in by value (two whole numbers and a row of bools), opened. No function of the program is named. -/
import Derived.Test.YtpmenmcigflkdaaOpenQ
import Derived.Test.YtpmenmcigflkdaaFc
namespace Go.Proofs.Ytpmenmcigflkdaa
open Go.ChangeShapes Go.WideShapes Go.ChangeAt Go.RowKit Go.Joins Go.Deep
set_option linter.unusedVariables false
set_option linter.unusedSimpArgs false

section
variable {H : Type} {enc : TypeId × Value → H} {P : Program} {w : World} {base : Nat} {spare : Nat → Bool} {held : Bool}
theorem open_cellQ {t e c fuel : Nat} {v : Value} {y : DataW H × List MemPlace} (Q : Nat → Value → Prop) (ht : P.underlying t = some (.slice e)) (hc : P.cellsOf e = c) (h0 : 0 < c)
    (hel : ∀ n cs' y, DataW.trod enc P w base spare held n e cs' = some y → ∀ r, r < c → ∃ z, cs'[r]? = some z ∧ Q r z)
    (hf : DataW.trod enc P w base spare held fuel t [v] = some y) : ∃ n Z, FlatQ w v n c Q Z := by
  rcases open_slice ht hf with ⟨hcs, _⟩ | ⟨a', len', cap', m, n, D, Pl, hcs, _, hl, hm, hmm, _, hx⟩
  · injection hcs with e1 e2
    subst e1
    exact ⟨0, fun _ => .bool false, none, 0, rfl, Nat.le_refl _, Nat.zero_le _, fun h => absurd h (Nat.lt_irrefl _)⟩
  · injection hcs with e1 e2
    subst e1
    have hlm : len' ≤ m := by rw [hmm]; split <;> omega
    have each : ∀ j, j < len' * c → ∃ z, w.cell? (a'.add j) = some z ∧ Q (j % c) z := fun j hj => by
      have hi : j / c < len' := Nat.div_lt_of_lt_mul (by rw [Nat.mul_comm]; exact hj)
      obtain ⟨cs', h1, h2⟩ := hx (j / c) (by omega)
      obtain ⟨_, hlen, hcell⟩ := World.cells?_some h1
      have hr : j % c < c := Nat.mod_lt _ h0
      obtain ⟨z, hz, hw⟩ := hel _ _ _ h2 (j % c) hr
      refine ⟨z, ?_, hw⟩
      have := hcell (j % c) (by omega)
      rw [hz, hc, add_add] at this
      rw [show j = j / c * c + j % c by rw [Nat.mul_comm]; exact (Nat.div_add_mod j c).symm]
      exact this
    obtain ⟨Z, hZ⟩ := choose_lt (α := Value) each
    refine ⟨len', Z, some a', cap', rfl, hl, hm, fun hn => ?_⟩
    have hz0 := (hZ 0 (Nat.mul_pos hn h0)).1
    obtain ⟨g, off, sp⟩ := a'
    have hsp : sp = none := by
      simp only [Addr.add, if_pos] at hz0
      unfold World.cell? at hz0
      split at hz0
      · cases sp with
        | none => rfl
        | some s => simp at hz0
      · cases hz0
    subst hsp
    refine ⟨g, off, rfl, World.block_lt_of_cell? w _ (by simpa [Addr.add] using hz0), fun j hj => ?_⟩
    have := hZ j hj
    rw [Addr.add_lit] at this
    exact this
/-- A flat row of bools is a row of bools. -/
theorem bools_of_flat {v : Value} {n : Nat} {Z : Nat → Value} (h : FlatQ w v n 1 (fun _ z => ∃ b, z = .bool b) Z) : ∃ a cap zs, v = .slice a n cap ∧ cap ≤ 9223372036854775807 ∧ Bools w.heap.size w (.slice a n cap) zs := by
  obtain ⟨p, cap, rfl, hl, hm, hr⟩ := h
  refine ⟨p, cap, (List.range n).map (fun j => match Z j with | .bool b => b | _ => false), rfl, hm, ?_⟩
  by_cases hn : 0 < n
  · obtain ⟨g, off, rfl, hg, hj⟩ := hr hn
    refine .inr ⟨g, off, cap, by simp, hg, by simpa using hl, fun j hj' => ?_⟩
    have hjn : j < n := by simpa using hj'
    obtain ⟨h1, b, h2⟩ := hj j (by omega)
    rw [h1, List.getElem?_map, List.getElem?_range hjn, h2]
    simp [h2]
  · obtain rfl : n = 0 := by omega
    exact .inl ⟨_, _, rfl, rfl⟩
theorem open_ask {r : Reach} {b0 t e : Nat} {f0 f1 f2 : Field} {v : Value} {d : DataW H} {p : List MemPlace} (hs : P.underlying t = some (.struct #[f0, f1, f2])) (hone : oneCellFields P #[f0, f1, f2] = true) (hC : P.cellsOf t = 3)
    (u0 : P.underlying f0.type = some (.int .i64)) (u1 : P.underlying f1.type = some (.int .i64)) (u2 : P.underlying f2.type = some (.slice e)) (ue : P.underlying e = some .bool) (hce : P.cellsOf e = 1)
    (hv : Value.okWide P w r b0 t v) (h : DataW.Trod enc P w base spare held t v d p) :
    ∃ (x0 x1 : Int) (a : Option Addr) (len cap : Nat) (zs : List Bool), v = .agg #[.int .i64 x0, .int .i64 x1, .slice a len cap] ∧ (Lit.int .i64 x0).wf = true ∧ (Lit.int .i64 x1).wf = true ∧ (cap ≤ 9223372036854775807 ∧ Bools w.heap.size w (.slice a len cap) zs) := by
  obtain ⟨v0, v1, v2, y0, y1, y2, n, rfl, _, _, h0, h1, h2⟩ := open_agg3 hs hone hC hv h
  obtain ⟨x0, e0, _, wf0⟩ := DataW.trod_int u0 h0
  obtain ⟨x1, e1, _, wf1⟩ := DataW.trod_int u1 h1
  simp at e0 e1
  subst e0 e1
  obtain ⟨len, Z, hF⟩ := open_cellQ (c := 1) (fun _ z => ∃ b, z = .bool b) u2 hce (by omega) (el_bool ue) h2
  obtain ⟨a, cap, zs, rfl, hm, hb⟩ := bools_of_flat hF
  exact ⟨x0, x1, a, len, cap, zs, rfl, wf0, wf1, hm, hb⟩
end
end Go.Proofs.Ytpmenmcigflkdaa
