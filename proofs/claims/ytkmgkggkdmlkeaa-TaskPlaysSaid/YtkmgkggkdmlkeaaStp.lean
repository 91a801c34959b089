/- What is said of a stepper's block, and of a world in which one block has turned. -/
import Derived.Test.YtkmgkggkdmlkeaaStep
import Derived.Test.YtkmgkggkdmlkeaaStm
namespace Go.Proofs.Ytkmgkggkdmlkeaa
open Go.RowKit
set_option linter.unusedVariables false
set_option linter.unusedSimpArgs false

/-- Of what was there nothing has turned but block b. -/
structure Only (b : Nat) (w w' : World) : Prop where
  os : w'.os = w.os
  tape : w'.tape = w.tape
  output : w'.output = w.output
  size : w.heap.size ≤ w'.heap.size
  block : ∀ k, k < w.heap.size → k ≠ b → w'.heap[k]? = w.heap[k]?

theorem Only.refl (b : Nat) (w : World) : Only b w w := ⟨rfl, rfl, rfl, Nat.le_refl _, fun _ _ _ => rfl⟩
theorem Only.trans {b : Nat} {x y z : World} (h : Only b x y) (k : Only b y z) : Only b x z :=
  ⟨k.os.trans h.os, k.tape.trans h.tape, k.output.trans h.output, Nat.le_trans h.size k.size, fun i hi hb => (k.block i (Nat.lt_of_lt_of_le hi h.size) hb).trans (h.block i hi hb)⟩
theorem Only.drew {b : Nat} {a w : World} (h : Only b a w) : Only b a w.drew := ⟨h.os, h.tape, h.output, h.size, h.block⟩
theorem only_drewN {b : Nat} {a w : World} (h : Only b a w) (n : Nat) : Only b a (w.drewN n) := ⟨h.os, h.tape, h.output, h.size, h.block⟩
theorem Only.alloc {b : Nat} {a w : World} (h : Only b a w) (o : Obj) : Only b a (w.alloc o) :=
  h.trans ⟨rfl, rfl, rfl, by simp, fun k hk _ => Below.heap_alloc _ _ _ (by omega)⟩
theorem Only.setCell {b : Nat} {a w : World} (h : Only b a w) {p : Addr} (hp : p.block = b ∨ a.heap.size ≤ p.block) (u : Value) : Only b a (w.setCell p u) :=
  ⟨h.os, h.tape, h.output, by have := h.size; simpa [World.setCell] using this, fun k hk hb => (Below.heap_setCell _ _ _ _ (by omega)).trans (h.block k hk hb)⟩
theorem only_call {b : Nat} {a w w1 : World} (h : Only b a w) (hb : Below w.heap.size w w1) : Only b a w1 :=
  h.trans ⟨hb.os, hb.tape, hb.output, hb.size, fun k hk _ => hb.block k hk⟩
theorem only_of_below {b : Nat} {w w1 : World} (hb : Below w.heap.size w w1) : Only b w w1 := ⟨hb.os, hb.tape, hb.output, hb.size, fun k hk _ => hb.block k hk⟩
theorem Only.below {b B : Nat} {w w1 : World} (h : Only b w w1) (hB : B ≤ b) (hs : B ≤ w.heap.size) : Below B w w1 :=
  ⟨h.os, h.tape, h.output, h.size, fun k hk => h.block k (by omega) (by omega)⟩
theorem Only.cell {b : Nat} {w w' : World} (h : Only b w w') {p : Addr} (hp : p.block < w.heap.size) (hn : p.block ≠ b) : w'.cell? p = w.cell? p := World.cell?_of_block (w := w) (h.block p.block hp hn)
theorem Only.frozen {b : Nat} {w w' : World} (h : Only b w w') {p : Addr} (hp : p.block < w.heap.size) (hn : p.block ≠ b) : w'.frozen? p = w.frozen? p := World.frozen?_of_block (w := w) (h.block p.block hp hn)
/-- What stood below B, B not above b, stands. -/
theorem bel_only {b B : Nat} {a w w1 : World} (h : Below B a w) (hs : B ≤ w.heap.size) (hB : B ≤ b) (k : Only b w w1) : Below B a w1 := h.trans (k.below hB hs)

def glong (E P : Int) : Int := if E < P ∧ P - E ≤ E then P / (P - E) else 0
def gpart (E P : Int) : Int := if E < P ∧ P - E ≤ E then P % (P - E) else 0
def gwh (E P k : Int) : Int := if E < P ∧ P - E ≤ E then k * P / (P - E) else 0
def glf (E P k : Int) : Int := if E < P ∧ P - E ≤ E then k * P % (P - E) else 0
def gof (E P : Int) : Int := if E < P ∧ P - E ≤ E then P - E else 0

/-- The stepper's block: a weight, an offset, n subtasks behind it; the sub that it holds. -/
def St (w : World) (b : Nat) (E P off n x0 x1 x2 x3 x4 : Int) : Prop :=
  w.cell? ⟨b, 0, none⟩ = some (.int .i64 E) ∧ w.cell? ⟨b, 1, none⟩ = some (.int .i64 P) ∧ w.cell? ⟨b, 2, none⟩ = some (.int .i64 off) ∧ w.cell? ⟨b, 3, none⟩ = some (.int .i64 n) ∧
  w.cell? ⟨b, 4, none⟩ = some (.int .i64 (P / E)) ∧ w.cell? ⟨b, 5, none⟩ = some (.int .i64 (P % E)) ∧ w.cell? ⟨b, 6, none⟩ = some (.int .i64 (n * P / E)) ∧ w.cell? ⟨b, 7, none⟩ = some (.int .i64 (n * P % E)) ∧ w.cell? ⟨b, 8, none⟩ = some (.int .i64 E) ∧
  w.cell? ⟨b, 9, none⟩ = some (.int .i64 (glong E P)) ∧ w.cell? ⟨b, 10, none⟩ = some (.int .i64 (gpart E P)) ∧ w.cell? ⟨b, 11, none⟩ = some (.int .i64 (gwh E P (Win.kk E P n))) ∧ w.cell? ⟨b, 12, none⟩ = some (.int .i64 (glf E P (Win.kk E P n))) ∧ w.cell? ⟨b, 13, none⟩ = some (.int .i64 (gof E P)) ∧
  w.cell? ⟨b, 14, none⟩ = some (.int .i64 x0) ∧ w.cell? ⟨b, 15, none⟩ = some (.int .i64 x1) ∧ w.cell? ⟨b, 16, none⟩ = some (.int .i64 x2) ∧ w.cell? ⟨b, 17, none⟩ = some (.int .i64 x3) ∧ w.cell? ⟨b, 18, none⟩ = some (.int .i64 x4) ∧
  (∀ o, w.frozen? ⟨b, o, none⟩ = false) ∧ b < w.heap.size
/-- The stepper's block, subtask n at hand. -/
def Sn (w : World) (b : Nat) (E P off n : Int) : Prop := St w b E P off n n (Win.rel E P n) (Win.dl E P n) (Win.bit E P n) (Win.grp E P n)

theorem St.keep {w w' : World} {b c : Nat} {E P off n x0 x1 x2 x3 x4 : Int} (h : St w b E P off n x0 x1 x2 x3 x4) (k : Only c w w') (hc : b ≠ c) : St w' b E P off n x0 x1 x2 x3 x4 := by
  obtain ⟨h0, h1, h2, h3, h4, h5, h6, h7, h8, h9, h10, h11, h12, h13, h14, h15, h16, h17, h18, hf, hs⟩ := h
  have hk : ∀ o, w'.cell? ⟨b, o, none⟩ = w.cell? ⟨b, o, none⟩ := fun o => k.cell (p := ⟨b, o, none⟩) hs hc
  exact ⟨(hk _).trans h0, (hk _).trans h1, (hk _).trans h2, (hk _).trans h3, (hk _).trans h4, (hk _).trans h5, (hk _).trans h6, (hk _).trans h7, (hk _).trans h8, (hk _).trans h9, (hk _).trans h10, (hk _).trans h11, (hk _).trans h12, (hk _).trans h13, (hk _).trans h14, (hk _).trans h15, (hk _).trans h16, (hk _).trans h17, (hk _).trans h18,
    fun o => (k.frozen (p := ⟨b, o, none⟩) hs hc).trans (hf o), Nat.lt_of_lt_of_le hs k.size⟩
theorem St.keepb {w w' : World} {b : Nat} {E P off n x0 x1 x2 x3 x4 : Int} (h : St w b E P off n x0 x1 x2 x3 x4) (k : Below w.heap.size w w') : St w' b E P off n x0 x1 x2 x3 x4 := by
  have hs := h.2.2.2.2.2.2.2.2.2.2.2.2.2.2.2.2.2.2.2.2
  exact h.keep (c := b + 1) (only_of_below k) (by omega)
end Go.Proofs.Ytkmgkggkdmlkeaa
