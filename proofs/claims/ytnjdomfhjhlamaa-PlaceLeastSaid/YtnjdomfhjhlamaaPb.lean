/- Small words for the walks of the cores: worlds that agree below a block or beside a few blocks, masks. No function of the program is named. -/
import Derived.Test.YtnjdomfhjhlamaaRows
import Derived.WalkKit
import Derived.WalkSpells
import Derived.WalkLawsBesides
import Derived.Deep.RegionHeld3
import Derived.Deep.DeepCutAuto
import Derived.Deep.QuietTactic
import Derived.BigQuiet
import Derived.Handy
import Derived.WalkSmall
import Derived.Lib.Hide
import Derived.Deep.AppendLies
import Derived.Deep.RegionWith
import Derived.Deep.RegionHeldLaw
import Derived.StillTailTactics
namespace Go.Proofs.Ytnjdomfhjhlamaa
open Go.RowKit
set_option linter.unusedVariables false
set_option linter.unusedSimpArgs false

theorem sz_drewN (w : World) (n : Nat) : (w.drewN n).heap.size = w.heap.size := rfl

/-- The old cells and marks behind a call that leaves old memory alone. -/
theorem bcell {W w1 : World} (hb : Below W.heap.size W w1) : (∀ b o, b < W.heap.size → w1.cell? ⟨b, o, none⟩ = W.cell? ⟨b, o, none⟩) ∧ (∀ b o, b < W.heap.size → w1.frozen? ⟨b, o, none⟩ = W.frozen? ⟨b, o, none⟩) :=
  ⟨fun b o h => hb.cell (p := ⟨b, o, none⟩) h, fun b o h => hb.frozen (p := ⟨b, o, none⟩) h⟩

theorem held_of {W x : World} (h : Below W.heap.size W x) : Below W.heap.size W x ∧ (∀ b o, b < W.heap.size → x.cell? ⟨b, o, none⟩ = W.cell? ⟨b, o, none⟩) ∧ (∀ b o, b < W.heap.size → x.frozen? ⟨b, o, none⟩ = W.frozen? ⟨b, o, none⟩) := ⟨h, bcell h⟩
theorem below_realloc {B : Nat} {a x : World} {o o' : Obj} (hz : B ≤ x.heap.size) (h : Below B a (x.alloc o)) : Below B a (x.alloc o') :=
  ⟨h.os, h.tape, h.output, by have := h.size; simp at this ⊢; omega, fun k hk => by rw [Below.heap_alloc _ _ _ (by omega), ← Below.heap_alloc _ o _ (by omega)]; exact h.block k hk⟩
theorem bel_call {B : Nat} {a w w1 : World} (h : Below B a w) (hB : B ≤ w.heap.size) (hb : Below w.heap.size w w1) : Below B a w1 := h.trans (hb.mono hB)

theorem i64_mask (j : Nat) (hj : j ≤ 62) (x : Int) : bits .and .i64 x ((2 ^ j - 1 : Nat) : Int) = x % (2 ^ j : Nat) := by
  have hp : (2 : Nat) ^ j ≤ 2 ^ 62 := Nat.pow_le_pow_right (by omega) hj
  have h0 : 0 < (2 : Nat) ^ j := Nat.pow_pos (by omega)
  show IntKind.i64.wrap ((BitVec.ofInt 64 x &&& BitVec.ofInt 64 ((2 ^ j - 1 : Nat) : Int)).toNat : Int) = _
  rw [BitVec.toNat_and, BitVec.ofInt_natCast, BitVec.toNat_ofNat, Nat.mod_eq_of_lt (a := 2 ^ j - 1) (by omega), Nat.and_two_pow_sub_one_eq_mod]
  rw [BitVec.toNat_ofInt, IntKind.wrap_i64]
  have hd : ((2 ^ j : Nat) : Int) ∣ (2 ^ 64 : Nat) := by
    refine ⟨((2 ^ (64 - j) : Nat) : Int), ?_⟩
    rw [← Int.natCast_mul, ← Nat.pow_add, show j + (64 - j) = 64 by omega]
  have e : ((x % ((2 ^ 64 : Nat) : Int)).toNat % 2 ^ j : Nat) = ((x % ((2 ^ j : Nat) : Int)) : Int) := by
    rw [Int.natCast_emod, Int.toNat_of_nonneg (Int.emod_nonneg _ (by decide)), Int.emod_emod_of_dvd _ hd]
  rw [e]
  have a := Int.emod_nonneg x (b := ((2 ^ j : Nat) : Int)) (by omega)
  have b := Int.emod_lt_of_pos x (b := ((2 ^ j : Nat) : Int)) (by omega)
  omega

theorem mask20 (x : Int) : bits .and .i64 x 1048575 = x % 1048576 := i64_mask 20 (by decide) x
theorem mask39 (x : Int) : bits .and .i64 x 549755813887 = x % 549755813888 := i64_mask 39 (by decide) x
theorem mask30 (x : Int) : bits .and .i64 x 1073741823 = x % 1073741824 := i64_mask 30 (by decide) x

theorem bel_chain {a w w1 : World} (h : Below a.heap.size a w) (hb : Below w.heap.size w w1) : Below a.heap.size a w1 := h.trans (hb.mono h.size)
def setc (w : World) (a : Addr) (v : Value) : World := w.setCell a v
theorem mark_set (w : World) (a : Addr) (v : Value) : w.setCell a v = setc w a v := rfl
theorem below_setc {B : Nat} {a w : World} {p : Addr} {u : Value} (h : Below B a w) (hp : B ≤ p.block) : Below B a (setc w p u) := h.setCell hp u

theorem wrap_in (n : Int) (h0 : -9223372036854775808 ≤ n) (h1 : n ≤ 9223372036854775807) : IntKind.i64.wrap n = n := IntWalk.i64_in n ⟨h0, h1⟩
theorem masked39 (x : Int) : ∃ n, bits .and .i64 x 549755813887 = n ∧ 0 ≤ n ∧ n ≤ 549755813887 := ⟨_, mask39 x, by omega, by omega⟩
theorem masked30 (x : Int) : ∃ n, bits .and .i64 x 1073741823 = n ∧ 0 ≤ n ∧ n ≤ 1073741823 := ⟨_, mask30 x, by omega, by omega⟩
theorem masked20 (x : Int) : ∃ n, bits .and .i64 x 1048575 = n ∧ 0 ≤ n ∧ n ≤ 1048575 := ⟨_, mask20 x, by omega, by omega⟩
theorem mask40 (x : Int) : bits .and .i64 x 1099511627775 = x % 1099511627776 := i64_mask 40 (by decide) x
theorem masked40 (x : Int) : ∃ n, bits .and .i64 x 1099511627775 = n ∧ 0 ≤ n ∧ n ≤ 1099511627775 := ⟨_, mask40 x, by omega, by omega⟩
/-- Of what was there nothing has turned but block b. -/
structure Only (b : Nat) (w w' : World) : Prop where
  os : w'.os = w.os
  tape : w'.tape = w.tape
  output : w'.output = w.output
  size : w.heap.size ≤ w'.heap.size
  block : ∀ k, k < w.heap.size → k ≠ b → w'.heap[k]? = w.heap[k]?

theorem Only.refl (b : Nat) (w : World) : Only b w w := ⟨rfl, rfl, rfl, Nat.le_refl _, fun _ _ _ => rfl⟩
theorem Only.trans {b : Nat} {x y z : World} (h : Only b x y) (k : Only b y z) : Only b x z :=
  ⟨k.os.trans h.os, k.tape.trans h.tape, k.output.trans h.output, Nat.le_trans h.size k.size, fun i hi hb => (k.block i (Nat.lt_of_lt_of_le hi h.size) hb).trans (h.block i hi hb)⟩
theorem Only.drew {b : Nat} {a w : World} (h : Only b a w) : Only b a w.drew := ⟨h.os, h.tape, h.output, h.size, h.block⟩
theorem only_drewN {b : Nat} {a w : World} (h : Only b a w) (n : Nat) : Only b a (w.drewN n) := ⟨h.os, h.tape, h.output, h.size, h.block⟩
theorem Only.alloc {b : Nat} {a w : World} (h : Only b a w) (o : Obj) : Only b a (w.alloc o) :=
  h.trans ⟨rfl, rfl, rfl, by simp, fun k hk _ => Below.heap_alloc _ _ _ (by omega)⟩
theorem Only.setCell {b : Nat} {a w : World} (h : Only b a w) {p : Addr} (hp : p.block = b ∨ a.heap.size ≤ p.block) (u : Value) : Only b a (w.setCell p u) :=
  ⟨h.os, h.tape, h.output, by have := h.size; simpa [World.setCell] using this, fun k hk hb => (Below.heap_setCell _ _ _ _ (by omega)).trans (h.block k hk hb)⟩
theorem only_call {b : Nat} {a w w1 : World} (h : Only b a w) (hb : Below w.heap.size w w1) : Only b a w1 :=
  h.trans ⟨hb.os, hb.tape, hb.output, hb.size, fun k hk _ => hb.block k hk⟩
theorem only_of_below {b : Nat} {w w1 : World} (hb : Below w.heap.size w w1) : Only b w w1 := ⟨hb.os, hb.tape, hb.output, hb.size, fun k hk _ => hb.block k hk⟩
theorem Only.below {b B : Nat} {w w1 : World} (h : Only b w w1) (hB : B ≤ b) (hs : B ≤ w.heap.size) : Below B w w1 :=
  ⟨h.os, h.tape, h.output, h.size, fun k hk => h.block k (by omega) (by omega)⟩
theorem Only.cell {b : Nat} {w w' : World} (h : Only b w w') {p : Addr} (hp : p.block < w.heap.size) (hn : p.block ≠ b) : w'.cell? p = w.cell? p := World.cell?_of_block (w := w) (h.block p.block hp hn)
theorem Only.frozen {b : Nat} {w w' : World} (h : Only b w w') {p : Addr} (hp : p.block < w.heap.size) (hn : p.block ≠ b) : w'.frozen? p = w.frozen? p := World.frozen?_of_block (w := w) (h.block p.block hp hn)
/-- What stood below B, B not above b, stands. -/
theorem bel_only {b B : Nat} {a w w1 : World} (h : Below B a w) (hs : B ≤ w.heap.size) (hB : B ≤ b) (k : Only b w w1) : Below B a w1 := h.trans (k.below hB hs)

theorem bel_chain0 {B : Nat} {a w w1 : World} (h : Below B a w) (hb : Below B w w1) : Below B a w1 := h.trans hb
theorem cell_other (w : World) (b o j : Nat) (v : Value) (h : j ≠ o) : (w.setCell ⟨b, o, none⟩ v).cell? ⟨b, j, none⟩ = w.cell? ⟨b, j, none⟩ := by
  go_simp
/-- Go on from a world of which this much is known. -/
theorem gen_world {P : Program} {c : Code} {Q : Exit → Act → World → Prop} {a : Act} {w : World} (F : World → Prop) (h : F w) (h2 : ∀ W, F W → c.wp P Q a W) : c.wp P Q a w := h2 w h
theorem cell_drewN (w : World) (a : Addr) (n : Nat) : (w.drewN n).cell? a = w.cell? a := rfl
theorem frozen_drewN (w : World) (a : Addr) (n : Nat) : (w.drewN n).frozen? a = w.frozen? a := rfl

/-- Of what was there nothing has turned but the blocks of A. -/
structure Keeps (A : Nat → Prop) (w w' : World) : Prop where
  os : w'.os = w.os
  tape : w'.tape = w.tape
  output : w'.output = w.output
  size : w.heap.size ≤ w'.heap.size
  block : ∀ k, k < w.heap.size → ¬ A k → w'.heap[k]? = w.heap[k]?
section
variable {A : Nat → Prop} {a w w1 : World}
theorem Keeps.refl : Keeps A w w := ⟨rfl, rfl, rfl, Nat.le_refl _, fun _ _ _ => rfl⟩
theorem Keeps.below (h : Keeps A a w) (hb : Below w.heap.size w w1) : Keeps A a w1 :=
  ⟨hb.os.trans h.os, hb.tape.trans h.tape, hb.output.trans h.output, Nat.le_trans h.size hb.size, fun k hk hA => (hb.block k (Nat.lt_of_lt_of_le hk h.size)).trans (h.block k hk hA)⟩
theorem Keeps.only (h : Keeps A a w) {b : Nat} (ho : Only b w w1) (hA : A b) : Keeps A a w1 :=
  ⟨ho.os.trans h.os, ho.tape.trans h.tape, ho.output.trans h.output, Nat.le_trans h.size ho.size, fun k hk hn => (ho.block k (Nat.lt_of_lt_of_le hk h.size) (fun e => hn (e ▸ hA))).trans (h.block k hk hn)⟩
theorem Keeps.grown (h : Keeps A a w) {row : Option Nat} (hg : w.grownBy w1 row) (hr : ∀ k, row = some k → k < a.heap.size → A k) : Keeps A a w1 :=
  ⟨hg.os.trans h.os, hg.tape.trans h.tape, hg.output.trans h.output, Nat.le_trans h.size hg.size, fun k hk hn => (hg.block k (Nat.lt_of_lt_of_le hk h.size) (fun e => hn (hr k e.symm hk))).trans (h.block k hk hn)⟩
theorem Keeps.setCell (h : Keeps A a w) {p : Addr} (hp : p.block < a.heap.size → A p.block) (u : Value) : Keeps A a (w.setCell p u) :=
  ⟨h.os, h.tape, h.output, by have := h.size; simpa [World.setCell] using this, fun k hk hn => (Below.heap_setCell _ _ _ _ (fun e => hn (by rw [e]; exact hp (by rw [← e]; exact hk)))).trans (h.block k hk hn)⟩
theorem Keeps.alloc (h : Keeps A a w) (o : Obj) : Keeps A a (w.alloc o) := h.below ((Below.refl _ _).alloc (Nat.le_refl _) _)
theorem Keeps.drew (h : Keeps A a w) : Keeps A a w.drew := ⟨h.os, h.tape, h.output, h.size, h.block⟩
theorem Keeps.to_below (h : Keeps A a w) {B : Nat} (hB : B ≤ a.heap.size) (hA : ∀ k, k < B → ¬ A k) : Below B a w := ⟨h.os, h.tape, h.output, h.size, fun k hk => h.block k (by omega) (hA k hk)⟩
theorem Keeps.cell (h : Keeps A a w) {p : Addr} (hp : p.block < a.heap.size) (hn : ¬ A p.block) : w.cell? p = a.cell? p := World.cell?_of_block (w := a) (h.block p.block hp hn)
theorem Keeps.frozen (h : Keeps A a w) {p : Addr} (hp : p.block < a.heap.size) (hn : ¬ A p.block) : w.frozen? p = a.frozen? p := World.frozen?_of_block (w := a) (h.block p.block hp hn)
end
theorem owns_only {w w' : World} {base : Nat} {e : TypeId} {sz : Nat} {v : Value} {n : Nat} {xs : List Value} {b : Nat} (h : w.ownsRow base e sz v n xs) (k : Only b w w') (hb : ∀ g, v.ownBlock = some g → g ≠ b) : w'.ownsRow base e sz v n xs := by
  refine ⟨h.1, ?_⟩
  rcases h.2 with h | ⟨g, cap, cur, hv, hg, hw, r⟩
  · exact .inl h
  · refine .inr ⟨g, cap, cur, hv, hg, ?_, r⟩
    have hlt : g < w.heap.size := (Array.getElem?_eq_some_iff.1 hw).1
    rw [k.block g hlt (hb g (by rw [hv]; rfl))]
    exact hw

theorem grown_only {w w' : World} {row : Option Nat} (h : w.grownBy w' row) (b : Nat) (hb : ∀ g, row = some g → g = b) : Only b w w' :=
  ⟨h.os, h.tape, h.output, h.size, fun k hk hn => h.block k hk (fun e => hn (hb k e.symm))⟩
/-- A row that is not empty has a block of its own. -/
theorem owns_some {w : World} {base : Nat} {e : TypeId} {sz : Nat} {p : Option Addr} {n cap : Nat} {xs : List Value} (h : w.ownsRow base e sz (.slice p n cap) n xs) (hn : 0 < n) :
    ∃ g, p = some ⟨g, 0, none⟩ ∧ n ≤ cap ∧ base ≤ g ∧ g < w.heap.size ∧ ∀ j, j < n * sz → w.cell? ⟨g, j, none⟩ = xs[j]? := by
  have h' := h
  rcases h.2 with ⟨hv, h0⟩ | ⟨g, c, cur, hv, hb, hw, hc, _, _, _⟩
  · omega
  · injection hv with h1 h2 h3
    subst h1 h3
    exact ⟨g, rfl, hc, hb, (Array.getElem?_eq_some_iff.1 hw).1, fun j hj => h'.cellAt j hj⟩


end Go.Proofs.Ytnjdomfhjhlamaa
