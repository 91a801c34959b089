/- Small words for the walks: worlds that agree below a block, masks, a weight by numbers. No function of the program is named. -/
import Derived.Test.YtpmenmcigflkdaaRows
import Derived.Test.YtpmenmcigflkdaaWin
import Derived.WalkKit
import Derived.WalkSpells
import Derived.WalkLawsBesides
import Derived.Deep.RegionHeld3
import Derived.Deep.DeepCutAuto
import Derived.Deep.QuietTactic
import Derived.BigQuiet
import Derived.Handy
import Derived.WalkSmall
import Derived.Lib.Hide
namespace Go.Proofs.Ytpmenmcigflkdaa
open Go.RowKit
set_option linter.unusedVariables false
set_option linter.unusedSimpArgs false

theorem mul_bd {i P : Int} (h0 : 0 ≤ i) (h1 : i ≤ 1099511627776) (p0 : 0 ≤ P) (p1 : P ≤ 1048576) : 0 ≤ i * P ∧ i * P ≤ 1152921504606846976 := by
  refine ⟨Int.mul_nonneg h0 p0, ?_⟩
  have a := Int.mul_le_mul_of_nonneg_right h1 p0
  have b := Int.mul_le_mul_of_nonneg_left p1 (show (0 : Int) ≤ 1099511627776 by omega)
  omega

theorem sz_drewN (w : World) (n : Nat) : (w.drewN n).heap.size = w.heap.size := rfl

/-- The old cells and marks behind a call that leaves old memory alone. -/
theorem bcell {W w1 : World} (hb : Below W.heap.size W w1) : (∀ b o, b < W.heap.size → w1.cell? ⟨b, o, none⟩ = W.cell? ⟨b, o, none⟩) ∧ (∀ b o, b < W.heap.size → w1.frozen? ⟨b, o, none⟩ = W.frozen? ⟨b, o, none⟩) :=
  ⟨fun b o h => hb.cell (p := ⟨b, o, none⟩) h, fun b o h => hb.frozen (p := ⟨b, o, none⟩) h⟩

theorem held_of {W x : World} (h : Below W.heap.size W x) : Below W.heap.size W x ∧ (∀ b o, b < W.heap.size → x.cell? ⟨b, o, none⟩ = W.cell? ⟨b, o, none⟩) ∧ (∀ b o, b < W.heap.size → x.frozen? ⟨b, o, none⟩ = W.frozen? ⟨b, o, none⟩) := ⟨h, bcell h⟩
theorem below_realloc {B : Nat} {a x : World} {o o' : Obj} (hz : B ≤ x.heap.size) (h : Below B a (x.alloc o)) : Below B a (x.alloc o') :=
  ⟨h.os, h.tape, h.output, by have := h.size; simp at this ⊢; omega, fun k hk => by rw [Below.heap_alloc _ _ _ (by omega), ← Below.heap_alloc _ o _ (by omega)]; exact h.block k hk⟩
theorem bel_call {B : Nat} {a w w1 : World} (h : Below B a w) (hB : B ≤ w.heap.size) (hb : Below w.heap.size w w1) : Below B a w1 := h.trans (hb.mono hB)

theorem i64_mask (j : Nat) (hj : j ≤ 62) (x : Int) : bits .and .i64 x ((2 ^ j - 1 : Nat) : Int) = x % (2 ^ j : Nat) := by
  have hp : (2 : Nat) ^ j ≤ 2 ^ 62 := Nat.pow_le_pow_right (by omega) hj
  have h0 : 0 < (2 : Nat) ^ j := Nat.pow_pos (by omega)
  show IntKind.i64.wrap ((BitVec.ofInt 64 x &&& BitVec.ofInt 64 ((2 ^ j - 1 : Nat) : Int)).toNat : Int) = _
  rw [BitVec.toNat_and, BitVec.ofInt_natCast, BitVec.toNat_ofNat, Nat.mod_eq_of_lt (a := 2 ^ j - 1) (by omega), Nat.and_two_pow_sub_one_eq_mod]
  rw [BitVec.toNat_ofInt, IntKind.wrap_i64]
  have hd : ((2 ^ j : Nat) : Int) ∣ (2 ^ 64 : Nat) := by
    refine ⟨((2 ^ (64 - j) : Nat) : Int), ?_⟩
    rw [← Int.natCast_mul, ← Nat.pow_add, show j + (64 - j) = 64 by omega]
  have e : ((x % ((2 ^ 64 : Nat) : Int)).toNat % 2 ^ j : Nat) = ((x % ((2 ^ j : Nat) : Int)) : Int) := by
    rw [Int.natCast_emod, Int.toNat_of_nonneg (Int.emod_nonneg _ (by decide)), Int.emod_emod_of_dvd _ hd]
  rw [e]
  have a := Int.emod_nonneg x (b := ((2 ^ j : Nat) : Int)) (by omega)
  have b := Int.emod_lt_of_pos x (b := ((2 ^ j : Nat) : Int)) (by omega)
  omega

theorem mask20 (x : Int) : bits .and .i64 x 1048575 = x % 1048576 := i64_mask 20 (by decide) x
theorem mask39 (x : Int) : bits .and .i64 x 549755813887 = x % 549755813888 := i64_mask 39 (by decide) x
theorem mask30 (x : Int) : bits .and .i64 x 1073741823 = x % 1073741824 := i64_mask 30 (by decide) x

/-- A weight by numbers. -/
def pOf (q : Int) : Int := 1 + q % 1048576
def eOf (q p : Int) : Int := 1 + q.tmod p % p
theorem pOf_bd (q : Int) : 1 ≤ pOf q ∧ pOf q ≤ 1048576 := by unfold pOf; omega
theorem eOf_bd (q p : Int) (h : 1 ≤ p) : 1 ≤ eOf q p ∧ eOf q p ≤ p := by
  unfold eOf
  have a := Int.emod_nonneg (q.tmod p) (b := p) (by omega)
  have b := Int.emod_lt_of_pos (q.tmod p) (b := p) (by omega)
  omega

theorem bel_chain {a w w1 : World} (h : Below a.heap.size a w) (hb : Below w.heap.size w w1) : Below a.heap.size a w1 := h.trans (hb.mono h.size)
def setc (w : World) (a : Addr) (v : Value) : World := w.setCell a v
theorem mark_set (w : World) (a : Addr) (v : Value) : w.setCell a v = setc w a v := rfl
theorem below_setc {B : Nat} {a w : World} {p : Addr} {u : Value} (h : Below B a w) (hp : B ≤ p.block) : Below B a (setc w p u) := h.setCell hp u

theorem wrap_in (n : Int) (h0 : -9223372036854775808 ≤ n) (h1 : n ≤ 9223372036854775807) : IntKind.i64.wrap n = n := IntWalk.i64_in n ⟨h0, h1⟩
theorem masked39 (x : Int) : ∃ n, bits .and .i64 x 549755813887 = n ∧ 0 ≤ n ∧ n ≤ 549755813887 := ⟨_, mask39 x, by omega, by omega⟩
theorem masked30 (x : Int) : ∃ n, bits .and .i64 x 1073741823 = n ∧ 0 ≤ n ∧ n ≤ 1073741823 := ⟨_, mask30 x, by omega, by omega⟩
theorem masked20 (x : Int) : ∃ n, bits .and .i64 x 1048575 = n ∧ 0 ≤ n ∧ n ≤ 1048575 := ⟨_, mask20 x, by omega, by omega⟩
theorem mask40 (x : Int) : bits .and .i64 x 1099511627775 = x % 1099511627776 := i64_mask 40 (by decide) x
theorem masked40 (x : Int) : ∃ n, bits .and .i64 x 1099511627775 = n ∧ 0 ≤ n ∧ n ≤ 1099511627775 := ⟨_, mask40 x, by omega, by omega⟩
/-- A weight may be. -/
def may (E P : Int) : Bool := decide (1 ≤ E) && (decide (E ≤ P) && decide (P ≤ 1048576))
end Go.Proofs.Ytpmenmcigflkdaa
