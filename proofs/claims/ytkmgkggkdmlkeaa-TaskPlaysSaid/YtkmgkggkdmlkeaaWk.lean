/- What this seat takes of the windows: bounds, contracts of Check and Heavy. Sliced out of WindowA.src, WindowB.src by slice.py. -/
import Derived.Test.YtkmgkggkdmlkeaaRows
import Derived.Test.YtkmgkggkdmlkeaaWin
import Derived.WalkKit
import Derived.WalkSpells
import Derived.WalkLawsBesides
import Derived.Deep.RegionHeld3
import Derived.Deep.QuietTactic
import Derived.BigQuiet
import Derived.Handy
import Derived.WalkSmall
import Derived.Lib.Hide
namespace Go.Proofs.Ytkmgkggkdmlkeaa
open Go.RowKit
set_option linter.unusedVariables false
set_option linter.unusedSimpArgs false

theorem mul_bd {i P : Int} (h0 : 0 ≤ i) (h1 : i ≤ 1099511627776) (p0 : 0 ≤ P) (p1 : P ≤ 1048576) : 0 ≤ i * P ∧ i * P ≤ 1152921504606846976 := by
  refine ⟨Int.mul_nonneg h0 p0, ?_⟩
  have a := Int.mul_le_mul_of_nonneg_right h1 p0
  have b := Int.mul_le_mul_of_nonneg_left p1 (show (0 : Int) ≤ 1099511627776 by omega)
  omega

theorem sz_drewN (w : World) (n : Nat) : (w.drewN n).heap.size = w.heap.size := rfl

/-- The old cells and marks behind a call that leaves old memory alone. -/
theorem bcell {W w1 : World} (hb : Below W.heap.size W w1) : (∀ b o, b < W.heap.size → w1.cell? ⟨b, o, none⟩ = W.cell? ⟨b, o, none⟩) ∧ (∀ b o, b < W.heap.size → w1.frozen? ⟨b, o, none⟩ = W.frozen? ⟨b, o, none⟩) :=
  ⟨fun b o h => hb.cell (p := ⟨b, o, none⟩) h, fun b o h => hb.frozen (p := ⟨b, o, none⟩) h⟩

theorem grp_bds (E P i : Int) (e1 : 1 ≤ E) (e2 : E ≤ P) (e3 : P ≤ 1048576) (i1 : 1 ≤ i) (i2 : i ≤ 1099511627776) :
    0 ≤ Win.dl E P i ∧ Win.dl E P i ≤ 1152921504606846976 := by
  have m := mul_bd (i := i) (P := P) (by omega) (by omega) (by omega) (by omega)
  refine ⟨Win.up_nonneg (by omega) m.1, Win.up_le (by omega) ?_⟩
  have := Int.mul_le_mul_of_nonneg_left e1 (show (0 : Int) ≤ 1152921504606846976 by omega)
  omega

theorem grp_bds1 (E P i : Int) (e1 : 1 ≤ E) (e2 : E ≤ P) (_e3 : P ≤ 1048576) (h : P - E ≤ E) (i1 : 1 ≤ i) (i2 : i ≤ 1099511627776) :
    0 ≤ Win.dl E P i ∧ Win.dl E P i ≤ 2199023255552 := by
  have m := Int.mul_nonneg (show 0 ≤ i by omega) (show 0 ≤ P by omega)
  have k := Int.mul_le_mul_of_nonneg_left (show P ≤ 2 * E by omega) (show 0 ≤ i by omega)
  have k2 : i * (2 * E) = 2 * i * E := by rw [← Int.mul_assoc, Int.mul_comm i 2]
  have : Win.dl E P i ≤ 2 * i := Win.up_le (by omega) (by omega)
  exact ⟨Win.up_nonneg (by omega) m, by omega⟩

theorem grp_bds2 (d P r : Int) (d0 : 0 ≤ d) (d1 : d ≤ 2199023255552) (r0 : 1 ≤ r) (r1 : r < P) (e3 : P ≤ 1048576) :
    0 ≤ d % P ∧ 0 ≤ d / P ∧ 0 ≤ d % P * r ∧ d % P * r ≤ 1099511627776 ∧ 0 ≤ d / P * r ∧ d / P * r ≤ d ∧ 0 ≤ Win.up (d % P * r) P ∧ Win.up (d % P * r) P ≤ 1048576 ∧
      0 ≤ (d / P * r + Win.up (d % P * r) P) * P ∧ (d / P * r + Win.up (d % P * r) P) * P ≤ 4611686018427387904 := by
  have a1 := Int.emod_nonneg d (b := P) (by omega)
  have a2 := Int.emod_lt_of_pos d (b := P) (by omega)
  have a3 : 0 ≤ d / P := Int.ediv_nonneg d0 (by omega)
  have a4 : 0 ≤ d % P * r := Int.mul_nonneg a1 (by omega)
  have a5 : d % P * r ≤ d % P * P := Int.mul_le_mul_of_nonneg_left (by omega) a1
  have a6 : d % P * P ≤ 1048576 * P := Int.mul_le_mul_of_nonneg_right (by omega) (by omega)
  have a7 : 0 ≤ d / P * r := Int.mul_nonneg a3 (by omega)
  have a8 : d / P * r ≤ d / P * P := Int.mul_le_mul_of_nonneg_left (by omega) a3
  have a9 := Win.fl_le d P (by omega)
  have u0 : 0 ≤ Win.up (d % P * r) P := Win.up_nonneg (by omega) a4
  have u1 : Win.up (d % P * r) P ≤ r := Win.up_le (by omega) (by rw [Int.mul_comm r P]; exact Int.mul_le_mul_of_nonneg_right (by omega) (by omega))
  refine ⟨a1, a3, a4, by omega, a7, by omega, u0, by omega, Int.mul_nonneg (by omega) (by omega), ?_⟩
  rw [Win.grp_k d r P (by omega)]
  have k1 := Win.up_lt (d * r) P (by omega)
  have k2 : d * r ≤ d * P := Int.mul_le_mul_of_nonneg_left (by omega) d0
  have k3 : d * P ≤ 2199023255552 * P := Int.mul_le_mul_of_nonneg_right (by omega) (by omega)
  omega


/-- A weight may be. -/
def may (E P : Int) : Bool := decide (1 ≤ E) && (decide (E ≤ P) && decide (P ≤ 1048576))

set_option maxHeartbeats 400000 in
theorem check_any (E P : Int) (w : World) : Calls Try.prog 33 #[.agg #[.int .i64 E, .int .i64 P]] w fun e w' => e = .returned (.bool (may E P)) ∧ Below w.heap.size w w' := by
  by_cases h1 : 1 ≤ E
  · by_cases h2 : E ≤ P
    · by_cases h3 : P ≤ 1048576
      · have hm : Hid (may E P = true) := by show may E P = true; simp [may, h1, h2, h3]
        go_enter Try.func33, Try.ntmps33
        go_wp2
        go_ret
        exact ⟨by rw [hm.out]; simp [h1, h2, h3], (Below.refl _ _).alloc (Nat.le_refl _) _⟩
      · have hm : Hid (may E P = false) := by show may E P = false; simp [may, h1, h2, h3]
        go_enter Try.func33, Try.ntmps33
        go_wp2
        go_ret
        exact ⟨by rw [hm.out]; simp [h1, h2, h3], (Below.refl _ _).alloc (Nat.le_refl _) _⟩
    · have hm : Hid (may E P = false) := by show may E P = false; simp [may, h1, h2]
      go_enter Try.func33, Try.ntmps33
      go_wp2
      go_ret
      exact ⟨by rw [hm.out]; simp [h1, h2], (Below.refl _ _).alloc (Nat.le_refl _) _⟩
  · have hm : Hid (may E P = false) := by show may E P = false; simp [may, h1]
    go_enter Try.func33, Try.ntmps33
    go_wp2
    go_ret
    exact ⟨by rw [hm.out]; simp [h1], (Below.refl _ _).alloc (Nat.le_refl _) _⟩

theorem check_yes (E P : Int) (w : World) (e1 : 1 ≤ E) (e2 : E ≤ P) (e3 : P ≤ 1048576) : Calls Try.prog 33 #[.agg #[.int .i64 E, .int .i64 P]] w fun e w' => e = .returned (.bool true) ∧ Below w.heap.size w w' :=
  (check_any E P w).mono fun _ _ h => ⟨by rw [h.1]; simp [may, e1, e2, e3], h.2⟩

set_option maxHeartbeats 400000 in
theorem heavy_yes (E P : Int) (w : World) (e1 : 1 ≤ E) (e2 : E ≤ P) (e3 : P ≤ 1048576) (h : P - E ≤ E) : Calls Try.prog 43 #[.agg #[.int .i64 E, .int .i64 P]] w fun e w' => e = .returned (.bool true) ∧ Below w.heap.size w w' := by
  go_enter Try.func43, Try.ntmps43
  go_wp2_with (go_at_call 33; refine (check_yes _ _ _ e1 e2 e3).mono ?_; rintro e w' ⟨rfl, hb⟩; obtain ⟨hc, hf⟩ := bcell hb)
  go_ret
  exact ⟨by first | rfl | (simp; omega), ((Below.refl _ _).alloc (Nat.le_refl _) _).trans (hb.mono (by simp))⟩

set_option maxHeartbeats 400000 in
theorem heavy_no (E P : Int) (w : World) (e1 : 1 ≤ E) (e2 : E ≤ P) (e3 : P ≤ 1048576) (h : ¬ P - E ≤ E) : Calls Try.prog 43 #[.agg #[.int .i64 E, .int .i64 P]] w fun e w' => e = .returned (.bool false) ∧ Below w.heap.size w w' := by
  go_enter Try.func43, Try.ntmps43
  go_wp2_with (go_at_call 33; refine (check_yes _ _ _ e1 e2 e3).mono ?_; rintro e w' ⟨rfl, hb⟩; obtain ⟨hc, hf⟩ := bcell hb)
  go_ret
  exact ⟨by first | rfl | (simp; omega), ((Below.refl _ _).alloc (Nat.le_refl _) _).trans (hb.mono (by simp))⟩

theorem held_of {W x : World} (h : Below W.heap.size W x) : Below W.heap.size W x ∧ (∀ b o, b < W.heap.size → x.cell? ⟨b, o, none⟩ = W.cell? ⟨b, o, none⟩) ∧ (∀ b o, b < W.heap.size → x.frozen? ⟨b, o, none⟩ = W.frozen? ⟨b, o, none⟩) := ⟨h, bcell h⟩

theorem below_realloc {B : Nat} {a x : World} {o o' : Obj} (hz : B ≤ x.heap.size) (h : Below B a (x.alloc o)) : Below B a (x.alloc o') :=
  ⟨h.os, h.tape, h.output, by have := h.size; simp at this ⊢; omega, fun k hk => by rw [Below.heap_alloc _ _ _ (by omega), ← Below.heap_alloc _ o _ (by omega)]; exact h.block k hk⟩

theorem bel_call {B : Nat} {a w w1 : World} (h : Below B a w) (hB : B ≤ w.heap.size) (hb : Below w.heap.size w w1) : Below B a w1 := h.trans (hb.mono hB)

theorem keep2 {w0 wp w1 : World} {b : Nat} {u v : Value} (h : Below w0.heap.size w0 wp ∧ b < wp.heap.size ∧ wp.cell? ⟨b, 0, none⟩ = some u ∧ wp.cell? ⟨b, 1, none⟩ = some v) (hs : w0.heap.size ≤ wp.heap.size) (hb : Below wp.heap.size wp w1) :
    Below w0.heap.size w0 w1 ∧ b < w1.heap.size ∧ w1.cell? ⟨b, 0, none⟩ = some u ∧ w1.cell? ⟨b, 1, none⟩ = some v :=
  ⟨bel_call h.1 hs hb, Nat.lt_of_lt_of_le h.2.1 hb.size, (hb.cell (p := ⟨b, 0, none⟩) h.2.1).trans h.2.2.1, (hb.cell (p := ⟨b, 1, none⟩) h.2.1).trans h.2.2.2⟩

theorem long_bd (E P i : Int) (e1 : 1 ≤ E) (e2 : E ≤ P) (e3 : P ≤ 1048576) (i1 : 1 ≤ i) (i2 : i ≤ 1099511627776) : 0 ≤ Win.rel E P i ∧ Win.rel E P i ≤ Win.dl E P i ∧ Win.dl E P i ≤ 1152921504606846976 := by
  have a := grp_bds E P i e1 e2 e3 i1 i2
  have b := Win.rel_lt_dl E P i (by omega) (by omega)
  exact ⟨Int.ediv_nonneg (Int.mul_nonneg (by omega) (by omega)) (by omega), by omega, a.2⟩

theorem i64_mask (j : Nat) (hj : j ≤ 62) (x : Int) : bits .and .i64 x ((2 ^ j - 1 : Nat) : Int) = x % (2 ^ j : Nat) := by
  have hp : (2 : Nat) ^ j ≤ 2 ^ 62 := Nat.pow_le_pow_right (by omega) hj
  have h0 : 0 < (2 : Nat) ^ j := Nat.pow_pos (by omega)
  show IntKind.i64.wrap ((BitVec.ofInt 64 x &&& BitVec.ofInt 64 ((2 ^ j - 1 : Nat) : Int)).toNat : Int) = _
  rw [BitVec.toNat_and, BitVec.ofInt_natCast, BitVec.toNat_ofNat, Nat.mod_eq_of_lt (a := 2 ^ j - 1) (by omega), Nat.and_two_pow_sub_one_eq_mod]
  rw [BitVec.toNat_ofInt, IntKind.wrap_i64]
  have hd : ((2 ^ j : Nat) : Int) ∣ (2 ^ 64 : Nat) := by
    refine ⟨((2 ^ (64 - j) : Nat) : Int), ?_⟩
    rw [← Int.natCast_mul, ← Nat.pow_add, show j + (64 - j) = 64 by omega]
  have e : ((x % ((2 ^ 64 : Nat) : Int)).toNat % 2 ^ j : Nat) = ((x % ((2 ^ j : Nat) : Int)) : Int) := by
    rw [Int.natCast_emod, Int.toNat_of_nonneg (Int.emod_nonneg _ (by decide)), Int.emod_emod_of_dvd _ hd]
  rw [e]
  have a := Int.emod_nonneg x (b := ((2 ^ j : Nat) : Int)) (by omega)
  have b := Int.emod_lt_of_pos x (b := ((2 ^ j : Nat) : Int)) (by omega)
  omega

theorem mask20 (x : Int) : bits .and .i64 x 1048575 = x % 1048576 := i64_mask 20 (by decide) x

theorem mask39 (x : Int) : bits .and .i64 x 549755813887 = x % 549755813888 := i64_mask 39 (by decide) x

theorem mask30 (x : Int) : bits .and .i64 x 1073741823 = x % 1073741824 := i64_mask 30 (by decide) x

/-- A weight by numbers. -/
def pOf (q : Int) : Int := 1 + q % 1048576

def eOf (q p : Int) : Int := 1 + q.tmod p % p

theorem pOf_bd (q : Int) : 1 ≤ pOf q ∧ pOf q ≤ 1048576 := by unfold pOf; omega

theorem eOf_bd (q p : Int) (h : 1 ≤ p) : 1 ≤ eOf q p ∧ eOf q p ≤ p := by
  unfold eOf
  have a := Int.emod_nonneg (q.tmod p) (b := p) (by omega)
  have b := Int.emod_lt_of_pos (q.tmod p) (b := p) (by omega)
  omega

theorem bel_chain {a w w1 : World} (h : Below a.heap.size a w) (hb : Below w.heap.size w w1) : Below a.heap.size a w1 := h.trans (hb.mono h.size)

def setc (w : World) (a : Addr) (v : Value) : World := w.setCell a v

theorem mark_set (w : World) (a : Addr) (v : Value) : w.setCell a v = setc w a v := rfl

theorem below_setc {B : Nat} {a w : World} {p : Addr} {u : Value} (h : Below B a w) (hp : B ≤ p.block) : Below B a (setc w p u) := h.setCell hp u

set_option maxHeartbeats 800000 in
theorem made_any (q0 q1 : Int) (w : World) :
    Calls Try.prog 11 #[.agg #[.int .i64 q0, .int .i64 q1]] w fun e w' => e = .returned (.agg #[.int .i64 (eOf q0 (pOf q1)), .int .i64 (pOf q1)]) ∧ Below w.heap.size w w' := by
  have hp := mask20 q1
  have b1 : 1 ≤ 1 + q1 % 1048576 := by omega
  have b2 : 1 + q1 % 1048576 ≤ 1048576 := by omega
  have b3 : 0 ≤ q0.tmod (1 + q1 % 1048576) + (1 + q1 % 1048576) := by
    have := Int.lt_tmod_of_pos q0 (b := 1 + q1 % 1048576) (by omega); omega
  have b4 : q0.tmod (1 + q1 % 1048576) + (1 + q1 % 1048576) ≤ 2097152 := by
    have := Int.tmod_lt_of_pos q0 (b := 1 + q1 % 1048576) (by omega); omega
  have b5 : 0 ≤ (q0.tmod (1 + q1 % 1048576) + (1 + q1 % 1048576)) % (1 + q1 % 1048576) := Int.emod_nonneg _ (by omega)
  have b6 : (q0.tmod (1 + q1 % 1048576) + (1 + q1 % 1048576)) % (1 + q1 % 1048576) ≤ 1048576 := by
    have := Int.emod_lt_of_pos (q0.tmod (1 + q1 % 1048576) + (1 + q1 % 1048576)) (b := 1 + q1 % 1048576) (by omega); omega
  have b7 := Int.emod_nonneg (q0.tmod (1 + q1 % 1048576)) (b := 1 + q1 % 1048576) (by omega)
  have b8 := Int.emod_lt_of_pos (q0.tmod (1 + q1 % 1048576)) (b := 1 + q1 % 1048576) (by omega)
  go_enter Try.func11, Try.ntmps11
  go_wp2
  exact bodyPost_ret (v := .agg #[.int .i64 (eOf q0 (pOf q1)), .int .i64 (pOf q1)]) (by simp [results, Try.results11, go_sem]; exact ⟨rfl, rfl⟩) rfl ⟨rfl, (by repeat' (first | (with_reducible exact Below.refl _ _) | (with_reducible refine Below.alloc ?_ ?_ _) | (with_reducible refine below_drewN ?_ _) | (with_reducible refine Below.drew ?_) | (with_reducible refine Below.setCell ?_ ?_ _) | omega | (simp; omega) | (simp; done)))⟩

end Go.Proofs.Ytkmgkggkdmlkeaa
