/- Contracts of the window's exported functions. -/
import Derived.Test.YtamonmhicjejoaaWa
import Derived.Deep.DeepCutAuto
namespace Go.Proofs.Ytamonmhicjejoaa
open Go.RowKit
set_option linter.unusedVariables false
set_option linter.unusedSimpArgs false

/-- A weight may be. -/
def may (E P : Int) : Bool := decide (1 ≤ E) && (decide (E ≤ P) && decide (P ≤ 1048576))

set_option maxHeartbeats 400000 in
theorem check_any (E P : Int) (w : World) : Calls Try.prog 34 #[.agg #[.int .i64 E, .int .i64 P]] w fun e w' => e = .returned (.bool (may E P)) ∧ Below w.heap.size w w' := by
  by_cases h1 : 1 ≤ E
  · by_cases h2 : E ≤ P
    · by_cases h3 : P ≤ 1048576
      · have hm : Hid (may E P = true) := by show may E P = true; simp [may, h1, h2, h3]
        go_enter Try.func34, Try.ntmps34
        go_wp2
        go_ret
        exact ⟨by rw [hm.out]; simp [h1, h2, h3], (Below.refl _ _).alloc (Nat.le_refl _) _⟩
      · have hm : Hid (may E P = false) := by show may E P = false; simp [may, h1, h2, h3]
        go_enter Try.func34, Try.ntmps34
        go_wp2
        go_ret
        exact ⟨by rw [hm.out]; simp [h1, h2, h3], (Below.refl _ _).alloc (Nat.le_refl _) _⟩
    · have hm : Hid (may E P = false) := by show may E P = false; simp [may, h1, h2]
      go_enter Try.func34, Try.ntmps34
      go_wp2
      go_ret
      exact ⟨by rw [hm.out]; simp [h1, h2], (Below.refl _ _).alloc (Nat.le_refl _) _⟩
  · have hm : Hid (may E P = false) := by show may E P = false; simp [may, h1]
    go_enter Try.func34, Try.ntmps34
    go_wp2
    go_ret
    exact ⟨by rw [hm.out]; simp [h1], (Below.refl _ _).alloc (Nat.le_refl _) _⟩

theorem check_yes (E P : Int) (w : World) (e1 : 1 ≤ E) (e2 : E ≤ P) (e3 : P ≤ 1048576) : Calls Try.prog 34 #[.agg #[.int .i64 E, .int .i64 P]] w fun e w' => e = .returned (.bool true) ∧ Below w.heap.size w w' :=
  (check_any E P w).mono fun _ _ h => ⟨by rw [h.1]; simp [may, e1, e2, e3], h.2⟩

set_option maxHeartbeats 400000 in
theorem heavy_yes (E P : Int) (w : World) (e1 : 1 ≤ E) (e2 : E ≤ P) (e3 : P ≤ 1048576) (h : P - E ≤ E) : Calls Try.prog 27 #[.agg #[.int .i64 E, .int .i64 P]] w fun e w' => e = .returned (.bool true) ∧ Below w.heap.size w w' := by
  go_enter Try.func27, Try.ntmps27
  go_wp2_with (go_at_call 34; refine (check_yes _ _ _ e1 e2 e3).mono ?_; rintro e w' ⟨rfl, hb⟩; obtain ⟨hc, hf⟩ := bcell hb)
  go_ret
  exact ⟨by first | rfl | (simp; omega), ((Below.refl _ _).alloc (Nat.le_refl _) _).trans (hb.mono (by simp))⟩
set_option maxHeartbeats 400000 in
theorem heavy_no (E P : Int) (w : World) (e1 : 1 ≤ E) (e2 : E ≤ P) (e3 : P ≤ 1048576) (h : ¬ P - E ≤ E) : Calls Try.prog 27 #[.agg #[.int .i64 E, .int .i64 P]] w fun e w' => e = .returned (.bool false) ∧ Below w.heap.size w w' := by
  go_enter Try.func27, Try.ntmps27
  go_wp2_with (go_at_call 34; refine (check_yes _ _ _ e1 e2 e3).mono ?_; rintro e w' ⟨rfl, hb⟩; obtain ⟨hc, hf⟩ := bcell hb)
  go_ret
  exact ⟨by first | rfl | (simp; omega), ((Below.refl _ _).alloc (Nat.le_refl _) _).trans (hb.mono (by simp))⟩

set_option maxHeartbeats 400000 in
theorem has_yes (E P i : Int) (w : World) (e1 : 1 ≤ E) (e2 : E ≤ P) (e3 : P ≤ 1048576) (i1 : 1 ≤ i) (i2 : i ≤ 1099511627776) :
    Calls Try.prog 52 #[.agg #[.int .i64 E, .int .i64 P], .int .i64 i] w fun e w' => e = .returned (.bool true) ∧ Below w.heap.size w w' := by
  go_enter Try.func52, Try.ntmps52
  go_wp2_with (go_at_call 34; refine (check_yes _ _ _ e1 e2 e3).mono ?_; rintro e w' ⟨rfl, hb⟩; obtain ⟨hc, hf⟩ := bcell hb)
  go_ret
  exact ⟨by first | rfl | (simp; omega), ((Below.refl _ _).alloc (Nat.le_refl _) _).trans (hb.mono (by simp))⟩


theorem held_of {W x : World} (h : Below W.heap.size W x) : Below W.heap.size W x ∧ (∀ b o, b < W.heap.size → x.cell? ⟨b, o, none⟩ = W.cell? ⟨b, o, none⟩) ∧ (∀ b o, b < W.heap.size → x.frozen? ⟨b, o, none⟩ = W.frozen? ⟨b, o, none⟩) := ⟨h, bcell h⟩
theorem below_realloc {B : Nat} {a x : World} {o o' : Obj} (hz : B ≤ x.heap.size) (h : Below B a (x.alloc o)) : Below B a (x.alloc o') :=
  ⟨h.os, h.tape, h.output, by have := h.size; simp at this ⊢; omega, fun k hk => by rw [Below.heap_alloc _ _ _ (by omega), ← Below.heap_alloc _ o _ (by omega)]; exact h.block k hk⟩
theorem bel_call {B : Nat} {a w w1 : World} (h : Below B a w) (hB : B ≤ w.heap.size) (hb : Below w.heap.size w w1) : Below B a w1 := h.trans (hb.mono hB)

set_option maxHeartbeats 400000 in
theorem Release_any (E P i : Int) (w : World) (e1 : 1 ≤ E) (e2 : E ≤ P) (e3 : P ≤ 1048576) (i1 : 1 ≤ i) (i2 : i ≤ 1099511627776) :
    Calls Try.prog 29 #[.agg #[.int .i64 E, .int .i64 P], .int .i64 i] w fun e w' => e = .returned (.int .i64 (Win.rel E P i)) ∧ Below w.heap.size w w' := by
  go_enter Try.func29, Try.ntmps29
  go_wp2_with (first
    | (go_at_call 52; refine (has_yes E P i _ e1 e2 e3 i1 i2).mono ?_; rintro e w' ⟨rfl, hb⟩; obtain ⟨hc, hf⟩ := bcell hb)
    | (go_at_call 45; refine (release_any E P i _ e1 e2 e3 i1 i2).mono ?_; rintro e w'' ⟨rfl, hb2⟩; obtain ⟨hc2, hf2⟩ := bcell hb2)
    | go_in)
  go_ret
  exact ⟨rfl, (by have s0_ := hb.size; have s1_ := hb2.size; (try simp only [World.size_alloc, World.size_setCell, World.size_drew, sz_drewN] at s0_ s1_); repeat' (first | (with_reducible exact Below.refl _ _) | (with_reducible refine bel_call ?_ ?_ hb2) | (with_reducible refine bel_call ?_ ?_ hb) | (with_reducible refine Below.alloc ?_ ?_ _) | (with_reducible refine below_drewN ?_ _) | (with_reducible refine Below.drew ?_) | (with_reducible refine Below.setCell ?_ ?_ _) | omega | (simp; omega) | (simp; done)))⟩

set_option maxHeartbeats 400000 in
theorem Deadline_any (E P i : Int) (w : World) (e1 : 1 ≤ E) (e2 : E ≤ P) (e3 : P ≤ 1048576) (i1 : 1 ≤ i) (i2 : i ≤ 1099511627776) :
    Calls Try.prog 28 #[.agg #[.int .i64 E, .int .i64 P], .int .i64 i] w fun e w' => e = .returned (.int .i64 (Win.dl E P i)) ∧ Below w.heap.size w w' := by
  go_enter Try.func28, Try.ntmps28
  go_wp2_with (first
    | (go_at_call 52; refine (has_yes E P i _ e1 e2 e3 i1 i2).mono ?_; rintro e w' ⟨rfl, hb⟩; obtain ⟨hc, hf⟩ := bcell hb)
    | (go_at_call 44; refine (deadline_any E P i _ e1 e2 e3 i1 i2).mono ?_; rintro e w'' ⟨rfl, hb2⟩; obtain ⟨hc2, hf2⟩ := bcell hb2)
    | go_in)
  go_ret
  exact ⟨rfl, (by have s0_ := hb.size; have s1_ := hb2.size; (try simp only [World.size_alloc, World.size_setCell, World.size_drew, sz_drewN] at s0_ s1_); repeat' (first | (with_reducible exact Below.refl _ _) | (with_reducible refine bel_call ?_ ?_ hb2) | (with_reducible refine bel_call ?_ ?_ hb) | (with_reducible refine Below.alloc ?_ ?_ _) | (with_reducible refine below_drewN ?_ _) | (with_reducible refine Below.drew ?_) | (with_reducible refine Below.setCell ?_ ?_ _) | omega | (simp; omega) | (simp; done)))⟩

set_option maxHeartbeats 400000 in
theorem Group_any (E P i : Int) (w : World) (e1 : 1 ≤ E) (e2 : E ≤ P) (e3 : P ≤ 1048576) (i1 : 1 ≤ i) (i2 : i ≤ 1099511627776) :
    Calls Try.prog 26 #[.agg #[.int .i64 E, .int .i64 P], .int .i64 i] w fun e w' => e = .returned (.int .i64 (Win.grp E P i)) ∧ Below w.heap.size w w' := by
  go_enter Try.func26, Try.ntmps26
  go_wp2_with (first
    | (go_at_call 52; refine (has_yes E P i _ e1 e2 e3 i1 i2).mono ?_; rintro e w' ⟨rfl, hb⟩; obtain ⟨hc, hf⟩ := bcell hb)
    | (go_at_call 43; refine (group_any E P i _ e1 e2 e3 i1 i2).mono ?_; rintro e w'' ⟨rfl, hb2⟩; obtain ⟨hc2, hf2⟩ := bcell hb2)
    | go_in)
  go_ret
  exact ⟨rfl, (by have s0_ := hb.size; have s1_ := hb2.size; (try simp only [World.size_alloc, World.size_setCell, World.size_drew, sz_drewN] at s0_ s1_); repeat' (first | (with_reducible exact Below.refl _ _) | (with_reducible refine bel_call ?_ ?_ hb2) | (with_reducible refine bel_call ?_ ?_ hb) | (with_reducible refine Below.alloc ?_ ?_ _) | (with_reducible refine below_drewN ?_ _) | (with_reducible refine Below.drew ?_) | (with_reducible refine Below.setCell ?_ ?_ _) | omega | (simp; omega) | (simp; done)))⟩

set_option maxHeartbeats 400000 in
theorem Bit_any (E P i : Int) (w : World) (e1 : 1 ≤ E) (e2 : E ≤ P) (e3 : P ≤ 1048576) (i1 : 1 ≤ i) (i2 : i ≤ 1099511627776) :
    Calls Try.prog 30 #[.agg #[.int .i64 E, .int .i64 P], .int .i64 i] w fun e w' => e = .returned (.int .i64 (Win.bit E P i)) ∧ Below w.heap.size w w' := by
  go_enter Try.func30, Try.ntmps30
  go_wp2_with (first
    | (go_at_call 52; refine (has_yes E P i _ e1 e2 e3 i1 i2).mono ?_; rintro e w' ⟨rfl, hb⟩; obtain ⟨hc, hf⟩ := bcell hb)
    | (go_at_call 47; refine (bit_any E P i _ e1 e2 e3 i1 i2).mono ?_; rintro e w'' ⟨rfl, hb2⟩; obtain ⟨hc2, hf2⟩ := bcell hb2)
    | go_in)
  go_ret
  exact ⟨rfl, (by have s0_ := hb.size; have s1_ := hb2.size; (try simp only [World.size_alloc, World.size_setCell, World.size_drew, sz_drewN] at s0_ s1_); repeat' (first | (with_reducible exact Below.refl _ _) | (with_reducible refine bel_call ?_ ?_ hb2) | (with_reducible refine bel_call ?_ ?_ hb) | (with_reducible refine Below.alloc ?_ ?_ _) | (with_reducible refine below_drewN ?_ _) | (with_reducible refine Below.drew ?_) | (with_reducible refine Below.setCell ?_ ?_ _) | omega | (simp; omega) | (simp; done)))⟩

theorem keep2 {w0 wp w1 : World} {b : Nat} {u v : Value} (h : Below w0.heap.size w0 wp ∧ b < wp.heap.size ∧ wp.cell? ⟨b, 0, none⟩ = some u ∧ wp.cell? ⟨b, 1, none⟩ = some v) (hs : w0.heap.size ≤ wp.heap.size) (hb : Below wp.heap.size wp w1) :
    Below w0.heap.size w0 w1 ∧ b < w1.heap.size ∧ w1.cell? ⟨b, 0, none⟩ = some u ∧ w1.cell? ⟨b, 1, none⟩ = some v :=
  ⟨bel_call h.1 hs hb, Nat.lt_of_lt_of_le h.2.1 hb.size, (hb.cell (p := ⟨b, 0, none⟩) h.2.1).trans h.2.2.1, (hb.cell (p := ⟨b, 1, none⟩) h.2.1).trans h.2.2.2⟩

theorem long_bd (E P i : Int) (e1 : 1 ≤ E) (e2 : E ≤ P) (e3 : P ≤ 1048576) (i1 : 1 ≤ i) (i2 : i ≤ 1099511627776) : 0 ≤ Win.rel E P i ∧ Win.rel E P i ≤ Win.dl E P i ∧ Win.dl E P i ≤ 1152921504606846976 := by
  have a := grp_bds E P i e1 e2 e3 i1 i2
  have b := Win.rel_lt_dl E P i (by omega) (by omega)
  exact ⟨Int.ediv_nonneg (Int.mul_nonneg (by omega) (by omega)) (by omega), by omega, a.2⟩

set_option maxHeartbeats 800000 in
theorem Long_any (E P i : Int) (w : World) (e1 : 1 ≤ E) (e2 : E ≤ P) (e3 : P ≤ 1048576) (i1 : 1 ≤ i) (i2 : i ≤ 1099511627776) :
    Calls Try.prog 33 #[.agg #[.int .i64 E, .int .i64 P], .int .i64 i] w fun e w' => e = .returned (.int .i64 (Win.dl E P i - Win.rel E P i)) ∧ Below w.heap.size w w' := by
  obtain ⟨d1, d2, d3⟩ := long_bd E P i e1 e2 e3 i1 i2
  have hw : Hid (IntKind.i64.wrap (Win.dl E P i - Win.rel E P i) = Win.dl E P i - Win.rel E P i) := IntWalk.i64_in _ (by omega)
  go_enter Try.func33, Try.ntmps33
  go_wp2_with fail
  go_region_held3 (fun w' => Below w.heap.size w w' ∧ w.heap.size < w'.heap.size ∧ w'.cell? ⟨w.heap.size, 0, none⟩ = some (.int .i64 E) ∧ w'.cell? ⟨w.heap.size, 1, none⟩ = some (.int .i64 P))
    (first | exact keep2 (by assumption) (by omega) hb | exact ⟨(by repeat' (first | (with_reducible exact Below.refl _ _) | (with_reducible refine Below.alloc ?_ ?_ _) | (with_reducible refine below_drewN ?_ _) | (with_reducible refine Below.drew ?_) | (with_reducible refine Below.setCell ?_ ?_ _) | omega | (simp; omega) | (simp; done))), by simp, by simp, by simp⟩)
    (first
      | (go_at_call 28; refine (Deadline_any E P i _ e1 e2 e3 i1 i2).mono ?_; rintro e w1 ⟨rfl, hb⟩)
      | (go_at_call 29; refine (Release_any E P i _ e1 e2 e3 i1 i2).mono ?_; rintro e w1 ⟨rfl, hb⟩))
  go_wp2
  go_ret
  exact ⟨by first | rfl | (rw [hw.out]; rfl), ‹Below w.heap.size w _ ∧ _›.1⟩

theorem i64_mask (j : Nat) (hj : j ≤ 62) (x : Int) : bits .and .i64 x ((2 ^ j - 1 : Nat) : Int) = x % (2 ^ j : Nat) := by
  have hp : (2 : Nat) ^ j ≤ 2 ^ 62 := Nat.pow_le_pow_right (by omega) hj
  have h0 : 0 < (2 : Nat) ^ j := Nat.pow_pos (by omega)
  show IntKind.i64.wrap ((BitVec.ofInt 64 x &&& BitVec.ofInt 64 ((2 ^ j - 1 : Nat) : Int)).toNat : Int) = _
  rw [BitVec.toNat_and, BitVec.ofInt_natCast, BitVec.toNat_ofNat, Nat.mod_eq_of_lt (a := 2 ^ j - 1) (by omega), Nat.and_two_pow_sub_one_eq_mod]
  rw [BitVec.toNat_ofInt, IntKind.wrap_i64]
  have hd : ((2 ^ j : Nat) : Int) ∣ (2 ^ 64 : Nat) := by
    refine ⟨((2 ^ (64 - j) : Nat) : Int), ?_⟩
    rw [← Int.natCast_mul, ← Nat.pow_add, show j + (64 - j) = 64 by omega]
  have e : ((x % ((2 ^ 64 : Nat) : Int)).toNat % 2 ^ j : Nat) = ((x % ((2 ^ j : Nat) : Int)) : Int) := by
    rw [Int.natCast_emod, Int.toNat_of_nonneg (Int.emod_nonneg _ (by decide)), Int.emod_emod_of_dvd _ hd]
  rw [e]
  have a := Int.emod_nonneg x (b := ((2 ^ j : Nat) : Int)) (by omega)
  have b := Int.emod_lt_of_pos x (b := ((2 ^ j : Nat) : Int)) (by omega)
  omega

theorem mask20 (x : Int) : bits .and .i64 x 1048575 = x % 1048576 := i64_mask 20 (by decide) x
theorem mask39 (x : Int) : bits .and .i64 x 549755813887 = x % 549755813888 := i64_mask 39 (by decide) x
theorem mask30 (x : Int) : bits .and .i64 x 1073741823 = x % 1073741824 := i64_mask 30 (by decide) x

/-- A weight by numbers. -/
def pOf (q : Int) : Int := 1 + q % 1048576
def eOf (q p : Int) : Int := 1 + q.tmod p % p
theorem pOf_bd (q : Int) : 1 ≤ pOf q ∧ pOf q ≤ 1048576 := by unfold pOf; omega
theorem eOf_bd (q p : Int) (h : 1 ≤ p) : 1 ≤ eOf q p ∧ eOf q p ≤ p := by
  unfold eOf
  have a := Int.emod_nonneg (q.tmod p) (b := p) (by omega)
  have b := Int.emod_lt_of_pos (q.tmod p) (b := p) (by omega)
  omega

set_option maxHeartbeats 800000 in
theorem made_any (q0 q1 : Int) (w : World) :
    Calls Try.prog 25 #[.agg #[.int .i64 q0, .int .i64 q1]] w fun e w' => e = .returned (.agg #[.int .i64 (eOf q0 (pOf q1)), .int .i64 (pOf q1)]) ∧ Below w.heap.size w w' := by
  have hp := mask20 q1
  have b1 : 1 ≤ 1 + q1 % 1048576 := by omega
  have b2 : 1 + q1 % 1048576 ≤ 1048576 := by omega
  have b3 : 0 ≤ q0.tmod (1 + q1 % 1048576) + (1 + q1 % 1048576) := by
    have := Int.lt_tmod_of_pos q0 (b := 1 + q1 % 1048576) (by omega); omega
  have b4 : q0.tmod (1 + q1 % 1048576) + (1 + q1 % 1048576) ≤ 2097152 := by
    have := Int.tmod_lt_of_pos q0 (b := 1 + q1 % 1048576) (by omega); omega
  have b5 : 0 ≤ (q0.tmod (1 + q1 % 1048576) + (1 + q1 % 1048576)) % (1 + q1 % 1048576) := Int.emod_nonneg _ (by omega)
  have b6 : (q0.tmod (1 + q1 % 1048576) + (1 + q1 % 1048576)) % (1 + q1 % 1048576) ≤ 1048576 := by
    have := Int.emod_lt_of_pos (q0.tmod (1 + q1 % 1048576) + (1 + q1 % 1048576)) (b := 1 + q1 % 1048576) (by omega); omega
  have b7 := Int.emod_nonneg (q0.tmod (1 + q1 % 1048576)) (b := 1 + q1 % 1048576) (by omega)
  have b8 := Int.emod_lt_of_pos (q0.tmod (1 + q1 % 1048576)) (b := 1 + q1 % 1048576) (by omega)
  go_enter Try.func25, Try.ntmps25
  go_wp2
  exact bodyPost_ret (v := .agg #[.int .i64 (eOf q0 (pOf q1)), .int .i64 (pOf q1)]) (by simp [results, Try.results25, go_sem]; exact ⟨rfl, rfl⟩) rfl ⟨rfl, (by repeat' (first | (with_reducible exact Below.refl _ _) | (with_reducible refine Below.alloc ?_ ?_ _) | (with_reducible refine below_drewN ?_ _) | (with_reducible refine Below.drew ?_) | (with_reducible refine Below.setCell ?_ ?_ _) | omega | (simp; omega) | (simp; done)))⟩

theorem bel_chain {a w w1 : World} (h : Below a.heap.size a w) (hb : Below w.heap.size w w1) : Below a.heap.size a w1 := h.trans (hb.mono h.size)
def setc (w : World) (a : Addr) (v : Value) : World := w.setCell a v
theorem mark_set (w : World) (a : Addr) (v : Value) : w.setCell a v = setc w a v := rfl
theorem below_setc {B : Nat} {a w : World} {p : Addr} {u : Value} (h : Below B a w) (hp : B ≤ p.block) : Below B a (setc w p u) := h.setCell hp u
set_option maxHeartbeats 3000000 in
theorem of_ex (w : World) :
    Calls Try.prog 41 #[.agg #[.int .i64 8, .int .i64 11], .int .i64 3, .int .i64 0] w fun e w' => e = .returned (.tuple #[.agg #[.int .i64 3, .int .i64 2, .int .i64 5, .int .i64 1, .int .i64 8], .int .i64 0]) ∧ Below w.heap.size w w' := by
  have r1 : Win.rel 8 11 3 = 2 := by decide
  have r2 : Win.dl 8 11 3 = 5 := by decide
  have r3 : Win.bit 8 11 3 = 1 := by decide
  have r4 : Win.grp 8 11 3 = 8 := by decide
  go_enter Try.func41, Try.ntmps41
  go_upto_region 4 with (go_at_call 52; refine (has_yes 8 11 3 _ (by omega) (by omega) (by omega) (by omega) (by omega)).mono ?_; rintro e w' ⟨rfl, hb0⟩; obtain ⟨hc0, hf0⟩ := bcell hb0)
  have s0 := hb0.size
  simp only [World.size_alloc] at s0
  have z0 : w.heap.size < w'.heap.size := by omega
  have z1 : w.heap.size + 1 < w'.heap.size := by omega
  have z2 : w.heap.size + 1 + 1 < w'.heap.size := by omega
  go_cut [9] (fun s9 wx => ∃ g : Nat, s9 = .pointer (some ⟨g, 0, none⟩) ∧ w'.heap.size ≤ g ∧ g < wx.heap.size ∧ wx.cell? ⟨g, 0, none⟩ = some (.int .i64 3) ∧ wx.cell? ⟨g, 1, none⟩ = some (.int .i64 2) ∧ wx.cell? ⟨g, 2, none⟩ = some (.int .i64 5) ∧ wx.cell? ⟨g, 3, none⟩ = some (.int .i64 1) ∧ wx.cell? ⟨g, 4, none⟩ = some (.int .i64 8) ∧
      wx.frozen? ⟨g, 0, none⟩ = false ∧ wx.frozen? ⟨g, 1, none⟩ = false ∧ wx.frozen? ⟨g, 2, none⟩ = false ∧ wx.frozen? ⟨g, 3, none⟩ = false ∧ wx.frozen? ⟨g, 4, none⟩ = false ∧ Below w'.heap.size w' wx)
  case first =>
    go_region_held3 (fun x => Below (w').heap.size (w') x ∧ (∀ b o, b < (w').heap.size → x.cell? ⟨b, o, none⟩ = (w').cell? ⟨b, o, none⟩) ∧ (∀ b o, b < (w').heap.size → x.frozen? ⟨b, o, none⟩ = (w').frozen? ⟨b, o, none⟩)) ((first | (simp only [mark_set]; refine held_of ?_; repeat' (first | (with_reducible exact (by with_reducible assumption : Below _ _ _ ∧ _).1) | (with_reducible refine below_setc ?_ ?_) | omega | (simp; done) | (simp; omega))) | (with_reducible exact held_of ((by with_reducible assumption : Below _ _ _ ∧ _).1.trans (hb.mono (by with_reducible assumption : Below _ _ _ ∧ _).1.size))) | (with_reducible exact held_of (Below.drew (Below.refl _ _))) | (with_reducible exact held_of ((by with_reducible assumption : Below _ _ _ ∧ _).1.alloc (by with_reducible assumption : Below _ _ _ ∧ _).1.size _)) | (with_reducible exact held_of (below_realloc hz (by with_reducible assumption : Below _ _ (World.alloc _ _) ∧ _).1)))) (first
      | (go_at_call 45; refine (release_any 8 11 3 _ (by omega) (by omega) (by omega) (by omega) (by omega)).mono ?_; rintro e w1 ⟨rfl, hb⟩; obtain ⟨hc, hf⟩ := bcell hb; (try (have hbc := bel_chain (by with_reducible assumption) hb; obtain ⟨hcc, hfc⟩ := bcell hbc)); have hz := Nat.le_trans (by with_reducible assumption : Below (w').heap.size (w') _ ∧ _).1.size hb.size)
      | (go_at_call 44; refine (deadline_any 8 11 3 _ (by omega) (by omega) (by omega) (by omega) (by omega)).mono ?_; rintro e w1 ⟨rfl, hb⟩; obtain ⟨hc, hf⟩ := bcell hb; (try (have hbc := bel_chain (by with_reducible assumption) hb; obtain ⟨hcc, hfc⟩ := bcell hbc)); have hz := Nat.le_trans (by with_reducible assumption : Below (w').heap.size (w') _ ∧ _).1.size hb.size)
      | (go_at_call 47; refine (bit_any 8 11 3 _ (by omega) (by omega) (by omega) (by omega) (by omega)).mono ?_; rintro e w1 ⟨rfl, hb⟩; obtain ⟨hc, hf⟩ := bcell hb; (try (have hbc := bel_chain (by with_reducible assumption) hb; obtain ⟨hcc, hfc⟩ := bcell hbc)); have hz := Nat.le_trans (by with_reducible assumption : Below (w').heap.size (w') _ ∧ _).1.size hb.size)
      | (go_at_call 43; refine (group_any 8 11 3 _ (by omega) (by omega) (by omega) (by omega) (by omega)).mono ?_; rintro e w1 ⟨rfl, hb⟩; obtain ⟨hc, hf⟩ := bcell hb; (try (have hbc := bel_chain (by with_reducible assumption) hb; obtain ⟨hcc, hfc⟩ := bcell hbc)); have hz := Nat.le_trans (by with_reducible assumption : Below (w').heap.size (w') _ ∧ _).1.size hb.size))
    all_goals (go_wp2_with fail; go_meet; refine ⟨_, rfl, ?_⟩; have hB := (by with_reducible assumption : Below _ _ _ ∧ _).1; clear r1 r2 r3 r4; refine ⟨?_, ?_, ?_, ?_, ?_, ?_, ?_, ?_, ?_, ?_, ?_, ?_, hB⟩ <;> first | omega | (go_simp; done) | (exact Nat.lt_of_succ_le (by simpa using hbc.size)) | (exact Nat.lt_of_succ_le (by simpa using hb.size)) | (simp; omega))
  case rest =>
    obtain ⟨g, rfl, g0, g1, c0, c1, c2, c3, c4, f0, f1, f2, f3, f4, hb3⟩ := hcut
    obtain ⟨hc3, hf3⟩ := bcell hb3
    clear r1 r2 r3 r4
    have s3 := hb3.size
    have y0 : w.heap.size + 1 < wc.heap.size := by omega
    have hB : Below w.heap.size w wc := (by have s0_ := hb0.size; have s1_ := hb3.size; (try simp only [World.size_alloc, World.size_setCell, World.size_drew, sz_drewN] at s0_ s1_); repeat' (first | (with_reducible exact Below.refl _ _) | (with_reducible refine bel_call ?_ ?_ hb3) | (with_reducible refine bel_call ?_ ?_ hb0) | (with_reducible refine Below.alloc ?_ ?_ _) | (with_reducible refine below_drewN ?_ _) | (with_reducible refine Below.drew ?_) | (with_reducible refine Below.setCell ?_ ?_ _) | omega | (simp; omega) | (simp; done)))
    have hg : ∀ j, w.heap.size ≤ (⟨g, j, none⟩ : Addr).block := fun j => (by omega : w.heap.size ≤ g)
    have hr : ∀ j, w.heap.size ≤ (⟨w.heap.size + 1, j, none⟩ : Addr).block := fun j => (by omega : w.heap.size ≤ w.heap.size + 1)
    go_wp2
    exact bodyPost_ret (v := .tuple #[.agg #[.int .i64 3, .int .i64 2, .int .i64 5, .int .i64 1, .int .i64 8], .int .i64 0]) (by simp only [results, Try.results41]; go_simp) rfl ⟨rfl, ((((((((hB).setCell (hg 1) _).setCell (hg 2) _).setCell (hg 4) _).setCell (hr 0) _).setCell (hr 1) _).setCell (hr 2) _).setCell (hr 3) _).setCell (hr 4) _⟩
end Go.Proofs.Ytamonmhicjejoaa
