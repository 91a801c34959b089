/- Contract of the task's Arrive. -/
import Derived.Test.YtkmgkggkdmlkeaaTl
import Derived.Deep.AppendLies
import Derived.Deep.RegionWith
import Derived.Deep.RegionHeldLaw
namespace Go.Proofs.Ytkmgkggkdmlkeaa
open Go.RowKit
set_option linter.unusedVariables false
set_option linter.unusedSimpArgs false

/-- Of what was there nothing has turned but the blocks of A. -/
structure Keeps (A : Nat → Prop) (w w' : World) : Prop where
  os : w'.os = w.os
  tape : w'.tape = w.tape
  output : w'.output = w.output
  size : w.heap.size ≤ w'.heap.size
  block : ∀ k, k < w.heap.size → ¬ A k → w'.heap[k]? = w.heap[k]?
section
variable {A : Nat → Prop} {a w w1 : World}
theorem Keeps.refl : Keeps A w w := ⟨rfl, rfl, rfl, Nat.le_refl _, fun _ _ _ => rfl⟩
theorem Keeps.below (h : Keeps A a w) (hb : Below w.heap.size w w1) : Keeps A a w1 :=
  ⟨hb.os.trans h.os, hb.tape.trans h.tape, hb.output.trans h.output, Nat.le_trans h.size hb.size, fun k hk hA => (hb.block k (Nat.lt_of_lt_of_le hk h.size)).trans (h.block k hk hA)⟩
theorem Keeps.only (h : Keeps A a w) {b : Nat} (ho : Only b w w1) (hA : A b) : Keeps A a w1 :=
  ⟨ho.os.trans h.os, ho.tape.trans h.tape, ho.output.trans h.output, Nat.le_trans h.size ho.size, fun k hk hn => (ho.block k (Nat.lt_of_lt_of_le hk h.size) (fun e => hn (e ▸ hA))).trans (h.block k hk hn)⟩
theorem Keeps.grown (h : Keeps A a w) {row : Option Nat} (hg : w.grownBy w1 row) (hr : ∀ k, row = some k → k < a.heap.size → A k) : Keeps A a w1 :=
  ⟨hg.os.trans h.os, hg.tape.trans h.tape, hg.output.trans h.output, Nat.le_trans h.size hg.size, fun k hk hn => (hg.block k (Nat.lt_of_lt_of_le hk h.size) (fun e => hn (hr k e.symm hk))).trans (h.block k hk hn)⟩
theorem Keeps.setCell (h : Keeps A a w) {p : Addr} (hp : p.block < a.heap.size → A p.block) (u : Value) : Keeps A a (w.setCell p u) :=
  ⟨h.os, h.tape, h.output, by have := h.size; simpa [World.setCell] using this, fun k hk hn => (Below.heap_setCell _ _ _ _ (fun e => hn (by rw [e]; exact hp (by rw [← e]; exact hk)))).trans (h.block k hk hn)⟩
theorem Keeps.alloc (h : Keeps A a w) (o : Obj) : Keeps A a (w.alloc o) := h.below ((Below.refl _ _).alloc (Nat.le_refl _) _)
theorem Keeps.drew (h : Keeps A a w) : Keeps A a w.drew := ⟨h.os, h.tape, h.output, h.size, h.block⟩
theorem Keeps.to_below (h : Keeps A a w) {B : Nat} (hB : B ≤ a.heap.size) (hA : ∀ k, k < B → ¬ A k) : Below B a w := ⟨h.os, h.tape, h.output, h.size, fun k hk => h.block k (by omega) (hA k hk)⟩
theorem Keeps.cell (h : Keeps A a w) {p : Addr} (hp : p.block < a.heap.size) (hn : ¬ A p.block) : w.cell? p = a.cell? p := World.cell?_of_block (w := a) (h.block p.block hp hn)
theorem Keeps.frozen (h : Keeps A a w) {p : Addr} (hp : p.block < a.heap.size) (hn : ¬ A p.block) : w.frozen? p = a.frozen? p := World.frozen?_of_block (w := a) (h.block p.block hp hn)
end
theorem owns_only {w w' : World} {base : Nat} {e : TypeId} {sz : Nat} {v : Value} {n : Nat} {xs : List Value} {b : Nat} (h : w.ownsRow base e sz v n xs) (k : Only b w w') (hb : ∀ g, v.ownBlock = some g → g ≠ b) : w'.ownsRow base e sz v n xs := by
  refine ⟨h.1, ?_⟩
  rcases h.2 with h | ⟨g, cap, cur, hv, hg, hw, r⟩
  · exact .inl h
  · refine .inr ⟨g, cap, cur, hv, hg, ?_, r⟩
    have hlt : g < w.heap.size := (Array.getElem?_eq_some_iff.1 hw).1
    rw [k.block g hlt (hb g (by rw [hv]; rfl))]
    exact hw

theorem grown_only {w w' : World} {row : Option Nat} (h : w.grownBy w' row) (b : Nat) (hb : ∀ g, row = some g → g = b) : Only b w w' :=
  ⟨h.os, h.tape, h.output, h.size, fun k hk hn => h.block k hk (fun e => hn (hb k e.symm))⟩
theorem TC.waits {w : World} {t : Nat} {E P : Int} {early cut : Bool} {s : Nat} {v : Value} {r0 r1 r2 r3 r4 done : Int} (h : TC w t E P early cut s v r0 r1 r2 r3 r4 done) (v' : Value) : TC (w.setCell ⟨t, 5, none⟩ v') t E P early cut s v' r0 r1 r2 r3 r4 done := by
  obtain ⟨h0, h1, h2, h3, h4, h5, h6, h7, h8, h9, h10, h11, hf, hs⟩ := h
  refine ⟨?_, ?_, ?_, ?_, ?_, ?_, ?_, ?_, ?_, ?_, ?_, ?_, ?_, ?_⟩ <;> first | (go_simp; done) | (intro o; go_simp; done) | (simp; omega)
theorem only_set (w : World) (t o : Nat) (v : Value) : Only t w (w.setCell ⟨t, o, none⟩ v) := (Only.refl t w).setCell (.inl rfl) v
theorem cell_other' {w : World} {b t o : Nat} {u v : Value} (h : w.cell? ⟨b, 0, none⟩ = some u) (hn : b ≠ t) : (w.setCell ⟨t, o, none⟩ v).cell? ⟨b, 0, none⟩ = some u :=
  (Only.cell (only_set w t o v) (p := ⟨b, 0, none⟩) (World.block_lt_of_cell? w _ h) hn).trans h
theorem owns_drew {w : World} {base : Nat} {e : TypeId} {sz : Nat} {v : Value} {n : Nat} {xs : List Value} (h : w.ownsRow base e sz v n xs) : w.drew.ownsRow base e sz v n xs := h

def aoff (E P a off i : Int) : Nat → Int
  | 0 => off
  | k + 1 => aoff E P a off i k + max (a - (Win.rel E P (i + k) + aoff E P a off i k)) 0
def asub (E P a off i : Int) : Nat → List Value
  | 0 => []
  | k + 1 => asub E P a off i k ++ [.int .i64 (i + k), .int .i64 (Win.rel E P (i + k) + aoff E P a off i (k + 1)), .int .i64 (Win.dl E P (i + k) + aoff E P a off i (k + 1)), .int .i64 (Win.bit E P (i + k)), .int .i64 (shG (aoff E P a off i (k + 1)) (Win.grp E P (i + k)))]
theorem aoff_bd (E P a off i : Int) (e1 : 1 ≤ E) (p1 : 1 ≤ P) (i1 : 1 ≤ i) (o0 : 0 ≤ off) (k : Nat) : 0 ≤ aoff E P a off i k ∧ (aoff E P a off i k ≤ off ∨ aoff E P a off i k ≤ a) := by
  induction k with
  | zero => exact ⟨o0, .inl (Int.le_refl _)⟩
  | succ k ih =>
    have hr : 0 ≤ Win.rel E P (i + k) := Int.ediv_nonneg (Int.mul_nonneg (by omega) (by omega)) (by omega)
    show 0 ≤ aoff E P a off i k + max (a - (Win.rel E P (i + k) + aoff E P a off i k)) 0 ∧ (aoff E P a off i k + max (a - (Win.rel E P (i + k) + aoff E P a off i k)) 0 ≤ off ∨ aoff E P a off i k + max (a - (Win.rel E P (i + k) + aoff E P a off i k)) 0 ≤ a)
    omega

theorem infoS : ∃ i, Try.prog.info? 33 = some i ∧ i.zero = some (.agg #[.int .i64 0, .int .i64 0, .int .i64 0, .int .i64 0, .int .i64 0]) ∧ i.size = 5 ∧ i.bytes = 40 := by
  have h : (Try.prog.info? 33).map (fun i => (i.zero, i.size, i.bytes)) = some (some (.agg #[.int .i64 0, .int .i64 0, .int .i64 0, .int .i64 0, .int .i64 0]), 5, 40) := by kernel_rfl
  obtain ⟨i, hi, hb⟩ := Option.map_eq_some_iff.1 h
  simp only [Prod.mk.injEq] at hb
  exact ⟨i, hi, hb.1, hb.2.1, hb.2.2⟩

set_option maxRecDepth 8000 in
set_option maxHeartbeats 6400000 in
theorem arrive_any (t s : Nat) (E P off i a : Int) (early : Bool) (p : Option Addr) (m cap : Nat) (xs : List Value) (r0 r1 r2 r3 r4 done : Int) (n : Nat) (base : Nat) (w : World)
    (hT : TC w t E P early false s (.slice p m cap) r0 r1 r2 r3 r4 done) (hS : Sn w s E P off i) (hO : w.ownsRow base 33 5 (.slice p m cap) m xs) (hts : t ≠ s) (hp : ∀ g, (Value.slice p m cap).ownBlock = some g → g ≠ t ∧ g ≠ s)
    (e1 : 1 ≤ E) (e2 : E ≤ P) (e3 : P ≤ 1048576) (i1 : 1 ≤ i) (i2 : i ≤ 1000000000) (o0 : 0 ≤ off) (o1 : off ≤ 1152921504606846976) (a0 : 0 ≤ a) (a1 : a ≤ 1099511627776) (n1 : 1 ≤ n) (hn : m + n ≤ 64) (hb : base ≤ w.heap.size) :
    Calls Try.prog 12 #[.pointer (some ⟨t, 0, none⟩), .int .i64 a, .int .i64 n] w fun e w' => e = .returned (.int .i64 0) ∧
      (∃ p' cap', TC w' t E P early false s (.slice p' (m + n) cap') r0 r1 r2 r3 r4 done ∧ Sn w' s E P (aoff E P a off i n) (i + n) ∧ w'.ownsRow base 33 5 (.slice p' (m + n) cap') (m + n) (xs ++ asub E P a off i n) ∧ (∀ g, (Value.slice p' (m + n) cap').ownBlock = some g → g ≠ t ∧ g ≠ s)) ∧
      Keeps (fun k => k = t ∨ k = s ∨ (Value.slice p m cap).ownBlock = some k) w w' := by
  have tsz := tc_size hT
  have ssz := st_size hS
  have c3 := hT.2.2.2.1
  have c5 := hT.2.2.2.2.2.1
  have HT := Lib.hid hT
  have HS := Lib.hid hS
  have HO := Lib.hid hO
  have HP := Lib.hid hp
  have hsl := fun w => slot_any a w
  rw [show decide (0 ≤ a ∧ a ≤ 1099511627776) = true by simp [a0, a1]] at hsl
  have HSL := Lib.hid hsl
  clear hsl hT hS hO hp
  go_enter Try.func12, Try.ntmps12
  go_wp2_with (go_at_call 34; (with_reducible refine (HSL.out _).mono ?_); rintro e w1 ⟨rfl, hb1⟩; have s_w1 := hb1.size; (try simp only [World.size_alloc, World.size_setCell, World.size_drew, sz_drewN] at s_w1); have z_w1_0_0 : w.heap.size < w1.heap.size := (by omega); have z_w1_0_1 : w.heap.size < w1.heap.size + 1 := (by omega); have z_w1_0_2 : w.heap.size < w1.heap.size + 1 + 1 := (by omega); have q_w1_0_0 : w1.cell? ⟨w.heap.size, 0, none⟩ = some (.pointer (some ⟨t, 0, none⟩)) := (hb1.cell (p := ⟨w.heap.size, 0, none⟩) (by first | (show w.heap.size < _; omega) | (show w.heap.size < _; simp; done) | (show w.heap.size < _; simp; omega))).trans (by first | assumption | (go_simp; done)); have z_w1_1_0 : w.heap.size + 1 < w1.heap.size := (by omega); have z_w1_1_1 : w.heap.size + 1 < w1.heap.size + 1 := (by omega); have z_w1_1_2 : w.heap.size + 1 < w1.heap.size + 1 + 1 := (by omega); have q_w1_1_0 : w1.cell? ⟨w.heap.size + 1, 0, none⟩ = some (.int .i64 a) := (hb1.cell (p := ⟨w.heap.size + 1, 0, none⟩) (by first | (show w.heap.size + 1 < _; omega) | (show w.heap.size + 1 < _; simp; done) | (show w.heap.size + 1 < _; simp; omega))).trans (by first | assumption | (go_simp; done)); have d3 : w1.cell? ⟨t, 3, none⟩ = some (.bool false) := (hb1.cell (p := ⟨t, 3, none⟩) (by first | (simp; done) | (simp; omega))).trans (by go_simp); have d5 : w1.cell? ⟨t, 5, none⟩ = some (.slice p m cap) := (hb1.cell (p := ⟨t, 5, none⟩) (by first | (simp; done) | (simp; omega))).trans (by go_simp))
  refine gen_world (F := fun V => V.cell? ⟨w.heap.size, 0, none⟩ = some (.pointer (some ⟨t, 0, none⟩)) ∧ V.cell? ⟨w.heap.size + 1, 0, none⟩ = some (.int .i64 a) ∧ w.heap.size + 1 < V.heap.size ∧ Below w.heap.size w V) ⟨q_w1_0_0, q_w1_1_0, by omega, (by have s0_ := hb1.size; (try simp only [World.size_alloc, World.size_setCell, World.size_drew, sz_drewN] at s0_); repeat' (first | (with_reducible exact Below.refl _ _) | (with_reducible refine bel_call ?_ ?_ hb1) | (with_reducible refine Below.alloc ?_ ?_ _) | (with_reducible refine below_drewN ?_ _) | (with_reducible refine Below.drew ?_) | (with_reducible refine Below.setCell ?_ ?_ _) | omega | (simp; omega) | (simp; done)))⟩ ?_
  clear hb1 d3 d5 q_w1_0_0 q_w1_1_0 s_w1 c3 c5
  rintro V ⟨vB, vA, vs, hbv⟩
  have HTV := Lib.hid (HT.out.keepb hbv)
  have HSV := Lib.hid (HS.out.keepb hbv)
  have HOV := Lib.hid (owns_only HO.out (only_of_below (b := V.heap.size) hbv) (fun g hg => by have := (HO.out.lt g hg).2; omega))
  have HOB := Lib.hid (fun g (hg : (Value.slice p m cap).ownBlock = some g) => (⟨(HP.out g hg).1, (HP.out g hg).2, by have := (HO.out.lt g hg).2; omega, by have := (HO.out.lt g hg).2; omega, fun _ => hg⟩ : g ≠ t ∧ g ≠ s ∧ g ≠ w.heap.size ∧ g ≠ w.heap.size + 1 ∧ (g < w.heap.size → (Value.slice p m cap).ownBlock = some g)))
  have HKV := Lib.hid (Keeps.refl.below hbv : Keeps (fun k => k = t ∨ k = s ∨ (Value.slice p m cap).ownBlock = some k) w V)
  clear hbv HT HS HO HP HSL
  obtain ⟨i0, hi0, hz0, hz1, hz2⟩ := infoS
  go_loopw [40] (fun s40 wr => ∃ (k : Nat) (p' : Option Addr) (cap' : Nat), s40 = .int .i64 k ∧ k ≤ n ∧ wr.cell? ⟨w.heap.size, 0, none⟩ = some (.pointer (some ⟨t, 0, none⟩)) ∧ wr.cell? ⟨w.heap.size + 1, 0, none⟩ = some (.int .i64 a) ∧ w.heap.size + 1 < wr.heap.size ∧
    TC wr t E P early false s (.slice p' (m + k) cap') r0 r1 r2 r3 r4 done ∧ Sn wr s E P (aoff E P a off i k) (i + k) ∧ wr.ownsRow base 33 5 (.slice p' (m + k) cap') (m + k) (xs ++ asub E P a off i k) ∧ (∀ g, (Value.slice p' (m + k) cap').ownBlock = some g → g ≠ t ∧ g ≠ s ∧ g ≠ w.heap.size ∧ g ≠ w.heap.size + 1 ∧ (g < w.heap.size → (Value.slice p m cap).ownBlock = some g)) ∧ Keeps (fun k => k = t ∨ k = s ∨ (Value.slice p m cap).ownBlock = some k) w wr) (fun s40 _ => n - (intOf s40).toNat)
  case atStart => exact ⟨0, p, cap, rfl, by omega, vB, vA, vs, HTV.out, by show Sn V s E P off (i + 0); rw [Int.add_zero]; exact HSV.out, by show V.ownsRow _ _ _ _ _ (xs ++ []); rw [List.append_nil]; exact HOV.out, HOB.out, HKV.out⟩
  case round =>
    clear HTV HSV HOV HOB HKV vB vA vs
    obtain ⟨k, p', cap', rfl, hk, vB, vA, vs, hT, hS, hO, hOB, hK⟩ := hrel
    have tsz' := tc_size hT
    have ssz' := st_size hS
    have c4 := hT.2.2.2.2.1
    have c5 := hT.2.2.2.2.2.1
    have hlt0 := Lib.hid hO.lt
    have HT := Lib.hid hT
    have HS := Lib.hid hS
    have HO := Lib.hid hO
    have HOB := Lib.hid hOB
    have HK := Lib.hid hK
    clear hT hS hO hOB hK
    by_cases hkn : k < n
    · obtain ⟨x0, x1⟩ := aoff_bd E P a off i e1 (by omega) i1 o0 k
      obtain ⟨y0, y1⟩ := aoff_bd E P a off i e1 (by omega) i1 o0 (k + 1)
      have hO2 : aoff E P a off i k + max (a - (Win.rel E P (i + k) + aoff E P a off i k)) 0 = aoff E P a off i (k + 1) := rfl
      have hA2 : Hid (asub E P a off i (k + 1) = asub E P a off i k ++ [.int .i64 (i + k), .int .i64 (Win.rel E P (i + k) + aoff E P a off i (k + 1)), .int .i64 (Win.dl E P (i + k) + aoff E P a off i (k + 1)), .int .i64 (Win.bit E P (i + k)), .int .i64 (shG (aoff E P a off i (k + 1)) (Win.grp E P (i + k)))]) := rfl
      have hlate := fun w1 (h : Below wr.heap.size wr w1) => late_any (w.heap.size + 1) w.heap.size t s E P (aoff E P a off i k) (i + k) a w1 ((h.cell (p := ⟨w.heap.size + 1, 0, none⟩) vs).trans vA) ((h.cell (p := ⟨w.heap.size, 0, none⟩) (by show w.heap.size < _; omega)).trans vB) ((h.cell (p := ⟨t, 4, none⟩) tsz').trans c4) (Nat.lt_of_lt_of_le vs h.size) (Nat.lt_of_lt_of_le (by omega) h.size) (Nat.lt_of_lt_of_le tsz' h.size) (HS.out.keepb h) e1 e2 e3 (by omega) (by omega) (by omega) (by omega) a0 a1
      have hsh := fun w1 h => shift_yes_sn s E P (aoff E P a off i k) (i + k) (max (a - (Win.rel E P (i + k) + aoff E P a off i k)) 0) w1 h (by omega) (by omega) (by omega) (by omega) (by omega)
      rw [hO2] at hsh
      have hnx := fun w1 h => next_any s E P (aoff E P a off i (k + 1)) (i + k) w1 h e1 e2 e3 (by omega) (by omega) y0 (by omega)
      obtain ⟨O1, hO1⟩ : ∃ x, aoff E P a off i k = x := ⟨_, rfl⟩
      obtain ⟨O2, hO2'⟩ : ∃ x, aoff E P a off i (k + 1) = x := ⟨_, rfl⟩
      obtain ⟨L, hL⟩ : ∃ x, max (a - (Win.rel E P (i + k) + aoff E P a off i k)) 0 = x := ⟨_, rfl⟩
      obtain ⟨R, hR⟩ : ∃ x, Win.rel E P (i + k) + aoff E P a off i (k + 1) = x := ⟨_, rfl⟩
      obtain ⟨D, hD⟩ : ∃ x, Win.dl E P (i + k) + aoff E P a off i (k + 1) = x := ⟨_, rfl⟩
      obtain ⟨B, hB⟩ : ∃ x, Win.bit E P (i + k) = x := ⟨_, rfl⟩
      obtain ⟨G, hG⟩ : ∃ x, shG (aoff E P a off i (k + 1)) (Win.grp E P (i + k)) = x := ⟨_, rfl⟩
      rw [hL] at hlate hsh
      rw [hR, hD, hB, hG] at hnx hA2
      have HLATE := Lib.hid hlate
      have HSH := Lib.hid hsh
      have HNX := Lib.hid hnx
      clear hlate hsh hnx hL hR hD hB hG hO2 hO1 hO2'
      go_upto_region 10 with fail
      go_cut [48] (fun s48 wx => Sn wx s E P (aoff E P a off i (k + 1)) (i + k) ∧ Only s wr wx)
      case first =>
        go_region_with (first
          | (go_at_call 36; (with_reducible refine (HLATE.out _ ?_).mono ?_); (focus (exact (by repeat' (first | (with_reducible exact Below.refl _ _) | (with_reducible refine Below.alloc ?_ ?_ _) | (with_reducible refine below_drewN ?_ _) | (with_reducible refine Below.drew ?_) | (with_reducible refine Below.setCell ?_ ?_ _) | omega | (simp; omega) | (simp; done))))); rintro e w5 ⟨rfl, hb5⟩; have c45 : w5.cell? ⟨t, 4, none⟩ = some (.pointer (some ⟨s, 0, none⟩)) := (hb5.cell (p := ⟨t, 4, none⟩) (by first | (simp; done) | (simp; omega))).trans c4; have cB5 : w5.cell? ⟨w.heap.size, 0, none⟩ = some (.pointer (some ⟨t, 0, none⟩)) := (hb5.cell (p := ⟨w.heap.size, 0, none⟩) (by first | (simp; done) | (simp; omega))).trans vB)
          | (go_at_call 38; (with_reducible refine (HSH.out _ ?_).mono ?_); (focus (exact HS.out.keepb (by have s0_ := hb5.size; (try simp only [World.size_alloc, World.size_setCell, World.size_drew, sz_drewN] at s0_); repeat' (first | (with_reducible exact Below.refl _ _) | (with_reducible refine bel_call ?_ ?_ hb5) | (with_reducible refine Below.alloc ?_ ?_ _) | (with_reducible refine below_drewN ?_ _) | (with_reducible refine Below.drew ?_) | (with_reducible refine Below.setCell ?_ ?_ _) | omega | (simp; omega) | (simp; done))))); rintro e w6 ⟨rfl, hs6, ho6⟩; have HS6 := Lib.hid hs6; clear hs6))
        all_goals (go_wp2_with fail; go_meet; exact ⟨HS6.out, (by repeat' (first | (with_reducible exact Only.refl _ _) | (with_reducible refine only_call ?_ ho6) | (with_reducible refine Only.trans ?_ ho6) | (with_reducible refine only_call ?_ hb5) | (with_reducible refine Only.trans ?_ hb5) | (with_reducible refine Only.alloc ?_ _) | (with_reducible refine only_drewN ?_ _) | (with_reducible refine Only.drew ?_) | (with_reducible refine Only.setCell ?_ ?_ _) | (exact Or.inl rfl) | (right; first | omega | (simp; done) | (simp; omega)) | omega | (simp; omega) | (simp; done)))⟩)
      case rest =>
        obtain ⟨hs6, ho6⟩ := hcut
        have HS6 := Lib.hid hs6
        have s6 := ho6.size
        have HT6 := Lib.hid (HT.out.keep ho6 hts)
        have HO6 := Lib.hid (owns_only HO.out ho6 (fun g hg => (HOB.out g hg).2.1))
        have c46 : wc.cell? ⟨t, 4, none⟩ = some (.pointer (some ⟨s, 0, none⟩)) := HT6.out.2.2.2.2.1
        have c56 : wc.cell? ⟨t, 5, none⟩ = some (.slice p' (m + k) cap') := HT6.out.2.2.2.2.2.1
        have cB6 : wc.cell? ⟨w.heap.size, 0, none⟩ = some (.pointer (some ⟨t, 0, none⟩)) := (ho6.cell (p := ⟨w.heap.size, 0, none⟩) (by show w.heap.size < _; omega) (by show w.heap.size ≠ _; omega)).trans vB
        have cA6 : wc.cell? ⟨w.heap.size + 1, 0, none⟩ = some (.int .i64 a) := (ho6.cell (p := ⟨w.heap.size + 1, 0, none⟩) vs (by show w.heap.size + 1 ≠ _; omega)).trans vA
        have HK6 := Lib.hid (HK.out.only ho6 (.inr (.inl rfl)))
        have f56 : ∀ o, wc.frozen? ⟨t, o, none⟩ = false := HT6.out.2.2.2.2.2.2.2.2.2.2.2.2.1
        clear hs6 c4 c5 vA vB
        obtain ⟨bb, hbb, hbt, hbs⟩ : ∃ bb, (∀ g, (Value.slice p' (m + k) cap').ownBlock = some g → g = bb) ∧ t ≠ bb ∧ s ≠ bb ∧ w.heap.size ≠ bb ∧ w.heap.size + 1 ≠ bb := by
          cases ho : (Value.slice p' (m + k) cap').ownBlock with
          | none => exact ⟨wr.heap.size, (fun g h => by cases h), by omega, by omega, by omega, by omega⟩
          | some g =>
            have := HOB.out g ho
            exact ⟨g, (fun g' h => by cases h; rfl), by omega, by omega, by omega, by omega⟩
        have HBB := Lib.hid hbb
        clear hbb
        go_upto_region 11 with fail
        have t6 : t < wc.heap.size := by omega
        have B6 : w.heap.size < wc.heap.size := by omega
        refine wp_region_held_drew (S := (fun x => x.cell? ⟨w.heap.size, 0, none⟩ = some (.pointer (some ⟨t, 0, none⟩)) ∧ x.cell? ⟨t, 4, none⟩ = some (.pointer (some ⟨s, 0, none⟩)) ∧ t < x.heap.size ∧ w.heap.size < x.heap.size)) (by kernel_rfl) ?_ (fun hHeld => ?_)
        focus (exact ⟨by simpa using cB6, by simpa using c46, by simpa using t6, by simpa using B6⟩)
        (refine wpAnyH_take (i := 0) (v := ?_) rfl (by kernel_rfl) (by kernel_rfl) (by kernel_rfl) (fun _ _ _ h => h) (Or.inl ⟨by rfl, ?_⟩) (by assumption) ?_; rotate_left; (focus (intro w hSw; (try dsimp only at hSw); go_simp; (try with_reducible rfl); done)); (try simp only [List.getElem_toArray, List.getElem_cons_succ, List.getElem_cons_zero, Act.put, List.setIfInBounds_toArray, List.set_cons_zero, List.set_cons_succ]))
        (refine wpAnyH_take (i := 1) (v := ?_) rfl (by kernel_rfl) (by kernel_rfl) (by kernel_rfl) (fun _ _ _ h => h) (Or.inl ⟨by rfl, ?_⟩) (by assumption) ?_; rotate_left; (focus (intro w hSw; (try dsimp only at hSw); go_simp; (try with_reducible rfl); done)); (try simp only [List.getElem_toArray, List.getElem_cons_succ, List.getElem_cons_zero, Act.put, List.setIfInBounds_toArray, List.set_cons_zero, List.set_cons_succ]))
        (refine wpAnyH_take (i := 2) (v := ?_) rfl (by kernel_rfl) (by kernel_rfl) (by kernel_rfl) (fun _ _ _ h => h) (Or.inl ⟨by rfl, ?_⟩) (by assumption) ?_; rotate_left; (focus (intro w hSw; (try dsimp only at hSw); go_simp; (try with_reducible rfl); done)); (try simp only [List.getElem_toArray, List.getElem_cons_succ, List.getElem_cons_zero, Act.put, List.setIfInBounds_toArray, List.set_cons_zero, List.set_cons_succ]))
        (refine wpAnyH_take (i := 3) (v := ?_) rfl (by kernel_rfl) (by kernel_rfl) (by kernel_rfl) (fun _ _ _ h => h) (Or.inl ⟨by rfl, ?_⟩) (by assumption) ?_; rotate_left; (focus (intro w hSw; (try dsimp only at hSw); go_simp; (try with_reducible rfl); done)); (try simp only [List.getElem_toArray, List.getElem_cons_succ, List.getElem_cons_zero, Act.put, List.setIfInBounds_toArray, List.set_cons_zero, List.set_cons_succ]))
        (refine wpAnyH_take (i := 5) (v := ?_) rfl (by kernel_rfl) (by kernel_rfl) (by kernel_rfl) (fun _ _ _ h => h) (Or.inl ⟨by rfl, ?_⟩) (by assumption) ?_; rotate_left; (focus (intro w hSw; (try dsimp only at hSw); go_simp; (try with_reducible rfl); done)); (try simp only [List.getElem_toArray, List.getElem_cons_succ, List.getElem_cons_zero, Act.put, List.setIfInBounds_toArray, List.set_cons_zero, List.set_cons_succ]))
        (refine wpAnyH_take (i := 6) (v := ?_) rfl (by kernel_rfl) (by kernel_rfl) (by kernel_rfl) (fun _ _ _ h => h) (Or.inl ⟨by rfl, ?_⟩) (by assumption) ?_; rotate_left; (focus (intro w hSw; (try dsimp only at hSw); go_simp; (try with_reducible rfl); done)); (try simp only [List.getElem_toArray, List.getElem_cons_succ, List.getElem_cons_zero, Act.put, List.setIfInBounds_toArray, List.set_cons_zero, List.set_cons_succ]))
        (refine wpAnyH_take (i := 7) (v := ?_) rfl (by kernel_rfl) (by kernel_rfl) (by kernel_rfl) (fun _ _ _ h => h) (Or.inl ⟨by rfl, ?_⟩) (by assumption) ?_; rotate_left; (focus (intro w hSw; (try dsimp only at hSw); go_simp; (try with_reducible rfl); done)); (try simp only [List.getElem_toArray, List.getElem_cons_succ, List.getElem_cons_zero, Act.put, List.setIfInBounds_toArray, List.set_cons_zero, List.set_cons_succ]))
        (refine wpAnyH_take (i := 8) (v := ?_) rfl (by kernel_rfl) (by kernel_rfl) (by kernel_rfl) (fun _ _ _ h => h) (Or.inl ⟨by rfl, ?_⟩) (by assumption) ?_; rotate_left; (focus (intro w hSw; (try dsimp only at hSw); go_simp; (try with_reducible rfl); done)); (try simp only [List.getElem_toArray, List.getElem_cons_succ, List.getElem_cons_zero, Act.put, List.setIfInBounds_toArray, List.set_cons_zero, List.set_cons_succ]))
        refine wpAnyH_ready (rs := [4, 9]) (by kernel_rfl) (by simp) ?_; refine (AllReadyH.cons rfl (fun K hK => ?_) (AllReadyH.cons rfl (fun K hK => ?_) AllReadyH.nil))
        · (go_simp; refine hK.out _ _ ?_ (fun hHeld2 => ?_); (focus (refine ⟨?_, ?_, ?_, ?_⟩ <;> first | assumption | (go_simp; done) | omega | (simp; done) | (simp; omega))); clear hK K; have hHeld := hHeld2; clear hHeld2; (try simp only [List.getElem_toArray, List.getElem_cons_succ, List.getElem_cons_zero, Act.put, List.setIfInBounds_toArray, List.set_cons_zero, List.set_cons_succ]))
          refine wpAnyH_ready (rs := [9]) (by kernel_rfl) (by simp) ?_; refine (AllReadyH.cons rfl (fun K hK => ?_) AllReadyH.nil)
          (go_simp; (go_at_call 39; (with_reducible refine (HNX.out _ ?_).mono ?_); (focus (exact HS6.out.keepb (by repeat' (first | (with_reducible exact Below.refl _ _) | (with_reducible refine Below.alloc ?_ ?_ _) | (with_reducible refine below_drewN ?_ _) | (with_reducible refine Below.drew ?_) | (with_reducible refine Below.setCell ?_ ?_ _) | omega | (simp; omega) | (simp; done))))); rintro e w7 ⟨rfl, hs7, ho7⟩; have HS7 := Lib.hid hs7; clear hs7; have hO7 : Only s wc w7 := (by repeat' (first | (with_reducible exact Only.refl _ _) | (with_reducible refine only_call ?_ ho7) | (with_reducible refine Only.trans ?_ ho7) | (with_reducible refine Only.alloc ?_ _) | (with_reducible refine only_drewN ?_ _) | (with_reducible refine Only.drew ?_) | (with_reducible refine Only.setCell ?_ ?_ _) | (exact Or.inl rfl) | (right; first | omega | (simp; done) | (simp; omega)) | omega | (simp; omega) | (simp; done))); have s7 := hO7.size; have t7 : t < w7.heap.size := (by omega); have B7 : w.heap.size < w7.heap.size := (by omega); have A7 : w.heap.size + 1 < w7.heap.size := (by omega); have HO7 := Lib.hid (owns_only HO6.out hO7 (fun g hg => (HOB.out g hg).2.1)); have HT7 := Lib.hid (HT6.out.keep hO7 hts); have c47 : w7.cell? ⟨t, 4, none⟩ = some (.pointer (some ⟨s, 0, none⟩)) := HT7.out.2.2.2.2.1; have c57 : w7.cell? ⟨t, 5, none⟩ = some (.slice p' (m + k) cap') := HT7.out.2.2.2.2.2.1; have cB7 : w7.cell? ⟨w.heap.size, 0, none⟩ = some (.pointer (some ⟨t, 0, none⟩)) := (hO7.cell (p := ⟨w.heap.size, 0, none⟩) (by show w.heap.size < _; omega) (by show w.heap.size ≠ _; omega)).trans cB6; have cA7 : w7.cell? ⟨w.heap.size + 1, 0, none⟩ = some (.int .i64 a) := (hO7.cell (p := ⟨w.heap.size + 1, 0, none⟩) (by show w.heap.size + 1 < _; omega) (by show w.heap.size + 1 ≠ _; omega)).trans cA6); refine hK.out _ _ ?_ (fun hHeld2 => ?_); (focus (refine ⟨?_, ?_, ?_, ?_⟩ <;> first | assumption | (go_simp; done) | omega | (simp; done) | (simp; omega))); clear hK K; have hHeld := hHeld2; clear hHeld2; (try simp only [List.getElem_toArray, List.getElem_cons_succ, List.getElem_cons_zero, Act.put, List.setIfInBounds_toArray, List.set_cons_zero, List.set_cons_succ]))
          refine wpAnyH_ready (rs := [10]) (by kernel_rfl) (by simp) ?_; refine (AllReadyH.cons rfl (fun K hK => ?_) AllReadyH.nil)
          (go_simp; refine hK.out _ _ ?_ (fun hHeld2 => ?_); (focus (refine ⟨?_, ?_, ?_, ?_⟩ <;> first | assumption | (go_simp; done) | omega | (simp; done) | (simp; omega))); clear hK K; have hHeld := hHeld2; clear hHeld2; (try simp only [List.getElem_toArray, List.getElem_cons_succ, List.getElem_cons_zero, Act.put, List.setIfInBounds_toArray, List.set_cons_zero, List.set_cons_succ]))
          refine wpAnyH_ready (rs := [11]) (by kernel_rfl) (by simp) ?_; refine (AllReadyH.cons rfl (fun K hK => ?_) AllReadyH.nil)
          ((refine step_append_lies _ rfl (.tmp 53) (.tmp 59) 55 rfl base 33 i0 _ 5 40 Try.underlying55 hi0 hz0 hz1 hz2 rfl (by decide) (.slice p' (m + k) cap') (m + k) (xs ++ asub E P a off i k) (by first | rfl | simp [Act.eval, Act.put]) ?_ ⟨w7.heap.size, 0, none⟩ 1 1 [.int .i64 (i + k), .int .i64 R, .int .i64 D, .int .i64 B, .int .i64 G] (by first | rfl | simp [Act.eval, Act.put]) (by rfl) ?_ ?_ (by omega) ?_ ?_ ?_ _ (by rfl) ?_; (focus (first | exact (HO7.out.alloc _) | exact owns_drew (HO7.out.alloc _))); (focus (intro j u hj; match j, hj with | 0, hj => simp at hj; subst hj; simp [Addr.add] | 1, hj => simp at hj; subst hj; simp [Addr.add] | 2, hj => simp at hj; subst hj; simp [Addr.add] | 3, hj => simp at hj; subst hj; simp [Addr.add] | 4, hj => simp at hj; subst hj; simp [Addr.add] | j + 5, hj => simp at hj)); (focus (intro u hu; simp at hu; rcases hu with rfl | rfl | rfl | rfl | rfl <;> rfl)); (focus (unfold maxLen; omega)); (focus (omega)); (focus (simp; omega)); intro g capn w8 hown8 hgrow8 hlies8 hlt8; have hO8 := grown_only hgrow8 bb HBB.out; have HT8 := Lib.hid ((HT7.out.keepb (by repeat' (first | (with_reducible exact Below.refl _ _) | (with_reducible refine Below.alloc ?_ ?_ _) | (with_reducible refine below_drewN ?_ _) | (with_reducible refine Below.drew ?_) | (with_reducible refine Below.setCell ?_ ?_ _) | omega | (simp; omega) | (simp; done)))).keep hO8 hbt); have c58 : w8.cell? ⟨t, 5, none⟩ = some (.slice p' (m + k) cap') := HT8.out.2.2.2.2.2.1; have f58 : ∀ o, w8.frozen? ⟨t, o, none⟩ = false := HT8.out.2.2.2.2.2.2.2.2.2.2.2.2.1; have cB8 : w8.cell? ⟨w.heap.size, 0, none⟩ = some (.pointer (some ⟨t, 0, none⟩)) := (hO8.cell (p := ⟨w.heap.size, 0, none⟩) (by first | (simp; done) | (simp; omega)) hbs.2.1).trans (by go_simp); have c48 : w8.cell? ⟨t, 4, none⟩ = some (.pointer (some ⟨s, 0, none⟩)) := HT8.out.2.2.2.2.1; have t8 : t < w8.heap.size := tc_size HT8.out; have B8 : w.heap.size < w8.heap.size := (World.block_lt_of_cell? w8 _ cB8); have HOW8 := Lib.hid hown8; have HG8 := Lib.hid hgrow8; have HL8 := Lib.hid hlies8; clear hown8 hgrow8 hlies8); refine hK.out _ _ ?_ (fun hHeld2 => ?_); (focus (refine ⟨?_, ?_, ?_, ?_⟩ <;> first | assumption | (go_simp; done) | omega | (simp; done) | (simp; omega))); clear hK K; have hHeld := hHeld2; clear hHeld2; (try simp only [List.getElem_toArray, List.getElem_cons_succ, List.getElem_cons_zero, Act.put, List.setIfInBounds_toArray, List.set_cons_zero, List.set_cons_succ]))
          (refine wpAnyH_take (i := 12) (v := ?_) rfl (by kernel_rfl) (by kernel_rfl) (by kernel_rfl) (fun _ _ _ h => h) (Or.inl ⟨by rfl, ?_⟩) (by assumption) ?_; rotate_left; (focus (intro w hSw; (try dsimp only at hSw); go_simp; (try with_reducible rfl); done)); (try simp only [List.getElem_toArray, List.getElem_cons_succ, List.getElem_cons_zero, Act.put, List.setIfInBounds_toArray, List.set_cons_zero, List.set_cons_succ]))
          (refine wpAnyH_take (i := 13) (v := ?_) rfl (by kernel_rfl) (by kernel_rfl) (by kernel_rfl) (fun _ _ _ h => h) (Or.inl ⟨by rfl, ?_⟩) (by assumption) ?_; rotate_left; (focus (intro w hSw; (try dsimp only at hSw); go_simp; (try with_reducible rfl); done)); (try simp only [List.getElem_toArray, List.getElem_cons_succ, List.getElem_cons_zero, Act.put, List.setIfInBounds_toArray, List.set_cons_zero, List.set_cons_succ]))
          refine wpAnyH_ready (rs := [14]) (by kernel_rfl) (by simp) ?_; refine AllReadyH.cons rfl (fun K hK => ?_) AllReadyH.nil
          (go_simp; refine hK.out _ _ ?_ (fun hHeld2 => ?_); (focus (refine ⟨?_, ?_, ?_, ?_⟩ <;> first | assumption | (go_simp; done) | omega | (simp; done) | (simp; omega))); clear hK K; have hHeld := hHeld2; clear hHeld2; (try simp only [List.getElem_toArray, List.getElem_cons_succ, List.getElem_cons_zero, Act.put, List.setIfInBounds_toArray, List.set_cons_zero, List.set_cons_succ]))
          refine wpAnyH_done (by kernel_rfl) ?_ _
          have hs8 := hO8.size
          have hs8' : w7.heap.size + 1 ≤ w8.heap.size := by simp at hs8; omega
          have hgt : g ≠ t ∧ g ≠ s ∧ g ≠ w.heap.size ∧ g ≠ w.heap.size + 1 ∧ (g < w.heap.size → (Value.slice p m cap).ownBlock = some g) := by
            rcases HL8.out with h | h
            · exact HOB.out g h
            · simp at h
              refine ⟨by omega, by omega, by omega, by omega, fun h' => by omega⟩
          have HS8 := Lib.hid ((HS7.out.keepb (by repeat' (first | (with_reducible exact Below.refl _ _) | (with_reducible refine Below.alloc ?_ ?_ _) | (with_reducible refine below_drewN ?_ _) | (with_reducible refine Below.drew ?_) | (with_reducible refine Below.setCell ?_ ?_ _) | omega | (simp; omega) | (simp; done))) : Sn _ s E P (aoff E P a off i (k + 1)) (i + k + 1)).keep hO8 hbs.1)
          have hk1 : Hid (i + ((k + 1 : Nat) : Int) = i + k + 1) := by show _ = _; omega
          have HB8 := cB8
          have HA8 : w8.cell? ⟨w.heap.size + 1, 0, none⟩ = some (.int .i64 a) := (hO8.cell (p := ⟨w.heap.size + 1, 0, none⟩) (by first | (simp; done) | (simp; omega)) hbs.2.2).trans (by go_simp)
          have HK8 : Keeps (fun k => k = t ∨ k = s ∨ (Value.slice p m cap).ownBlock = some k) w w8 := ((HK6.out.only hO7 (.inr (.inl rfl))).below (by repeat' (first | (with_reducible exact Below.refl _ _) | (with_reducible refine Below.alloc ?_ ?_ _) | (with_reducible refine below_drewN ?_ _) | (with_reducible refine Below.drew ?_) | (with_reducible refine Below.setCell ?_ ?_ _) | omega | (simp; omega) | (simp; done)))).grown HG8.out (fun k' hk' hlt => .inr (.inr ((HOB.out k' hk').2.2.2.2 hlt)))
          go_wp2
          go_roundw
          case rel =>
            first
              | exact ⟨k + 1, some ⟨g, 0, none⟩, capn, by go_num, by omega, (cell_other' HB8 (by omega)), (cell_other' HA8 (by omega)), by simp; omega, HT8.out.waits _, by rw [hk1.out]; exact HS8.out.keep (only_set _ _ _ _) hts.symm, by rw [hA2.out, ← List.append_assoc]; exact owns_only HOW8.out (only_set _ _ _ _) (fun g' h => by cases h; exact hgt.1), (fun g' h => by cases h; exact hgt), HK8.setCell (fun _ => .inl rfl) _⟩
              | ((repeat apply Exists.intro); exact ⟨⟨k + 1, some ⟨g, 0, none⟩, capn, by go_num, by omega, (cell_other' HB8 (by omega)), (cell_other' HA8 (by omega)), by simp; omega, HT8.out.waits _, by rw [hk1.out]; exact HS8.out.keep (only_set _ _ _ _) hts.symm, by rw [hA2.out, ← List.append_assoc]; exact owns_only HOW8.out (only_set _ _ _ _) (fun g' h => by cases h; exact hgt.1), (fun g' h => by cases h; exact hgt), HK8.setCell (fun _ => .inl rfl) _⟩, rfl⟩)
          case measure => simp [intOf]; omega
        · (go_simp; (go_at_call 39; (with_reducible refine (HNX.out _ ?_).mono ?_); (focus (exact HS6.out.keepb (by repeat' (first | (with_reducible exact Below.refl _ _) | (with_reducible refine Below.alloc ?_ ?_ _) | (with_reducible refine below_drewN ?_ _) | (with_reducible refine Below.drew ?_) | (with_reducible refine Below.setCell ?_ ?_ _) | omega | (simp; omega) | (simp; done))))); rintro e w7 ⟨rfl, hs7, ho7⟩; have HS7 := Lib.hid hs7; clear hs7; have hO7 : Only s wc w7 := (by repeat' (first | (with_reducible exact Only.refl _ _) | (with_reducible refine only_call ?_ ho7) | (with_reducible refine Only.trans ?_ ho7) | (with_reducible refine Only.alloc ?_ _) | (with_reducible refine only_drewN ?_ _) | (with_reducible refine Only.drew ?_) | (with_reducible refine Only.setCell ?_ ?_ _) | (exact Or.inl rfl) | (right; first | omega | (simp; done) | (simp; omega)) | omega | (simp; omega) | (simp; done))); have s7 := hO7.size; have t7 : t < w7.heap.size := (by omega); have B7 : w.heap.size < w7.heap.size := (by omega); have A7 : w.heap.size + 1 < w7.heap.size := (by omega); have HO7 := Lib.hid (owns_only HO6.out hO7 (fun g hg => (HOB.out g hg).2.1)); have HT7 := Lib.hid (HT6.out.keep hO7 hts); have c47 : w7.cell? ⟨t, 4, none⟩ = some (.pointer (some ⟨s, 0, none⟩)) := HT7.out.2.2.2.2.1; have c57 : w7.cell? ⟨t, 5, none⟩ = some (.slice p' (m + k) cap') := HT7.out.2.2.2.2.2.1; have cB7 : w7.cell? ⟨w.heap.size, 0, none⟩ = some (.pointer (some ⟨t, 0, none⟩)) := (hO7.cell (p := ⟨w.heap.size, 0, none⟩) (by show w.heap.size < _; omega) (by show w.heap.size ≠ _; omega)).trans cB6; have cA7 : w7.cell? ⟨w.heap.size + 1, 0, none⟩ = some (.int .i64 a) := (hO7.cell (p := ⟨w.heap.size + 1, 0, none⟩) (by show w.heap.size + 1 < _; omega) (by show w.heap.size + 1 ≠ _; omega)).trans cA6); refine hK.out _ _ ?_ (fun hHeld2 => ?_); (focus (refine ⟨?_, ?_, ?_, ?_⟩ <;> first | assumption | (go_simp; done) | omega | (simp; done) | (simp; omega))); clear hK K; have hHeld := hHeld2; clear hHeld2; (try simp only [List.getElem_toArray, List.getElem_cons_succ, List.getElem_cons_zero, Act.put, List.setIfInBounds_toArray, List.set_cons_zero, List.set_cons_succ]))
          refine wpAnyH_ready (rs := [4, 10]) (by kernel_rfl) (by simp) ?_; refine (AllReadyH.cons rfl (fun K hK => ?_) (AllReadyH.cons rfl (fun K hK => ?_) AllReadyH.nil))
          · (go_simp; refine hK.out _ _ ?_ (fun hHeld2 => ?_); (focus (refine ⟨?_, ?_, ?_, ?_⟩ <;> first | assumption | (go_simp; done) | omega | (simp; done) | (simp; omega))); clear hK K; have hHeld := hHeld2; clear hHeld2; (try simp only [List.getElem_toArray, List.getElem_cons_succ, List.getElem_cons_zero, Act.put, List.setIfInBounds_toArray, List.set_cons_zero, List.set_cons_succ]))
            refine wpAnyH_ready (rs := [10]) (by kernel_rfl) (by simp) ?_; refine (AllReadyH.cons rfl (fun K hK => ?_) AllReadyH.nil)
            (go_simp; refine hK.out _ _ ?_ (fun hHeld2 => ?_); (focus (refine ⟨?_, ?_, ?_, ?_⟩ <;> first | assumption | (go_simp; done) | omega | (simp; done) | (simp; omega))); clear hK K; have hHeld := hHeld2; clear hHeld2; (try simp only [List.getElem_toArray, List.getElem_cons_succ, List.getElem_cons_zero, Act.put, List.setIfInBounds_toArray, List.set_cons_zero, List.set_cons_succ]))
            refine wpAnyH_ready (rs := [11]) (by kernel_rfl) (by simp) ?_; refine (AllReadyH.cons rfl (fun K hK => ?_) AllReadyH.nil)
            ((refine step_append_lies _ rfl (.tmp 53) (.tmp 59) 55 rfl base 33 i0 _ 5 40 Try.underlying55 hi0 hz0 hz1 hz2 rfl (by decide) (.slice p' (m + k) cap') (m + k) (xs ++ asub E P a off i k) (by first | rfl | simp [Act.eval, Act.put]) ?_ ⟨w7.heap.size, 0, none⟩ 1 1 [.int .i64 (i + k), .int .i64 R, .int .i64 D, .int .i64 B, .int .i64 G] (by first | rfl | simp [Act.eval, Act.put]) (by rfl) ?_ ?_ (by omega) ?_ ?_ ?_ _ (by rfl) ?_; (focus (first | exact (HO7.out.alloc _) | exact owns_drew (HO7.out.alloc _))); (focus (intro j u hj; match j, hj with | 0, hj => simp at hj; subst hj; simp [Addr.add] | 1, hj => simp at hj; subst hj; simp [Addr.add] | 2, hj => simp at hj; subst hj; simp [Addr.add] | 3, hj => simp at hj; subst hj; simp [Addr.add] | 4, hj => simp at hj; subst hj; simp [Addr.add] | j + 5, hj => simp at hj)); (focus (intro u hu; simp at hu; rcases hu with rfl | rfl | rfl | rfl | rfl <;> rfl)); (focus (unfold maxLen; omega)); (focus (omega)); (focus (simp; omega)); intro g capn w8 hown8 hgrow8 hlies8 hlt8; have hO8 := grown_only hgrow8 bb HBB.out; have HT8 := Lib.hid ((HT7.out.keepb (by repeat' (first | (with_reducible exact Below.refl _ _) | (with_reducible refine Below.alloc ?_ ?_ _) | (with_reducible refine below_drewN ?_ _) | (with_reducible refine Below.drew ?_) | (with_reducible refine Below.setCell ?_ ?_ _) | omega | (simp; omega) | (simp; done)))).keep hO8 hbt); have c58 : w8.cell? ⟨t, 5, none⟩ = some (.slice p' (m + k) cap') := HT8.out.2.2.2.2.2.1; have f58 : ∀ o, w8.frozen? ⟨t, o, none⟩ = false := HT8.out.2.2.2.2.2.2.2.2.2.2.2.2.1; have cB8 : w8.cell? ⟨w.heap.size, 0, none⟩ = some (.pointer (some ⟨t, 0, none⟩)) := (hO8.cell (p := ⟨w.heap.size, 0, none⟩) (by first | (simp; done) | (simp; omega)) hbs.2.1).trans (by go_simp); have c48 : w8.cell? ⟨t, 4, none⟩ = some (.pointer (some ⟨s, 0, none⟩)) := HT8.out.2.2.2.2.1; have t8 : t < w8.heap.size := tc_size HT8.out; have B8 : w.heap.size < w8.heap.size := (World.block_lt_of_cell? w8 _ cB8); have HOW8 := Lib.hid hown8; have HG8 := Lib.hid hgrow8; have HL8 := Lib.hid hlies8; clear hown8 hgrow8 hlies8); refine hK.out _ _ ?_ (fun hHeld2 => ?_); (focus (refine ⟨?_, ?_, ?_, ?_⟩ <;> first | assumption | (go_simp; done) | omega | (simp; done) | (simp; omega))); clear hK K; have hHeld := hHeld2; clear hHeld2; (try simp only [List.getElem_toArray, List.getElem_cons_succ, List.getElem_cons_zero, Act.put, List.setIfInBounds_toArray, List.set_cons_zero, List.set_cons_succ]))
            (refine wpAnyH_take (i := 12) (v := ?_) rfl (by kernel_rfl) (by kernel_rfl) (by kernel_rfl) (fun _ _ _ h => h) (Or.inl ⟨by rfl, ?_⟩) (by assumption) ?_; rotate_left; (focus (intro w hSw; (try dsimp only at hSw); go_simp; (try with_reducible rfl); done)); (try simp only [List.getElem_toArray, List.getElem_cons_succ, List.getElem_cons_zero, Act.put, List.setIfInBounds_toArray, List.set_cons_zero, List.set_cons_succ]))
            (refine wpAnyH_take (i := 13) (v := ?_) rfl (by kernel_rfl) (by kernel_rfl) (by kernel_rfl) (fun _ _ _ h => h) (Or.inl ⟨by rfl, ?_⟩) (by assumption) ?_; rotate_left; (focus (intro w hSw; (try dsimp only at hSw); go_simp; (try with_reducible rfl); done)); (try simp only [List.getElem_toArray, List.getElem_cons_succ, List.getElem_cons_zero, Act.put, List.setIfInBounds_toArray, List.set_cons_zero, List.set_cons_succ]))
            refine wpAnyH_ready (rs := [14]) (by kernel_rfl) (by simp) ?_; refine AllReadyH.cons rfl (fun K hK => ?_) AllReadyH.nil
            (go_simp; refine hK.out _ _ ?_ (fun hHeld2 => ?_); (focus (refine ⟨?_, ?_, ?_, ?_⟩ <;> first | assumption | (go_simp; done) | omega | (simp; done) | (simp; omega))); clear hK K; have hHeld := hHeld2; clear hHeld2; (try simp only [List.getElem_toArray, List.getElem_cons_succ, List.getElem_cons_zero, Act.put, List.setIfInBounds_toArray, List.set_cons_zero, List.set_cons_succ]))
            refine wpAnyH_done (by kernel_rfl) ?_ _
            have hs8 := hO8.size
            have hs8' : w7.heap.size + 1 ≤ w8.heap.size := by simp at hs8; omega
            have hgt : g ≠ t ∧ g ≠ s ∧ g ≠ w.heap.size ∧ g ≠ w.heap.size + 1 ∧ (g < w.heap.size → (Value.slice p m cap).ownBlock = some g) := by
              rcases HL8.out with h | h
              · exact HOB.out g h
              · simp at h
                refine ⟨by omega, by omega, by omega, by omega, fun h' => by omega⟩
            have HS8 := Lib.hid ((HS7.out.keepb (by repeat' (first | (with_reducible exact Below.refl _ _) | (with_reducible refine Below.alloc ?_ ?_ _) | (with_reducible refine below_drewN ?_ _) | (with_reducible refine Below.drew ?_) | (with_reducible refine Below.setCell ?_ ?_ _) | omega | (simp; omega) | (simp; done))) : Sn _ s E P (aoff E P a off i (k + 1)) (i + k + 1)).keep hO8 hbs.1)
            have hk1 : Hid (i + ((k + 1 : Nat) : Int) = i + k + 1) := by show _ = _; omega
            have HB8 := cB8
            have HA8 : w8.cell? ⟨w.heap.size + 1, 0, none⟩ = some (.int .i64 a) := (hO8.cell (p := ⟨w.heap.size + 1, 0, none⟩) (by first | (simp; done) | (simp; omega)) hbs.2.2).trans (by go_simp)
            have HK8 : Keeps (fun k => k = t ∨ k = s ∨ (Value.slice p m cap).ownBlock = some k) w w8 := ((HK6.out.only hO7 (.inr (.inl rfl))).below (by repeat' (first | (with_reducible exact Below.refl _ _) | (with_reducible refine Below.alloc ?_ ?_ _) | (with_reducible refine below_drewN ?_ _) | (with_reducible refine Below.drew ?_) | (with_reducible refine Below.setCell ?_ ?_ _) | omega | (simp; omega) | (simp; done)))).grown HG8.out (fun k' hk' hlt => .inr (.inr ((HOB.out k' hk').2.2.2.2 hlt)))
            go_wp2
            go_roundw
            case rel =>
              first
                | exact ⟨k + 1, some ⟨g, 0, none⟩, capn, by go_num, by omega, (cell_other' HB8 (by omega)), (cell_other' HA8 (by omega)), by simp; omega, HT8.out.waits _, by rw [hk1.out]; exact HS8.out.keep (only_set _ _ _ _) hts.symm, by rw [hA2.out, ← List.append_assoc]; exact owns_only HOW8.out (only_set _ _ _ _) (fun g' h => by cases h; exact hgt.1), (fun g' h => by cases h; exact hgt), HK8.setCell (fun _ => .inl rfl) _⟩
                | ((repeat apply Exists.intro); exact ⟨⟨k + 1, some ⟨g, 0, none⟩, capn, by go_num, by omega, (cell_other' HB8 (by omega)), (cell_other' HA8 (by omega)), by simp; omega, HT8.out.waits _, by rw [hk1.out]; exact HS8.out.keep (only_set _ _ _ _) hts.symm, by rw [hA2.out, ← List.append_assoc]; exact owns_only HOW8.out (only_set _ _ _ _) (fun g' h => by cases h; exact hgt.1), (fun g' h => by cases h; exact hgt), HK8.setCell (fun _ => .inl rfl) _⟩, rfl⟩)
            case measure => simp [intOf]; omega
          · (go_simp; refine hK.out _ _ ?_ (fun hHeld2 => ?_); (focus (refine ⟨?_, ?_, ?_, ?_⟩ <;> first | assumption | (go_simp; done) | omega | (simp; done) | (simp; omega))); clear hK K; have hHeld := hHeld2; clear hHeld2; (try simp only [List.getElem_toArray, List.getElem_cons_succ, List.getElem_cons_zero, Act.put, List.setIfInBounds_toArray, List.set_cons_zero, List.set_cons_succ]))
            refine wpAnyH_ready (rs := [4]) (by kernel_rfl) (by simp) ?_; refine (AllReadyH.cons rfl (fun K hK => ?_) AllReadyH.nil)
            (go_simp; refine hK.out _ _ ?_ (fun hHeld2 => ?_); (focus (refine ⟨?_, ?_, ?_, ?_⟩ <;> first | assumption | (go_simp; done) | omega | (simp; done) | (simp; omega))); clear hK K; have hHeld := hHeld2; clear hHeld2; (try simp only [List.getElem_toArray, List.getElem_cons_succ, List.getElem_cons_zero, Act.put, List.setIfInBounds_toArray, List.set_cons_zero, List.set_cons_succ]))
            refine wpAnyH_ready (rs := [11]) (by kernel_rfl) (by simp) ?_; refine (AllReadyH.cons rfl (fun K hK => ?_) AllReadyH.nil)
            ((refine step_append_lies _ rfl (.tmp 53) (.tmp 59) 55 rfl base 33 i0 _ 5 40 Try.underlying55 hi0 hz0 hz1 hz2 rfl (by decide) (.slice p' (m + k) cap') (m + k) (xs ++ asub E P a off i k) (by first | rfl | simp [Act.eval, Act.put]) ?_ ⟨w7.heap.size, 0, none⟩ 1 1 [.int .i64 (i + k), .int .i64 R, .int .i64 D, .int .i64 B, .int .i64 G] (by first | rfl | simp [Act.eval, Act.put]) (by rfl) ?_ ?_ (by omega) ?_ ?_ ?_ _ (by rfl) ?_; (focus (first | exact (HO7.out.alloc _) | exact owns_drew (HO7.out.alloc _))); (focus (intro j u hj; match j, hj with | 0, hj => simp at hj; subst hj; simp [Addr.add] | 1, hj => simp at hj; subst hj; simp [Addr.add] | 2, hj => simp at hj; subst hj; simp [Addr.add] | 3, hj => simp at hj; subst hj; simp [Addr.add] | 4, hj => simp at hj; subst hj; simp [Addr.add] | j + 5, hj => simp at hj)); (focus (intro u hu; simp at hu; rcases hu with rfl | rfl | rfl | rfl | rfl <;> rfl)); (focus (unfold maxLen; omega)); (focus (omega)); (focus (simp; omega)); intro g capn w8 hown8 hgrow8 hlies8 hlt8; have hO8 := grown_only hgrow8 bb HBB.out; have HT8 := Lib.hid ((HT7.out.keepb (by repeat' (first | (with_reducible exact Below.refl _ _) | (with_reducible refine Below.alloc ?_ ?_ _) | (with_reducible refine below_drewN ?_ _) | (with_reducible refine Below.drew ?_) | (with_reducible refine Below.setCell ?_ ?_ _) | omega | (simp; omega) | (simp; done)))).keep hO8 hbt); have c58 : w8.cell? ⟨t, 5, none⟩ = some (.slice p' (m + k) cap') := HT8.out.2.2.2.2.2.1; have f58 : ∀ o, w8.frozen? ⟨t, o, none⟩ = false := HT8.out.2.2.2.2.2.2.2.2.2.2.2.2.1; have cB8 : w8.cell? ⟨w.heap.size, 0, none⟩ = some (.pointer (some ⟨t, 0, none⟩)) := (hO8.cell (p := ⟨w.heap.size, 0, none⟩) (by first | (simp; done) | (simp; omega)) hbs.2.1).trans (by go_simp); have c48 : w8.cell? ⟨t, 4, none⟩ = some (.pointer (some ⟨s, 0, none⟩)) := HT8.out.2.2.2.2.1; have t8 : t < w8.heap.size := tc_size HT8.out; have B8 : w.heap.size < w8.heap.size := (World.block_lt_of_cell? w8 _ cB8); have HOW8 := Lib.hid hown8; have HG8 := Lib.hid hgrow8; have HL8 := Lib.hid hlies8; clear hown8 hgrow8 hlies8); refine hK.out _ _ ?_ (fun hHeld2 => ?_); (focus (refine ⟨?_, ?_, ?_, ?_⟩ <;> first | assumption | (go_simp; done) | omega | (simp; done) | (simp; omega))); clear hK K; have hHeld := hHeld2; clear hHeld2; (try simp only [List.getElem_toArray, List.getElem_cons_succ, List.getElem_cons_zero, Act.put, List.setIfInBounds_toArray, List.set_cons_zero, List.set_cons_succ]))
            (refine wpAnyH_take (i := 12) (v := ?_) rfl (by kernel_rfl) (by kernel_rfl) (by kernel_rfl) (fun _ _ _ h => h) (Or.inl ⟨by rfl, ?_⟩) (by assumption) ?_; rotate_left; (focus (intro w hSw; (try dsimp only at hSw); go_simp; (try with_reducible rfl); done)); (try simp only [List.getElem_toArray, List.getElem_cons_succ, List.getElem_cons_zero, Act.put, List.setIfInBounds_toArray, List.set_cons_zero, List.set_cons_succ]))
            (refine wpAnyH_take (i := 13) (v := ?_) rfl (by kernel_rfl) (by kernel_rfl) (by kernel_rfl) (fun _ _ _ h => h) (Or.inl ⟨by rfl, ?_⟩) (by assumption) ?_; rotate_left; (focus (intro w hSw; (try dsimp only at hSw); go_simp; (try with_reducible rfl); done)); (try simp only [List.getElem_toArray, List.getElem_cons_succ, List.getElem_cons_zero, Act.put, List.setIfInBounds_toArray, List.set_cons_zero, List.set_cons_succ]))
            refine wpAnyH_ready (rs := [14]) (by kernel_rfl) (by simp) ?_; refine AllReadyH.cons rfl (fun K hK => ?_) AllReadyH.nil
            (go_simp; refine hK.out _ _ ?_ (fun hHeld2 => ?_); (focus (refine ⟨?_, ?_, ?_, ?_⟩ <;> first | assumption | (go_simp; done) | omega | (simp; done) | (simp; omega))); clear hK K; have hHeld := hHeld2; clear hHeld2; (try simp only [List.getElem_toArray, List.getElem_cons_succ, List.getElem_cons_zero, Act.put, List.setIfInBounds_toArray, List.set_cons_zero, List.set_cons_succ]))
            refine wpAnyH_done (by kernel_rfl) ?_ _
            have hs8 := hO8.size
            have hs8' : w7.heap.size + 1 ≤ w8.heap.size := by simp at hs8; omega
            have hgt : g ≠ t ∧ g ≠ s ∧ g ≠ w.heap.size ∧ g ≠ w.heap.size + 1 ∧ (g < w.heap.size → (Value.slice p m cap).ownBlock = some g) := by
              rcases HL8.out with h | h
              · exact HOB.out g h
              · simp at h
                refine ⟨by omega, by omega, by omega, by omega, fun h' => by omega⟩
            have HS8 := Lib.hid ((HS7.out.keepb (by repeat' (first | (with_reducible exact Below.refl _ _) | (with_reducible refine Below.alloc ?_ ?_ _) | (with_reducible refine below_drewN ?_ _) | (with_reducible refine Below.drew ?_) | (with_reducible refine Below.setCell ?_ ?_ _) | omega | (simp; omega) | (simp; done))) : Sn _ s E P (aoff E P a off i (k + 1)) (i + k + 1)).keep hO8 hbs.1)
            have hk1 : Hid (i + ((k + 1 : Nat) : Int) = i + k + 1) := by show _ = _; omega
            have HB8 := cB8
            have HA8 : w8.cell? ⟨w.heap.size + 1, 0, none⟩ = some (.int .i64 a) := (hO8.cell (p := ⟨w.heap.size + 1, 0, none⟩) (by first | (simp; done) | (simp; omega)) hbs.2.2).trans (by go_simp)
            have HK8 : Keeps (fun k => k = t ∨ k = s ∨ (Value.slice p m cap).ownBlock = some k) w w8 := ((HK6.out.only hO7 (.inr (.inl rfl))).below (by repeat' (first | (with_reducible exact Below.refl _ _) | (with_reducible refine Below.alloc ?_ ?_ _) | (with_reducible refine below_drewN ?_ _) | (with_reducible refine Below.drew ?_) | (with_reducible refine Below.setCell ?_ ?_ _) | omega | (simp; omega) | (simp; done)))).grown HG8.out (fun k' hk' hlt => .inr (.inr ((HOB.out k' hk').2.2.2.2 hlt)))
            go_wp2
            go_roundw
            case rel =>
              first
                | exact ⟨k + 1, some ⟨g, 0, none⟩, capn, by go_num, by omega, (cell_other' HB8 (by omega)), (cell_other' HA8 (by omega)), by simp; omega, HT8.out.waits _, by rw [hk1.out]; exact HS8.out.keep (only_set _ _ _ _) hts.symm, by rw [hA2.out, ← List.append_assoc]; exact owns_only HOW8.out (only_set _ _ _ _) (fun g' h => by cases h; exact hgt.1), (fun g' h => by cases h; exact hgt), HK8.setCell (fun _ => .inl rfl) _⟩
                | ((repeat apply Exists.intro); exact ⟨⟨k + 1, some ⟨g, 0, none⟩, capn, by go_num, by omega, (cell_other' HB8 (by omega)), (cell_other' HA8 (by omega)), by simp; omega, HT8.out.waits _, by rw [hk1.out]; exact HS8.out.keep (only_set _ _ _ _) hts.symm, by rw [hA2.out, ← List.append_assoc]; exact owns_only HOW8.out (only_set _ _ _ _) (fun g' h => by cases h; exact hgt.1), (fun g' h => by cases h; exact hgt), HK8.setCell (fun _ => .inl rfl) _⟩, rfl⟩)
            case measure => simp [intOf]; omega
    · obtain rfl : k = n := by omega
      go_wp2
      go_ret
      exact ⟨rfl, ⟨p', cap', HT.out, HS.out, HO.out, fun g hg => ⟨(HOB.out g hg).1, (HOB.out g hg).2.1⟩⟩, HK.out⟩
end Go.Proofs.Ytkmgkggkdmlkeaa
