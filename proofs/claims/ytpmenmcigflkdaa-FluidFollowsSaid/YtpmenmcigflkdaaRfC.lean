/- Contracts of the document's windows (layer 4): the bit, the group (its other ones stand in RefC and Fd). -/
import Derived.Test.YtpmenmcigflkdaaFd
import Derived.Test.YtpmenmcigflkdaaStm
import Derived.Deep.DeepCutAuto
namespace Go.Proofs.Ytpmenmcigflkdaa
open Go.RowKit
set_option linter.unusedVariables false
set_option linter.unusedSimpArgs false

/-- A group's end, an offset later. -/
def shG (off g : Int) : Int := if 0 < g then g + off else g
theorem gen_world {P : Program} {c : Code} {Q : Exit → Act → World → Prop} {a : Act} {w : World} (F : World → Prop) (h : F w) (h2 : ∀ W, F W → c.wp P Q a W) : c.wp P Q a w := h2 w h
theorem bel_chain0 {B : Nat} {a w w1 : World} (h : Below B a w) (hb : Below B w w1) : Below B a w1 := h.trans hb

theorem grp_bds (E P i : Int) (e1 : 1 ≤ E) (e2 : E ≤ P) (e3 : P ≤ 1048576) (i1 : 1 ≤ i) (i2 : i ≤ 1099511627776) :
    0 ≤ Win.dl E P i ∧ Win.dl E P i ≤ 1152921504606846976 := by
  have m := mul_bd (i := i) (P := P) (by omega) (by omega) (by omega) (by omega)
  refine ⟨Win.up_nonneg (by omega) m.1, Win.up_le (by omega) ?_⟩
  have := Int.mul_le_mul_of_nonneg_left e1 (show (0 : Int) ≤ 1152921504606846976 by omega)
  omega

theorem grp_bds1 (E P i : Int) (e1 : 1 ≤ E) (e2 : E ≤ P) (_e3 : P ≤ 1048576) (h : P - E ≤ E) (i1 : 1 ≤ i) (i2 : i ≤ 1099511627776) :
    0 ≤ Win.dl E P i ∧ Win.dl E P i ≤ 2199023255552 := by
  have m := Int.mul_nonneg (show 0 ≤ i by omega) (show 0 ≤ P by omega)
  have k := Int.mul_le_mul_of_nonneg_left (show P ≤ 2 * E by omega) (show 0 ≤ i by omega)
  have k2 : i * (2 * E) = 2 * i * E := by rw [← Int.mul_assoc, Int.mul_comm i 2]
  have : Win.dl E P i ≤ 2 * i := Win.up_le (by omega) (by omega)
  exact ⟨Win.up_nonneg (by omega) m, by omega⟩

theorem grp_bds2 (d P r : Int) (d0 : 0 ≤ d) (d1 : d ≤ 2199023255552) (r0 : 1 ≤ r) (r1 : r < P) (e3 : P ≤ 1048576) :
    0 ≤ d % P ∧ 0 ≤ d / P ∧ 0 ≤ d % P * r ∧ d % P * r ≤ 1099511627776 ∧ 0 ≤ d / P * r ∧ d / P * r ≤ d ∧ 0 ≤ Win.up (d % P * r) P ∧ Win.up (d % P * r) P ≤ 1048576 ∧
      0 ≤ (d / P * r + Win.up (d % P * r) P) * P ∧ (d / P * r + Win.up (d % P * r) P) * P ≤ 4611686018427387904 := by
  have a1 := Int.emod_nonneg d (b := P) (by omega)
  have a2 := Int.emod_lt_of_pos d (b := P) (by omega)
  have a3 : 0 ≤ d / P := Int.ediv_nonneg d0 (by omega)
  have a4 : 0 ≤ d % P * r := Int.mul_nonneg a1 (by omega)
  have a5 : d % P * r ≤ d % P * P := Int.mul_le_mul_of_nonneg_left (by omega) a1
  have a6 : d % P * P ≤ 1048576 * P := Int.mul_le_mul_of_nonneg_right (by omega) (by omega)
  have a7 : 0 ≤ d / P * r := Int.mul_nonneg a3 (by omega)
  have a8 : d / P * r ≤ d / P * P := Int.mul_le_mul_of_nonneg_left (by omega) a3
  have a9 := Win.fl_le d P (by omega)
  have u0 : 0 ≤ Win.up (d % P * r) P := Win.up_nonneg (by omega) a4
  have u1 : Win.up (d % P * r) P ≤ r := Win.up_le (by omega) (by rw [Int.mul_comm r P]; exact Int.mul_le_mul_of_nonneg_right (by omega) (by omega))
  refine ⟨a1, a3, a4, by omega, a7, by omega, u0, by omega, Int.mul_nonneg (by omega) (by omega), ?_⟩
  rw [Win.grp_k d r P (by omega)]
  have k1 := Win.up_lt (d * r) P (by omega)
  have k2 : d * r ≤ d * P := Int.mul_le_mul_of_nonneg_left (by omega) d0
  have k3 : d * P ≤ 2199023255552 * P := Int.mul_le_mul_of_nonneg_right (by omega) (by omega)
  omega

theorem long_bd (E P i : Int) (e1 : 1 ≤ E) (e2 : E ≤ P) (e3 : P ≤ 1048576) (i1 : 1 ≤ i) (i2 : i ≤ 1099511627776) : 0 ≤ Win.rel E P i ∧ Win.rel E P i ≤ Win.dl E P i ∧ Win.dl E P i ≤ 1152921504606846976 := by
  have a := grp_bds E P i e1 e2 e3 i1 i2
  have b := Win.rel_lt_dl E P i (by omega) (by omega)
  exact ⟨Int.ediv_nonneg (Int.mul_nonneg (by omega) (by omega)) (by omega), by omega, a.2⟩

theorem sn_bd (E P n : Int) (e1 : 1 ≤ E) (e2 : E ≤ P) (e3 : P ≤ 1048576) (n0 : 1 ≤ n) (n1 : n ≤ 1099511627776) :
    0 ≤ Win.rel E P n ∧ Win.rel E P n ≤ 1152921504606846976 ∧ 0 ≤ Win.dl E P n ∧ Win.dl E P n ≤ 1152921504606846976 ∧ 0 ≤ Win.grp E P n ∧ Win.grp E P n ≤ 2305843009213693952 := by
  obtain ⟨a1, a2, a3⟩ := long_bd E P n e1 e2 e3 n0 n1
  obtain ⟨g0, g1⟩ : 0 ≤ Win.grp E P n ∧ Win.grp E P n ≤ 1152921504606846976 + P := by
    by_cases h : P - E > E
    · have : Win.grp E P n = 0 := by unfold Win.grp; rw [if_pos h]
      omega
    · have a := Win.grp_ge E P n (by omega) e2 h
      have b := Win.grp_near E P n (by omega) e2 h
      omega
  exact ⟨a1, by omega, by omega, a3, g0, by omega⟩

set_option maxHeartbeats 400000 in
theorem rheavy_yes (E P : Int) (w : World) (e1 : 1 ≤ E) (e2 : E ≤ P) (e3 : P ≤ 1048576) (h : P - E ≤ E) : Calls Try.prog 61 #[.agg #[.int .i64 E, .int .i64 P]] w fun e w' => e = .returned (.bool true) ∧ Below w.heap.size w w' := by
  go_enter Try.func61, Try.ntmps61
  go_wp2_with (go_at_call 60; (with_reducible refine (rcheck_yes _ _ _ e1 e2 e3).mono ?_); rintro e w1 ⟨rfl, hb1⟩; have s_w1 := hb1.size; (try simp only [World.size_alloc, World.size_setCell, World.size_drew, sz_drewN] at s_w1); have z_w1_0_0 : w.heap.size < w1.heap.size := (by omega); have z_w1_0_1 : w.heap.size < w1.heap.size + 1 := (by omega); have z_w1_0_2 : w.heap.size < w1.heap.size + 1 + 1 := (by omega); have q_w1_0_0 : w1.cell? ⟨w.heap.size, 0, none⟩ = some (.int .i64 E) := (hb1.cell (p := ⟨w.heap.size, 0, none⟩) (by first | (show w.heap.size < _; omega) | (show w.heap.size < _; simp; done) | (show w.heap.size < _; simp; omega))).trans (by first | assumption | (go_simp; done)); have q_w1_0_1 : w1.cell? ⟨w.heap.size, 1, none⟩ = some (.int .i64 P) := (hb1.cell (p := ⟨w.heap.size, 1, none⟩) (by first | (show w.heap.size < _; omega) | (show w.heap.size < _; simp; done) | (show w.heap.size < _; simp; omega))).trans (by first | assumption | (go_simp; done)))
  go_ret
  exact ⟨by first | rfl | (simp; omega), (by have s0_ := hb1.size; (try simp only [World.size_alloc, World.size_setCell, World.size_drew, sz_drewN] at s0_); repeat' (first | (with_reducible exact Below.refl _ _) | (with_reducible refine bel_call ?_ ?_ hb1) | (with_reducible refine Below.alloc ?_ ?_ _) | (with_reducible refine below_drewN ?_ _) | (with_reducible refine Below.drew ?_) | (with_reducible refine Below.setCell ?_ ?_ _) | omega | (simp; omega) | (simp; done)))⟩
set_option maxHeartbeats 400000 in
theorem rheavy_no (E P : Int) (w : World) (e1 : 1 ≤ E) (e2 : E ≤ P) (e3 : P ≤ 1048576) (h : P - E > E) : Calls Try.prog 61 #[.agg #[.int .i64 E, .int .i64 P]] w fun e w' => e = .returned (.bool false) ∧ Below w.heap.size w w' := by
  go_enter Try.func61, Try.ntmps61
  go_wp2_with (go_at_call 60; (with_reducible refine (rcheck_yes _ _ _ e1 e2 e3).mono ?_); rintro e w1 ⟨rfl, hb1⟩; have s_w1 := hb1.size; (try simp only [World.size_alloc, World.size_setCell, World.size_drew, sz_drewN] at s_w1); have z_w1_0_0 : w.heap.size < w1.heap.size := (by omega); have z_w1_0_1 : w.heap.size < w1.heap.size + 1 := (by omega); have z_w1_0_2 : w.heap.size < w1.heap.size + 1 + 1 := (by omega); have q_w1_0_0 : w1.cell? ⟨w.heap.size, 0, none⟩ = some (.int .i64 E) := (hb1.cell (p := ⟨w.heap.size, 0, none⟩) (by first | (show w.heap.size < _; omega) | (show w.heap.size < _; simp; done) | (show w.heap.size < _; simp; omega))).trans (by first | assumption | (go_simp; done)); have q_w1_0_1 : w1.cell? ⟨w.heap.size, 1, none⟩ = some (.int .i64 P) := (hb1.cell (p := ⟨w.heap.size, 1, none⟩) (by first | (show w.heap.size < _; omega) | (show w.heap.size < _; simp; done) | (show w.heap.size < _; simp; omega))).trans (by first | assumption | (go_simp; done)))
  go_ret
  exact ⟨by first | rfl | (simp; omega), (by have s0_ := hb1.size; (try simp only [World.size_alloc, World.size_setCell, World.size_drew, sz_drewN] at s0_); repeat' (first | (with_reducible exact Below.refl _ _) | (with_reducible refine bel_call ?_ ?_ hb1) | (with_reducible refine Below.alloc ?_ ?_ _) | (with_reducible refine below_drewN ?_ _) | (with_reducible refine Below.drew ?_) | (with_reducible refine Below.setCell ?_ ?_ _) | omega | (simp; omega) | (simp; done)))⟩

set_option maxHeartbeats 800000 in
theorem rbit_yes (E P i : Int) (w : World) (e1 : 1 ≤ E) (e2 : E ≤ P) (e3 : P ≤ 1048576) (i1 : 1 ≤ i) (i2 : i ≤ 1099511627776) :
    Calls Try.prog 52 #[.agg #[.int .i64 E, .int .i64 P], .int .i64 i] w fun e w' => e = .returned (.int .i64 (Win.bit E P i)) ∧ Below w.heap.size w w' := by
  obtain ⟨m1, m2⟩ := mul_bd (i := i) (P := P) (by omega) (by omega) (by omega) (by omega)
  by_cases h : i * P % E = 0
  · have hb : Hid (Win.bit E P i = 0) := if_pos h
    have h' : (i * P % E == 0) = true := by simp [h]
    clear h
    go_enter Try.func52, Try.ntmps52
    go_wp2_with (go_at_call 47; (with_reducible refine (rnumber_yes E P i _ e1 e2 e3 i1 i2).mono ?_); rintro e w1 ⟨rfl, hb1⟩; have s_w1 := hb1.size; (try simp only [World.size_alloc, World.size_setCell, World.size_drew, sz_drewN] at s_w1); have z_w1_0_0 : w.heap.size < w1.heap.size := (by omega); have z_w1_0_1 : w.heap.size < w1.heap.size + 1 := (by omega); have z_w1_0_2 : w.heap.size < w1.heap.size + 1 + 1 := (by omega); have q_w1_0_0 : w1.cell? ⟨w.heap.size, 0, none⟩ = some (.int .i64 E) := (hb1.cell (p := ⟨w.heap.size, 0, none⟩) (by first | (show w.heap.size < _; omega) | (show w.heap.size < _; simp; done) | (show w.heap.size < _; simp; omega))).trans (by first | assumption | (go_simp; done)); have q_w1_0_1 : w1.cell? ⟨w.heap.size, 1, none⟩ = some (.int .i64 P) := (hb1.cell (p := ⟨w.heap.size, 1, none⟩) (by first | (show w.heap.size < _; omega) | (show w.heap.size < _; simp; done) | (show w.heap.size < _; simp; omega))).trans (by first | assumption | (go_simp; done)))
    go_ret
    exact ⟨by rw [hb.out]; rfl, (by have s0_ := hb1.size; (try simp only [World.size_alloc, World.size_setCell, World.size_drew, sz_drewN] at s0_); repeat' (first | (with_reducible exact Below.refl _ _) | (with_reducible refine bel_call ?_ ?_ hb1) | (with_reducible refine Below.alloc ?_ ?_ _) | (with_reducible refine below_drewN ?_ _) | (with_reducible refine Below.drew ?_) | (with_reducible refine Below.setCell ?_ ?_ _) | omega | (simp; omega) | (simp; done)))⟩
  · have hb : Hid (Win.bit E P i = 1) := if_neg h
    have h' : (i * P % E == 0) = false := by simp [h]
    clear h
    go_enter Try.func52, Try.ntmps52
    go_wp2_with (go_at_call 47; (with_reducible refine (rnumber_yes E P i _ e1 e2 e3 i1 i2).mono ?_); rintro e w1 ⟨rfl, hb1⟩; have s_w1 := hb1.size; (try simp only [World.size_alloc, World.size_setCell, World.size_drew, sz_drewN] at s_w1); have z_w1_0_0 : w.heap.size < w1.heap.size := (by omega); have z_w1_0_1 : w.heap.size < w1.heap.size + 1 := (by omega); have z_w1_0_2 : w.heap.size < w1.heap.size + 1 + 1 := (by omega); have q_w1_0_0 : w1.cell? ⟨w.heap.size, 0, none⟩ = some (.int .i64 E) := (hb1.cell (p := ⟨w.heap.size, 0, none⟩) (by first | (show w.heap.size < _; omega) | (show w.heap.size < _; simp; done) | (show w.heap.size < _; simp; omega))).trans (by first | assumption | (go_simp; done)); have q_w1_0_1 : w1.cell? ⟨w.heap.size, 1, none⟩ = some (.int .i64 P) := (hb1.cell (p := ⟨w.heap.size, 1, none⟩) (by first | (show w.heap.size < _; omega) | (show w.heap.size < _; simp; done) | (show w.heap.size < _; simp; omega))).trans (by first | assumption | (go_simp; done)))
    go_ret
    exact ⟨by rw [hb.out]; rfl, (by have s0_ := hb1.size; (try simp only [World.size_alloc, World.size_setCell, World.size_drew, sz_drewN] at s0_); repeat' (first | (with_reducible exact Below.refl _ _) | (with_reducible refine bel_call ?_ ?_ hb1) | (with_reducible refine Below.alloc ?_ ?_ _) | (with_reducible refine below_drewN ?_ _) | (with_reducible refine Below.drew ?_) | (with_reducible refine Below.setCell ?_ ?_ _) | omega | (simp; omega) | (simp; done)))⟩

set_option maxHeartbeats 800000 in
theorem rgroup_light (E P i : Int) (w : World) (e1 : 1 ≤ E) (e2 : E ≤ P) (e3 : P ≤ 1048576) (i1 : 1 ≤ i) (i2 : i ≤ 1099511627776) (h : P - E > E) :
    Calls Try.prog 51 #[.agg #[.int .i64 E, .int .i64 P], .int .i64 i] w fun e w' => e = .returned (.int .i64 (Win.grp E P i)) ∧ Below w.heap.size w w' := by
  have hg : Hid (Win.grp E P i = 0) := if_pos h
  go_enter Try.func51, Try.ntmps51
  go_wp2_with (first
    | (go_at_call 47; (with_reducible refine (rnumber_yes E P i _ e1 e2 e3 i1 i2).mono ?_); rintro e w1 ⟨rfl, hb1⟩; have s_w1 := hb1.size; (try simp only [World.size_alloc, World.size_setCell, World.size_drew, sz_drewN] at s_w1); have z_w1_0_0 : w.heap.size < w1.heap.size := (by omega); have z_w1_0_1 : w.heap.size < w1.heap.size + 1 := (by omega); have z_w1_0_2 : w.heap.size < w1.heap.size + 1 + 1 := (by omega); have q_w1_0_0 : w1.cell? ⟨w.heap.size, 0, none⟩ = some (.int .i64 E) := (hb1.cell (p := ⟨w.heap.size, 0, none⟩) (by first | (show w.heap.size < _; omega) | (show w.heap.size < _; simp; done) | (show w.heap.size < _; simp; omega))).trans (by first | assumption | (go_simp; done)); have q_w1_0_1 : w1.cell? ⟨w.heap.size, 1, none⟩ = some (.int .i64 P) := (hb1.cell (p := ⟨w.heap.size, 1, none⟩) (by first | (show w.heap.size < _; omega) | (show w.heap.size < _; simp; done) | (show w.heap.size < _; simp; omega))).trans (by first | assumption | (go_simp; done)))
    | (go_at_call 61; (with_reducible refine (rheavy_no E P _ e1 e2 e3 (by omega)).mono ?_); rintro e w2 ⟨rfl, hb2⟩; have s_w2 := hb2.size; (try simp only [World.size_alloc, World.size_setCell, World.size_drew, sz_drewN] at s_w2); have z_w2_0_0 : w.heap.size < w2.heap.size := (by omega); have z_w2_0_1 : w.heap.size < w2.heap.size + 1 := (by omega); have z_w2_0_2 : w.heap.size < w2.heap.size + 1 + 1 := (by omega); have q_w2_0_0 : w2.cell? ⟨w.heap.size, 0, none⟩ = some (.int .i64 E) := (hb2.cell (p := ⟨w.heap.size, 0, none⟩) (by first | (show w.heap.size < _; omega) | (show w.heap.size < _; simp; done) | (show w.heap.size < _; simp; omega))).trans (by first | assumption | (go_simp; done)); have q_w2_0_1 : w2.cell? ⟨w.heap.size, 1, none⟩ = some (.int .i64 P) := (hb2.cell (p := ⟨w.heap.size, 1, none⟩) (by first | (show w.heap.size < _; omega) | (show w.heap.size < _; simp; done) | (show w.heap.size < _; simp; omega))).trans (by first | assumption | (go_simp; done))))
  go_ret
  exact ⟨by rw [hg.out]; rfl, (by have s0_ := hb1.size; have s1_ := hb2.size; (try simp only [World.size_alloc, World.size_setCell, World.size_drew, sz_drewN] at s0_ s1_); repeat' (first | (with_reducible exact Below.refl _ _) | (with_reducible refine bel_call ?_ ?_ hb2) | (with_reducible refine bel_call ?_ ?_ hb1) | (with_reducible refine Below.alloc ?_ ?_ _) | (with_reducible refine below_drewN ?_ _) | (with_reducible refine Below.drew ?_) | (with_reducible refine Below.setCell ?_ ?_ _) | omega | (simp; omega) | (simp; done)))⟩

set_option maxHeartbeats 800000 in
theorem rgroup_full (E P i : Int) (w : World) (e1 : 1 ≤ E) (e2 : E ≤ P) (e3 : P ≤ 1048576) (i1 : 1 ≤ i) (i2 : i ≤ 1099511627776) (h : E = P) :
    Calls Try.prog 51 #[.agg #[.int .i64 E, .int .i64 P], .int .i64 i] w fun e w' => e = .returned (.int .i64 (Win.grp E P i)) ∧ Below w.heap.size w w' := by
  have hg : Hid (Win.grp E P i = Win.dl E P i) := by show _ = _; unfold Win.grp; rw [if_neg (by omega), if_pos (by omega)]
  have T : (E == P) = true := by simp [h]
  have h' : P - E ≤ E := by omega
  clear h
  go_enter Try.func51, Try.ntmps51
  go_wp2_with (first
    | (go_at_call 47; (with_reducible refine (rnumber_yes E P i _ e1 e2 e3 i1 i2).mono ?_); rintro e w1 ⟨rfl, hb1⟩; have s_w1 := hb1.size; (try simp only [World.size_alloc, World.size_setCell, World.size_drew, sz_drewN] at s_w1); have z_w1_0_0 : w.heap.size < w1.heap.size := (by omega); have z_w1_0_1 : w.heap.size < w1.heap.size + 1 := (by omega); have z_w1_0_2 : w.heap.size < w1.heap.size + 1 + 1 := (by omega); have q_w1_0_0 : w1.cell? ⟨w.heap.size, 0, none⟩ = some (.int .i64 E) := (hb1.cell (p := ⟨w.heap.size, 0, none⟩) (by first | (show w.heap.size < _; omega) | (show w.heap.size < _; simp; done) | (show w.heap.size < _; simp; omega))).trans (by first | assumption | (go_simp; done)); have q_w1_0_1 : w1.cell? ⟨w.heap.size, 1, none⟩ = some (.int .i64 P) := (hb1.cell (p := ⟨w.heap.size, 1, none⟩) (by first | (show w.heap.size < _; omega) | (show w.heap.size < _; simp; done) | (show w.heap.size < _; simp; omega))).trans (by first | assumption | (go_simp; done)))
    | (go_at_call 61; (with_reducible refine (rheavy_yes E P _ e1 e2 e3 h').mono ?_); rintro e w2 ⟨rfl, hb2⟩; have s_w2 := hb2.size; (try simp only [World.size_alloc, World.size_setCell, World.size_drew, sz_drewN] at s_w2); have z_w2_0_0 : w.heap.size < w2.heap.size := (by omega); have z_w2_0_1 : w.heap.size < w2.heap.size + 1 := (by omega); have z_w2_0_2 : w.heap.size < w2.heap.size + 1 + 1 := (by omega); have q_w2_0_0 : w2.cell? ⟨w.heap.size, 0, none⟩ = some (.int .i64 E) := (hb2.cell (p := ⟨w.heap.size, 0, none⟩) (by first | (show w.heap.size < _; omega) | (show w.heap.size < _; simp; done) | (show w.heap.size < _; simp; omega))).trans (by first | assumption | (go_simp; done)); have q_w2_0_1 : w2.cell? ⟨w.heap.size, 1, none⟩ = some (.int .i64 P) := (hb2.cell (p := ⟨w.heap.size, 1, none⟩) (by first | (show w.heap.size < _; omega) | (show w.heap.size < _; simp; done) | (show w.heap.size < _; simp; omega))).trans (by first | assumption | (go_simp; done)))
    | (go_at_call 30; (with_reducible refine (rdeadline_yes E P i _ e1 e2 e3 i1 i2).mono ?_); rintro e w3 ⟨rfl, hb3⟩; have s_w3 := hb3.size; (try simp only [World.size_alloc, World.size_setCell, World.size_drew, sz_drewN] at s_w3); have z_w3_0_0 : w.heap.size < w3.heap.size := (by omega); have z_w3_0_1 : w.heap.size < w3.heap.size + 1 := (by omega); have z_w3_0_2 : w.heap.size < w3.heap.size + 1 + 1 := (by omega); have q_w3_0_0 : w3.cell? ⟨w.heap.size, 0, none⟩ = some (.int .i64 E) := (hb3.cell (p := ⟨w.heap.size, 0, none⟩) (by first | (show w.heap.size < _; omega) | (show w.heap.size < _; simp; done) | (show w.heap.size < _; simp; omega))).trans (by first | assumption | (go_simp; done)); have q_w3_0_1 : w3.cell? ⟨w.heap.size, 1, none⟩ = some (.int .i64 P) := (hb3.cell (p := ⟨w.heap.size, 1, none⟩) (by first | (show w.heap.size < _; omega) | (show w.heap.size < _; simp; done) | (show w.heap.size < _; simp; omega))).trans (by first | assumption | (go_simp; done))))
  go_ret
  exact ⟨by rw [hg.out]; rfl, (by have s0_ := hb1.size; have s1_ := hb2.size; have s2_ := hb3.size; (try simp only [World.size_alloc, World.size_setCell, World.size_drew, sz_drewN] at s0_ s1_ s2_); repeat' (first | (with_reducible exact Below.refl _ _) | (with_reducible refine bel_call ?_ ?_ hb3) | (with_reducible refine bel_call ?_ ?_ hb2) | (with_reducible refine bel_call ?_ ?_ hb1) | (with_reducible refine Below.alloc ?_ ?_ _) | (with_reducible refine below_drewN ?_ _) | (with_reducible refine Below.drew ?_) | (with_reducible refine Below.setCell ?_ ?_ _) | omega | (simp; omega) | (simp; done)))⟩

set_option maxHeartbeats 1600000 in
theorem rgroup_heavy (E P i : Int) (w : World) (e1 : 1 ≤ E) (e2 : E < P) (e3 : P ≤ 1048576) (i1 : 1 ≤ i) (i2 : i ≤ 1099511627776) (h : ¬ P - E > E) :
    Calls Try.prog 51 #[.agg #[.int .i64 E, .int .i64 P], .int .i64 i] w fun e w' => e = .returned (.int .i64 (Win.grp E P i)) ∧ Below w.heap.size w w' := by
  have hd := fun w => rdeadline_yes E P i w e1 (by omega) e3 i1 i2
  obtain ⟨d0, d1⟩ := grp_bds1 E P i e1 (by omega) e3 (by omega) i1 i2
  obtain ⟨b1, b2, b3, b4, b5, b6, b7, b8, b9, b10⟩ := grp_bds2 (Win.dl E P i) P (P - E) d0 d1 (by omega) (by omega) e3
  have kK : Win.dl E P i / P * (P - E) ≤ Win.kk E P i := by
    have a := Win.grp_k (Win.dl E P i) (P - E) P (by omega)
    rw [Win.kk_up E P i (by omega) e2] at a
    omega
  have BD : Hid (∀ k, 0 ≤ k → k ≤ Win.kk E P i → 0 ≤ k * P ∧ k * P ≤ 4611686018427387904 ∧ k ≤ 2199023255552) := by
    intro k k0 hk
    have a := Win.heavy_bd E P i k (by omega) e2 e3 h (by omega) i2 k0 hk
    have b := Int.mul_le_mul_of_nonneg_right a.2.2.2.2 (show 0 ≤ P by omega)
    have c := Int.mul_le_mul_of_nonneg_left e3 (show (0 : Int) ≤ 2199023255552 by omega)
    exact ⟨Int.mul_nonneg k0 (by omega), by omega, a.2.2.2.2⟩
  have ST : Hid (∀ k, k ≤ Win.kk E P i → Win.dl E P i ≤ Win.up (k * P) (P - E) → Win.grp E P i = Win.up (k * P) (P - E)) := fun k hk hh => (Win.kk_stop E P i k (by omega) e2 h hk hh).2.symm
  have MO : Hid (∀ k, k ≤ Win.kk E P i → Win.up (k * P) (P - E) < Win.dl E P i → k < Win.kk E P i) := fun k hk hh => Win.kk_more E P i k (by omega) e2 h hk hh
  have e2' : E ≤ P := by omega
  have h' : P - E ≤ E := by omega
  have T : (E == P) = false := by rw [beq_eq_false_iff_ne]; omega
  have pp : ¬ P = 0 := by omega
  have td : (Win.dl E P i).tdiv P = Win.dl E P i / P := Int.tdiv_eq_ediv_of_nonneg d0
  have HD := Lib.hid hd
  clear hd h b1 b3 b4 b7 b8 b9 b10
  generalize Win.kk E P i = K at *
  generalize Win.dl E P i = D at *
  generalize Win.grp E P i = G at *
  have b11 : D / P ≤ D := Int.ediv_le_self _ d0
  have pw : IntKind.i64.wrap (D / P) = D / P := IntWalk.i64_in _ (by omega)
  go_enter Try.func51, Try.ntmps51
  go_wp2_with (first
    | (go_at_call 47; (with_reducible refine (rnumber_yes E P i _ e1 e2' e3 i1 i2).mono ?_); rintro e w1 ⟨rfl, hb1⟩; have s_w1 := hb1.size; (try simp only [World.size_alloc, World.size_setCell, World.size_drew, sz_drewN] at s_w1); have z_w1_0_0 : w.heap.size < w1.heap.size := (by omega); have z_w1_0_1 : w.heap.size < w1.heap.size + 1 := (by omega); have z_w1_0_2 : w.heap.size < w1.heap.size + 1 + 1 := (by omega); have q_w1_0_0 : w1.cell? ⟨w.heap.size, 0, none⟩ = some (.int .i64 E) := (hb1.cell (p := ⟨w.heap.size, 0, none⟩) (by first | (show w.heap.size < _; omega) | (show w.heap.size < _; simp; done) | (show w.heap.size < _; simp; omega))).trans (by first | assumption | (go_simp; done)); have q_w1_0_1 : w1.cell? ⟨w.heap.size, 1, none⟩ = some (.int .i64 P) := (hb1.cell (p := ⟨w.heap.size, 1, none⟩) (by first | (show w.heap.size < _; omega) | (show w.heap.size < _; simp; done) | (show w.heap.size < _; simp; omega))).trans (by first | assumption | (go_simp; done)))
    | (go_at_call 61; (with_reducible refine (rheavy_yes E P _ e1 e2' e3 h').mono ?_); rintro e w2 ⟨rfl, hb2⟩; have s_w2 := hb2.size; (try simp only [World.size_alloc, World.size_setCell, World.size_drew, sz_drewN] at s_w2); have z_w2_0_0 : w.heap.size < w2.heap.size := (by omega); have z_w2_0_1 : w.heap.size < w2.heap.size + 1 := (by omega); have z_w2_0_2 : w.heap.size < w2.heap.size + 1 + 1 := (by omega); have q_w2_0_0 : w2.cell? ⟨w.heap.size, 0, none⟩ = some (.int .i64 E) := (hb2.cell (p := ⟨w.heap.size, 0, none⟩) (by first | (show w.heap.size < _; omega) | (show w.heap.size < _; simp; done) | (show w.heap.size < _; simp; omega))).trans (by first | assumption | (go_simp; done)); have q_w2_0_1 : w2.cell? ⟨w.heap.size, 1, none⟩ = some (.int .i64 P) := (hb2.cell (p := ⟨w.heap.size, 1, none⟩) (by first | (show w.heap.size < _; omega) | (show w.heap.size < _; simp; done) | (show w.heap.size < _; simp; omega))).trans (by first | assumption | (go_simp; done)))
    | (go_at_call 30; (with_reducible refine (HD.out _).mono ?_); rintro e w3 ⟨rfl, hb3⟩; have s_w3 := hb3.size; (try simp only [World.size_alloc, World.size_setCell, World.size_drew, sz_drewN] at s_w3); have z_w3_0_0 : w.heap.size < w3.heap.size := (by omega); have z_w3_0_1 : w.heap.size < w3.heap.size + 1 := (by omega); have z_w3_0_2 : w.heap.size < w3.heap.size + 1 + 1 := (by omega); have q_w3_0_0 : w3.cell? ⟨w.heap.size, 0, none⟩ = some (.int .i64 E) := (hb3.cell (p := ⟨w.heap.size, 0, none⟩) (by first | (show w.heap.size < _; omega) | (show w.heap.size < _; simp; done) | (show w.heap.size < _; simp; omega))).trans (by first | assumption | (go_simp; done)); have q_w3_0_1 : w3.cell? ⟨w.heap.size, 1, none⟩ = some (.int .i64 P) := (hb3.cell (p := ⟨w.heap.size, 1, none⟩) (by first | (show w.heap.size < _; omega) | (show w.heap.size < _; simp; done) | (show w.heap.size < _; simp; omega))).trans (by first | assumption | (go_simp; done))))
  go_loopw [9] (fun s wr => ∃ k : Int, s = .int .i64 k ∧ 0 ≤ k ∧ k ≤ K ∧ wr = w3) (fun s _ => (K - intOf s).toNat)
  case atStart => exact ⟨_, rfl, b5, kK, by simp⟩
  case round =>
    obtain ⟨k, rfl, k0, k1, rfl⟩ := hrel
    obtain ⟨c1, c2, c3⟩ := BD.out k k0 k1
    by_cases hc : Win.up (k * P) (P - E) < D
    · have k2 := MO.out k k1 hc
      obtain ⟨c4, c5, c6⟩ := BD.out (k + 1) (by omega) (by omega)
      go_wp2_with (go_at_call 48; (with_reducible refine (rup_pos _ _ _ c1 c2 (by omega)).mono ?_); rintro e w' ⟨rfl, rfl⟩)
      go_roundw
      case rel => exact ⟨k + 1, by go_num, by omega, by omega, by simp⟩
      case measure => simp [intOf]; omega
    · have hg := Lib.hid (ST.out k k1 (by omega))
      go_wp2_with (go_at_call 48; (with_reducible refine (rup_pos _ _ _ c1 c2 (by omega)).mono ?_); rintro e w' ⟨rfl, rfl⟩)
      go_ret
      exact ⟨by rw [hg.out]; rfl, (by have s0_ := hb1.size; have s1_ := hb2.size; have s2_ := hb3.size; (try simp only [World.size_alloc, World.size_setCell, World.size_drew, sz_drewN] at s0_ s1_ s2_); repeat' (first | (with_reducible exact Below.refl _ _) | (with_reducible refine bel_call ?_ ?_ hb3) | (with_reducible refine bel_call ?_ ?_ hb2) | (with_reducible refine bel_call ?_ ?_ hb1) | (with_reducible refine Below.alloc ?_ ?_ _) | (with_reducible refine below_drewN ?_ _) | (with_reducible refine Below.drew ?_) | (with_reducible refine Below.setCell ?_ ?_ _) | omega | (simp; omega) | (simp; done)))⟩

theorem rgroup_yes (E P i : Int) (w : World) (e1 : 1 ≤ E) (e2 : E ≤ P) (e3 : P ≤ 1048576) (i1 : 1 ≤ i) (i2 : i ≤ 1099511627776) :
    Calls Try.prog 51 #[.agg #[.int .i64 E, .int .i64 P], .int .i64 i] w fun e w' => e = .returned (.int .i64 (Win.grp E P i)) ∧ Below w.heap.size w w' := by
  by_cases c : E = P
  · exact rgroup_full E P i w e1 e2 e3 i1 i2 c
  · by_cases d : P - E > E
    · exact rgroup_light E P i w e1 e2 e3 i1 i2 d
    · exact rgroup_heavy E P i w e1 (by omega) e3 i1 i2 d
end Go.Proofs.Ytpmenmcigflkdaa
