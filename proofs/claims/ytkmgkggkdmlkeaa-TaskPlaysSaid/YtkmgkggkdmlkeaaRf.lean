/- Contracts of the document's windows (layer 4), of weights and numbers that may be: all of them, the group and the subtask too. -/
import Derived.Test.YtkmgkggkdmlkeaaNw
import Derived.Deep.DeepCutAuto
namespace Go.Proofs.Ytkmgkggkdmlkeaa
open Go.RowKit
set_option linter.unusedVariables false
set_option linter.unusedSimpArgs false


set_option maxHeartbeats 400000 in
theorem rup_pos (a b : Int) (w : World) (ha : 0 ≤ a) (ha' : a ≤ 4611686018427387904) (hb : 0 < b) :
    Calls Try.prog 45 #[.int .i64 a, .int .i64 b] w fun e w' => e = .returned (.int .i64 (Win.up a b)) ∧ w = w' := by
  have hb' : 1 ≤ b := by omega
  have hq : a / b * b ≤ a := Win.fl_le a b hb
  have hq0 : 0 ≤ a / b := Int.ediv_nonneg ha (by omega)
  have hq1 : 0 ≤ a / b * b := Int.mul_nonneg hq0 (by omega)
  have hq2 : a / b ≤ a := Int.ediv_le_self _ ha
  by_cases h : a / b * b < a
  · have hu : Hid (Win.up a b = a / b + 1) := if_pos h
    go_enter Try.func45, Try.ntmps45
    go_wp2
    go_ret
    exact ⟨by rw [hu.out]; rfl, rfl⟩
  · have hu : Hid (Win.up a b = a / b) := if_neg h
    go_enter Try.func45, Try.ntmps45
    go_wp2
    go_ret
    exact ⟨by rw [hu.out]; rfl, rfl⟩

set_option maxHeartbeats 400000 in
theorem rcheck_yes (E P : Int) (w : World) (e1 : 1 ≤ E) (e2 : E ≤ P) (e3 : P ≤ 1048576) : Calls Try.prog 32 #[.agg #[.int .i64 E, .int .i64 P]] w fun e w' => e = .returned (.bool true) ∧ Below w.heap.size w w' := by
  go_enter Try.func32, Try.ntmps32
  go_wp2
  go_ret
  exact ⟨by first | rfl | (simp; omega), (by repeat' (first | (with_reducible exact Below.refl _ _) | (with_reducible refine Below.alloc ?_ ?_ _) | (with_reducible refine below_drewN ?_ _) | (with_reducible refine Below.drew ?_) | (with_reducible refine Below.setCell ?_ ?_ _) | omega | (simp; omega) | (simp; done)))⟩

set_option maxHeartbeats 400000 in
theorem rnumber_yes (E P i : Int) (w : World) (e1 : 1 ≤ E) (e2 : E ≤ P) (e3 : P ≤ 1048576) (i1 : 1 ≤ i) (i2 : i ≤ 1099511627776) :
    Calls Try.prog 41 #[.agg #[.int .i64 E, .int .i64 P], .int .i64 i] w fun e w' => e = .returned (.bool true) ∧ Below w.heap.size w w' := by
  go_enter Try.func41, Try.ntmps41
  go_wp2_with (go_at_call 32; refine (rcheck_yes _ _ _ e1 e2 e3).mono ?_; rintro e w1 ⟨rfl, hb1⟩)
  go_ret
  exact ⟨by first | rfl | (simp; omega), (by have s0_ := hb1.size; (try simp only [World.size_alloc, World.size_setCell, World.size_drew, sz_drewN] at s0_); repeat' (first | (with_reducible exact Below.refl _ _) | (with_reducible refine bel_call ?_ ?_ hb1) | (with_reducible refine Below.alloc ?_ ?_ _) | (with_reducible refine below_drewN ?_ _) | (with_reducible refine Below.drew ?_) | (with_reducible refine Below.setCell ?_ ?_ _) | omega | (simp; omega) | (simp; done)))⟩

set_option maxHeartbeats 400000 in
theorem rdeadline_yes (E P i : Int) (w : World) (e1 : 1 ≤ E) (e2 : E ≤ P) (e3 : P ≤ 1048576) (i1 : 1 ≤ i) (i2 : i ≤ 1099511627776) :
    Calls Try.prog 40 #[.agg #[.int .i64 E, .int .i64 P], .int .i64 i] w fun e w' => e = .returned (.int .i64 (Win.dl E P i)) ∧ Below w.heap.size w w' := by
  have m := mul_bd (i := i) (P := P) (by omega) (by omega) (by omega) (by omega)
  obtain ⟨m1, m2⟩ := m
  go_enter Try.func40, Try.ntmps40
  go_wp2_with (first
    | (go_at_call 41; refine (rnumber_yes E P i _ e1 e2 e3 i1 i2).mono ?_; rintro e w1 ⟨rfl, hb1⟩; have s_w1 := hb1.size; (try simp only [World.size_alloc, World.size_setCell, World.size_drew, sz_drewN] at s_w1); have z_w1_0_0 : w.heap.size < w1.heap.size := (by omega); have z_w1_0_1 : w.heap.size < w1.heap.size + 1 := (by omega); have z_w1_0_2 : w.heap.size < w1.heap.size + 1 + 1 := (by omega); have q_w1_0_0 : w1.cell? ⟨w.heap.size, 0, none⟩ = some (.int .i64 E) := (hb1.cell (p := ⟨w.heap.size, 0, none⟩) (by first | (show w.heap.size < _; omega) | (show w.heap.size < _; simp; done) | (show w.heap.size < _; simp; omega))).trans (by first | assumption | (go_simp; done)); have q_w1_0_1 : w1.cell? ⟨w.heap.size, 1, none⟩ = some (.int .i64 P) := (hb1.cell (p := ⟨w.heap.size, 1, none⟩) (by first | (show w.heap.size < _; omega) | (show w.heap.size < _; simp; done) | (show w.heap.size < _; simp; omega))).trans (by first | assumption | (go_simp; done)))
    | (go_at_call 45; refine (rup_pos _ _ _ m1 (by omega) (by omega)).mono ?_; rintro e w' ⟨rfl, rfl⟩))
  go_ret
  exact ⟨rfl, (by have s0_ := hb1.size; (try simp only [World.size_alloc, World.size_setCell, World.size_drew, sz_drewN] at s0_); repeat' (first | (with_reducible exact Below.refl _ _) | (with_reducible refine bel_call ?_ ?_ hb1) | (with_reducible refine Below.alloc ?_ ?_ _) | (with_reducible refine below_drewN ?_ _) | (with_reducible refine Below.drew ?_) | (with_reducible refine Below.setCell ?_ ?_ _) | omega | (simp; omega) | (simp; done)))⟩

set_option maxHeartbeats 400000 in
theorem rrelease_yes (E P i : Int) (w : World) (e1 : 1 ≤ E) (e2 : E ≤ P) (e3 : P ≤ 1048576) (i1 : 1 ≤ i) (i2 : i ≤ 1099511627776) :
    Calls Try.prog 20 #[.agg #[.int .i64 E, .int .i64 P], .int .i64 i] w fun e w' => e = .returned (.int .i64 (Win.rel E P i)) ∧ Below w.heap.size w w' := by
  have m := mul_bd (i := i - 1) (P := P) (by omega) (by omega) (by omega) (by omega)
  obtain ⟨m1, m2⟩ := m
  go_enter Try.func20, Try.ntmps20
  go_wp2_with (go_at_call 41; refine (rnumber_yes E P i _ e1 e2 e3 i1 i2).mono ?_; rintro e w1 ⟨rfl, hb1⟩; have s_w1 := hb1.size; (try simp only [World.size_alloc, World.size_setCell, World.size_drew, sz_drewN] at s_w1); have z_w1_0_0 : w.heap.size < w1.heap.size := (by omega); have z_w1_0_1 : w.heap.size < w1.heap.size + 1 := (by omega); have z_w1_0_2 : w.heap.size < w1.heap.size + 1 + 1 := (by omega); have q_w1_0_0 : w1.cell? ⟨w.heap.size, 0, none⟩ = some (.int .i64 E) := (hb1.cell (p := ⟨w.heap.size, 0, none⟩) (by first | (show w.heap.size < _; omega) | (show w.heap.size < _; simp; done) | (show w.heap.size < _; simp; omega))).trans (by first | assumption | (go_simp; done)); have q_w1_0_1 : w1.cell? ⟨w.heap.size, 1, none⟩ = some (.int .i64 P) := (hb1.cell (p := ⟨w.heap.size, 1, none⟩) (by first | (show w.heap.size < _; omega) | (show w.heap.size < _; simp; done) | (show w.heap.size < _; simp; omega))).trans (by first | assumption | (go_simp; done)))
  go_ret
  exact ⟨rfl, (by have s0_ := hb1.size; (try simp only [World.size_alloc, World.size_setCell, World.size_drew, sz_drewN] at s0_); repeat' (first | (with_reducible exact Below.refl _ _) | (with_reducible refine bel_call ?_ ?_ hb1) | (with_reducible refine Below.alloc ?_ ?_ _) | (with_reducible refine below_drewN ?_ _) | (with_reducible refine Below.drew ?_) | (with_reducible refine Below.setCell ?_ ?_ _) | omega | (simp; omega) | (simp; done)))⟩

/-! ### FluidWindows -/

set_option maxHeartbeats 400000 in
theorem rheavy_yes (E P : Int) (w : World) (e1 : 1 ≤ E) (e2 : E ≤ P) (e3 : P ≤ 1048576) (h : P - E ≤ E) : Calls Try.prog 46 #[.agg #[.int .i64 E, .int .i64 P]] w fun e w' => e = .returned (.bool true) ∧ Below w.heap.size w w' := by
  go_enter Try.func46, Try.ntmps46
  go_wp2_with (go_at_call 32; (with_reducible refine (rcheck_yes _ _ _ e1 e2 e3).mono ?_); rintro e w1 ⟨rfl, hb1⟩; have s_w1 := hb1.size; (try simp only [World.size_alloc, World.size_setCell, World.size_drew, sz_drewN] at s_w1); have z_w1_0_0 : w.heap.size < w1.heap.size := (by omega); have z_w1_0_1 : w.heap.size < w1.heap.size + 1 := (by omega); have z_w1_0_2 : w.heap.size < w1.heap.size + 1 + 1 := (by omega); have q_w1_0_0 : w1.cell? ⟨w.heap.size, 0, none⟩ = some (.int .i64 E) := (hb1.cell (p := ⟨w.heap.size, 0, none⟩) (by first | (show w.heap.size < _; omega) | (show w.heap.size < _; simp; done) | (show w.heap.size < _; simp; omega))).trans (by first | assumption | (go_simp; done)); have q_w1_0_1 : w1.cell? ⟨w.heap.size, 1, none⟩ = some (.int .i64 P) := (hb1.cell (p := ⟨w.heap.size, 1, none⟩) (by first | (show w.heap.size < _; omega) | (show w.heap.size < _; simp; done) | (show w.heap.size < _; simp; omega))).trans (by first | assumption | (go_simp; done)))
  go_ret
  exact ⟨by first | rfl | (simp; omega), (by have s0_ := hb1.size; (try simp only [World.size_alloc, World.size_setCell, World.size_drew, sz_drewN] at s0_); repeat' (first | (with_reducible exact Below.refl _ _) | (with_reducible refine bel_call ?_ ?_ hb1) | (with_reducible refine Below.alloc ?_ ?_ _) | (with_reducible refine below_drewN ?_ _) | (with_reducible refine Below.drew ?_) | (with_reducible refine Below.setCell ?_ ?_ _) | omega | (simp; omega) | (simp; done)))⟩
set_option maxHeartbeats 400000 in
theorem rheavy_no (E P : Int) (w : World) (e1 : 1 ≤ E) (e2 : E ≤ P) (e3 : P ≤ 1048576) (h : P - E > E) : Calls Try.prog 46 #[.agg #[.int .i64 E, .int .i64 P]] w fun e w' => e = .returned (.bool false) ∧ Below w.heap.size w w' := by
  go_enter Try.func46, Try.ntmps46
  go_wp2_with (go_at_call 32; (with_reducible refine (rcheck_yes _ _ _ e1 e2 e3).mono ?_); rintro e w1 ⟨rfl, hb1⟩; have s_w1 := hb1.size; (try simp only [World.size_alloc, World.size_setCell, World.size_drew, sz_drewN] at s_w1); have z_w1_0_0 : w.heap.size < w1.heap.size := (by omega); have z_w1_0_1 : w.heap.size < w1.heap.size + 1 := (by omega); have z_w1_0_2 : w.heap.size < w1.heap.size + 1 + 1 := (by omega); have q_w1_0_0 : w1.cell? ⟨w.heap.size, 0, none⟩ = some (.int .i64 E) := (hb1.cell (p := ⟨w.heap.size, 0, none⟩) (by first | (show w.heap.size < _; omega) | (show w.heap.size < _; simp; done) | (show w.heap.size < _; simp; omega))).trans (by first | assumption | (go_simp; done)); have q_w1_0_1 : w1.cell? ⟨w.heap.size, 1, none⟩ = some (.int .i64 P) := (hb1.cell (p := ⟨w.heap.size, 1, none⟩) (by first | (show w.heap.size < _; omega) | (show w.heap.size < _; simp; done) | (show w.heap.size < _; simp; omega))).trans (by first | assumption | (go_simp; done)))
  go_ret
  exact ⟨by first | rfl | (simp; omega), (by have s0_ := hb1.size; (try simp only [World.size_alloc, World.size_setCell, World.size_drew, sz_drewN] at s0_); repeat' (first | (with_reducible exact Below.refl _ _) | (with_reducible refine bel_call ?_ ?_ hb1) | (with_reducible refine Below.alloc ?_ ?_ _) | (with_reducible refine below_drewN ?_ _) | (with_reducible refine Below.drew ?_) | (with_reducible refine Below.setCell ?_ ?_ _) | omega | (simp; omega) | (simp; done)))⟩

set_option maxHeartbeats 800000 in
theorem rbit_yes (E P i : Int) (w : World) (e1 : 1 ≤ E) (e2 : E ≤ P) (e3 : P ≤ 1048576) (i1 : 1 ≤ i) (i2 : i ≤ 1099511627776) :
    Calls Try.prog 16 #[.agg #[.int .i64 E, .int .i64 P], .int .i64 i] w fun e w' => e = .returned (.int .i64 (Win.bit E P i)) ∧ Below w.heap.size w w' := by
  obtain ⟨m1, m2⟩ := mul_bd (i := i) (P := P) (by omega) (by omega) (by omega) (by omega)
  by_cases h : i * P % E = 0
  · have hb : Hid (Win.bit E P i = 0) := if_pos h
    have h' : (i * P % E == 0) = true := by simp [h]
    clear h
    go_enter Try.func16, Try.ntmps16
    go_wp2_with (go_at_call 41; (with_reducible refine (rnumber_yes E P i _ e1 e2 e3 i1 i2).mono ?_); rintro e w1 ⟨rfl, hb1⟩; have s_w1 := hb1.size; (try simp only [World.size_alloc, World.size_setCell, World.size_drew, sz_drewN] at s_w1); have z_w1_0_0 : w.heap.size < w1.heap.size := (by omega); have z_w1_0_1 : w.heap.size < w1.heap.size + 1 := (by omega); have z_w1_0_2 : w.heap.size < w1.heap.size + 1 + 1 := (by omega); have q_w1_0_0 : w1.cell? ⟨w.heap.size, 0, none⟩ = some (.int .i64 E) := (hb1.cell (p := ⟨w.heap.size, 0, none⟩) (by first | (show w.heap.size < _; omega) | (show w.heap.size < _; simp; done) | (show w.heap.size < _; simp; omega))).trans (by first | assumption | (go_simp; done)); have q_w1_0_1 : w1.cell? ⟨w.heap.size, 1, none⟩ = some (.int .i64 P) := (hb1.cell (p := ⟨w.heap.size, 1, none⟩) (by first | (show w.heap.size < _; omega) | (show w.heap.size < _; simp; done) | (show w.heap.size < _; simp; omega))).trans (by first | assumption | (go_simp; done)))
    go_ret
    exact ⟨by rw [hb.out]; rfl, (by have s0_ := hb1.size; (try simp only [World.size_alloc, World.size_setCell, World.size_drew, sz_drewN] at s0_); repeat' (first | (with_reducible exact Below.refl _ _) | (with_reducible refine bel_call ?_ ?_ hb1) | (with_reducible refine Below.alloc ?_ ?_ _) | (with_reducible refine below_drewN ?_ _) | (with_reducible refine Below.drew ?_) | (with_reducible refine Below.setCell ?_ ?_ _) | omega | (simp; omega) | (simp; done)))⟩
  · have hb : Hid (Win.bit E P i = 1) := if_neg h
    have h' : (i * P % E == 0) = false := by simp [h]
    clear h
    go_enter Try.func16, Try.ntmps16
    go_wp2_with (go_at_call 41; (with_reducible refine (rnumber_yes E P i _ e1 e2 e3 i1 i2).mono ?_); rintro e w1 ⟨rfl, hb1⟩; have s_w1 := hb1.size; (try simp only [World.size_alloc, World.size_setCell, World.size_drew, sz_drewN] at s_w1); have z_w1_0_0 : w.heap.size < w1.heap.size := (by omega); have z_w1_0_1 : w.heap.size < w1.heap.size + 1 := (by omega); have z_w1_0_2 : w.heap.size < w1.heap.size + 1 + 1 := (by omega); have q_w1_0_0 : w1.cell? ⟨w.heap.size, 0, none⟩ = some (.int .i64 E) := (hb1.cell (p := ⟨w.heap.size, 0, none⟩) (by first | (show w.heap.size < _; omega) | (show w.heap.size < _; simp; done) | (show w.heap.size < _; simp; omega))).trans (by first | assumption | (go_simp; done)); have q_w1_0_1 : w1.cell? ⟨w.heap.size, 1, none⟩ = some (.int .i64 P) := (hb1.cell (p := ⟨w.heap.size, 1, none⟩) (by first | (show w.heap.size < _; omega) | (show w.heap.size < _; simp; done) | (show w.heap.size < _; simp; omega))).trans (by first | assumption | (go_simp; done)))
    go_ret
    exact ⟨by rw [hb.out]; rfl, (by have s0_ := hb1.size; (try simp only [World.size_alloc, World.size_setCell, World.size_drew, sz_drewN] at s0_); repeat' (first | (with_reducible exact Below.refl _ _) | (with_reducible refine bel_call ?_ ?_ hb1) | (with_reducible refine Below.alloc ?_ ?_ _) | (with_reducible refine below_drewN ?_ _) | (with_reducible refine Below.drew ?_) | (with_reducible refine Below.setCell ?_ ?_ _) | omega | (simp; omega) | (simp; done)))⟩

set_option maxHeartbeats 800000 in
theorem rgroup_light (E P i : Int) (w : World) (e1 : 1 ≤ E) (e2 : E ≤ P) (e3 : P ≤ 1048576) (i1 : 1 ≤ i) (i2 : i ≤ 1099511627776) (h : P - E > E) :
    Calls Try.prog 42 #[.agg #[.int .i64 E, .int .i64 P], .int .i64 i] w fun e w' => e = .returned (.int .i64 (Win.grp E P i)) ∧ Below w.heap.size w w' := by
  have hg : Hid (Win.grp E P i = 0) := if_pos h
  go_enter Try.func42, Try.ntmps42
  go_wp2_with (first
    | (go_at_call 41; (with_reducible refine (rnumber_yes E P i _ e1 e2 e3 i1 i2).mono ?_); rintro e w1 ⟨rfl, hb1⟩; have s_w1 := hb1.size; (try simp only [World.size_alloc, World.size_setCell, World.size_drew, sz_drewN] at s_w1); have z_w1_0_0 : w.heap.size < w1.heap.size := (by omega); have z_w1_0_1 : w.heap.size < w1.heap.size + 1 := (by omega); have z_w1_0_2 : w.heap.size < w1.heap.size + 1 + 1 := (by omega); have q_w1_0_0 : w1.cell? ⟨w.heap.size, 0, none⟩ = some (.int .i64 E) := (hb1.cell (p := ⟨w.heap.size, 0, none⟩) (by first | (show w.heap.size < _; omega) | (show w.heap.size < _; simp; done) | (show w.heap.size < _; simp; omega))).trans (by first | assumption | (go_simp; done)); have q_w1_0_1 : w1.cell? ⟨w.heap.size, 1, none⟩ = some (.int .i64 P) := (hb1.cell (p := ⟨w.heap.size, 1, none⟩) (by first | (show w.heap.size < _; omega) | (show w.heap.size < _; simp; done) | (show w.heap.size < _; simp; omega))).trans (by first | assumption | (go_simp; done)))
    | (go_at_call 46; (with_reducible refine (rheavy_no E P _ e1 e2 e3 (by omega)).mono ?_); rintro e w2 ⟨rfl, hb2⟩; have s_w2 := hb2.size; (try simp only [World.size_alloc, World.size_setCell, World.size_drew, sz_drewN] at s_w2); have z_w2_0_0 : w.heap.size < w2.heap.size := (by omega); have z_w2_0_1 : w.heap.size < w2.heap.size + 1 := (by omega); have z_w2_0_2 : w.heap.size < w2.heap.size + 1 + 1 := (by omega); have q_w2_0_0 : w2.cell? ⟨w.heap.size, 0, none⟩ = some (.int .i64 E) := (hb2.cell (p := ⟨w.heap.size, 0, none⟩) (by first | (show w.heap.size < _; omega) | (show w.heap.size < _; simp; done) | (show w.heap.size < _; simp; omega))).trans (by first | assumption | (go_simp; done)); have q_w2_0_1 : w2.cell? ⟨w.heap.size, 1, none⟩ = some (.int .i64 P) := (hb2.cell (p := ⟨w.heap.size, 1, none⟩) (by first | (show w.heap.size < _; omega) | (show w.heap.size < _; simp; done) | (show w.heap.size < _; simp; omega))).trans (by first | assumption | (go_simp; done))))
  go_ret
  exact ⟨by rw [hg.out]; rfl, (by have s0_ := hb1.size; have s1_ := hb2.size; (try simp only [World.size_alloc, World.size_setCell, World.size_drew, sz_drewN] at s0_ s1_); repeat' (first | (with_reducible exact Below.refl _ _) | (with_reducible refine bel_call ?_ ?_ hb2) | (with_reducible refine bel_call ?_ ?_ hb1) | (with_reducible refine Below.alloc ?_ ?_ _) | (with_reducible refine below_drewN ?_ _) | (with_reducible refine Below.drew ?_) | (with_reducible refine Below.setCell ?_ ?_ _) | omega | (simp; omega) | (simp; done)))⟩

set_option maxHeartbeats 800000 in
theorem rgroup_full (E P i : Int) (w : World) (e1 : 1 ≤ E) (e2 : E ≤ P) (e3 : P ≤ 1048576) (i1 : 1 ≤ i) (i2 : i ≤ 1099511627776) (h : E = P) :
    Calls Try.prog 42 #[.agg #[.int .i64 E, .int .i64 P], .int .i64 i] w fun e w' => e = .returned (.int .i64 (Win.grp E P i)) ∧ Below w.heap.size w w' := by
  have hg : Hid (Win.grp E P i = Win.dl E P i) := by show _ = _; unfold Win.grp; rw [if_neg (by omega), if_pos (by omega)]
  have T : (E == P) = true := by simp [h]
  have h' : P - E ≤ E := by omega
  clear h
  go_enter Try.func42, Try.ntmps42
  go_wp2_with (first
    | (go_at_call 41; (with_reducible refine (rnumber_yes E P i _ e1 e2 e3 i1 i2).mono ?_); rintro e w1 ⟨rfl, hb1⟩; have s_w1 := hb1.size; (try simp only [World.size_alloc, World.size_setCell, World.size_drew, sz_drewN] at s_w1); have z_w1_0_0 : w.heap.size < w1.heap.size := (by omega); have z_w1_0_1 : w.heap.size < w1.heap.size + 1 := (by omega); have z_w1_0_2 : w.heap.size < w1.heap.size + 1 + 1 := (by omega); have q_w1_0_0 : w1.cell? ⟨w.heap.size, 0, none⟩ = some (.int .i64 E) := (hb1.cell (p := ⟨w.heap.size, 0, none⟩) (by first | (show w.heap.size < _; omega) | (show w.heap.size < _; simp; done) | (show w.heap.size < _; simp; omega))).trans (by first | assumption | (go_simp; done)); have q_w1_0_1 : w1.cell? ⟨w.heap.size, 1, none⟩ = some (.int .i64 P) := (hb1.cell (p := ⟨w.heap.size, 1, none⟩) (by first | (show w.heap.size < _; omega) | (show w.heap.size < _; simp; done) | (show w.heap.size < _; simp; omega))).trans (by first | assumption | (go_simp; done)))
    | (go_at_call 46; (with_reducible refine (rheavy_yes E P _ e1 e2 e3 h').mono ?_); rintro e w2 ⟨rfl, hb2⟩; have s_w2 := hb2.size; (try simp only [World.size_alloc, World.size_setCell, World.size_drew, sz_drewN] at s_w2); have z_w2_0_0 : w.heap.size < w2.heap.size := (by omega); have z_w2_0_1 : w.heap.size < w2.heap.size + 1 := (by omega); have z_w2_0_2 : w.heap.size < w2.heap.size + 1 + 1 := (by omega); have q_w2_0_0 : w2.cell? ⟨w.heap.size, 0, none⟩ = some (.int .i64 E) := (hb2.cell (p := ⟨w.heap.size, 0, none⟩) (by first | (show w.heap.size < _; omega) | (show w.heap.size < _; simp; done) | (show w.heap.size < _; simp; omega))).trans (by first | assumption | (go_simp; done)); have q_w2_0_1 : w2.cell? ⟨w.heap.size, 1, none⟩ = some (.int .i64 P) := (hb2.cell (p := ⟨w.heap.size, 1, none⟩) (by first | (show w.heap.size < _; omega) | (show w.heap.size < _; simp; done) | (show w.heap.size < _; simp; omega))).trans (by first | assumption | (go_simp; done)))
    | (go_at_call 40; (with_reducible refine (rdeadline_yes E P i _ e1 e2 e3 i1 i2).mono ?_); rintro e w3 ⟨rfl, hb3⟩; have s_w3 := hb3.size; (try simp only [World.size_alloc, World.size_setCell, World.size_drew, sz_drewN] at s_w3); have z_w3_0_0 : w.heap.size < w3.heap.size := (by omega); have z_w3_0_1 : w.heap.size < w3.heap.size + 1 := (by omega); have z_w3_0_2 : w.heap.size < w3.heap.size + 1 + 1 := (by omega); have q_w3_0_0 : w3.cell? ⟨w.heap.size, 0, none⟩ = some (.int .i64 E) := (hb3.cell (p := ⟨w.heap.size, 0, none⟩) (by first | (show w.heap.size < _; omega) | (show w.heap.size < _; simp; done) | (show w.heap.size < _; simp; omega))).trans (by first | assumption | (go_simp; done)); have q_w3_0_1 : w3.cell? ⟨w.heap.size, 1, none⟩ = some (.int .i64 P) := (hb3.cell (p := ⟨w.heap.size, 1, none⟩) (by first | (show w.heap.size < _; omega) | (show w.heap.size < _; simp; done) | (show w.heap.size < _; simp; omega))).trans (by first | assumption | (go_simp; done))))
  go_ret
  exact ⟨by rw [hg.out]; rfl, (by have s0_ := hb1.size; have s1_ := hb2.size; have s2_ := hb3.size; (try simp only [World.size_alloc, World.size_setCell, World.size_drew, sz_drewN] at s0_ s1_ s2_); repeat' (first | (with_reducible exact Below.refl _ _) | (with_reducible refine bel_call ?_ ?_ hb3) | (with_reducible refine bel_call ?_ ?_ hb2) | (with_reducible refine bel_call ?_ ?_ hb1) | (with_reducible refine Below.alloc ?_ ?_ _) | (with_reducible refine below_drewN ?_ _) | (with_reducible refine Below.drew ?_) | (with_reducible refine Below.setCell ?_ ?_ _) | omega | (simp; omega) | (simp; done)))⟩

set_option maxHeartbeats 1600000 in
theorem rgroup_heavy (E P i : Int) (w : World) (e1 : 1 ≤ E) (e2 : E < P) (e3 : P ≤ 1048576) (i1 : 1 ≤ i) (i2 : i ≤ 1099511627776) (h : ¬ P - E > E) :
    Calls Try.prog 42 #[.agg #[.int .i64 E, .int .i64 P], .int .i64 i] w fun e w' => e = .returned (.int .i64 (Win.grp E P i)) ∧ Below w.heap.size w w' := by
  have hd := fun w => rdeadline_yes E P i w e1 (by omega) e3 i1 i2
  obtain ⟨d0, d1⟩ := grp_bds1 E P i e1 (by omega) e3 (by omega) i1 i2
  obtain ⟨b1, b2, b3, b4, b5, b6, b7, b8, b9, b10⟩ := grp_bds2 (Win.dl E P i) P (P - E) d0 d1 (by omega) (by omega) e3
  have kK : Win.dl E P i / P * (P - E) ≤ Win.kk E P i := by
    have a := Win.grp_k (Win.dl E P i) (P - E) P (by omega)
    rw [Win.kk_up E P i (by omega) e2] at a
    omega
  have BD : Hid (∀ k, 0 ≤ k → k ≤ Win.kk E P i → 0 ≤ k * P ∧ k * P ≤ 4611686018427387904 ∧ k ≤ 2199023255552) := by
    intro k k0 hk
    have a := Win.heavy_bd E P i k (by omega) e2 e3 h (by omega) i2 k0 hk
    have b := Int.mul_le_mul_of_nonneg_right a.2.2.2.2 (show 0 ≤ P by omega)
    have c := Int.mul_le_mul_of_nonneg_left e3 (show (0 : Int) ≤ 2199023255552 by omega)
    exact ⟨Int.mul_nonneg k0 (by omega), by omega, a.2.2.2.2⟩
  have ST : Hid (∀ k, k ≤ Win.kk E P i → Win.dl E P i ≤ Win.up (k * P) (P - E) → Win.grp E P i = Win.up (k * P) (P - E)) := fun k hk hh => (Win.kk_stop E P i k (by omega) e2 h hk hh).2.symm
  have MO : Hid (∀ k, k ≤ Win.kk E P i → Win.up (k * P) (P - E) < Win.dl E P i → k < Win.kk E P i) := fun k hk hh => Win.kk_more E P i k (by omega) e2 h hk hh
  have e2' : E ≤ P := by omega
  have h' : P - E ≤ E := by omega
  have T : (E == P) = false := by rw [beq_eq_false_iff_ne]; omega
  have pp : ¬ P = 0 := by omega
  have td : (Win.dl E P i).tdiv P = Win.dl E P i / P := Int.tdiv_eq_ediv_of_nonneg d0
  have HD := Lib.hid hd
  clear hd h b1 b3 b4 b7 b8 b9 b10
  generalize Win.kk E P i = K at *
  generalize Win.dl E P i = D at *
  generalize Win.grp E P i = G at *
  have b11 : D / P ≤ D := Int.ediv_le_self _ d0
  have pw : IntKind.i64.wrap (D / P) = D / P := IntWalk.i64_in _ (by omega)
  go_enter Try.func42, Try.ntmps42
  go_wp2_with (first
    | (go_at_call 41; (with_reducible refine (rnumber_yes E P i _ e1 e2' e3 i1 i2).mono ?_); rintro e w1 ⟨rfl, hb1⟩; have s_w1 := hb1.size; (try simp only [World.size_alloc, World.size_setCell, World.size_drew, sz_drewN] at s_w1); have z_w1_0_0 : w.heap.size < w1.heap.size := (by omega); have z_w1_0_1 : w.heap.size < w1.heap.size + 1 := (by omega); have z_w1_0_2 : w.heap.size < w1.heap.size + 1 + 1 := (by omega); have q_w1_0_0 : w1.cell? ⟨w.heap.size, 0, none⟩ = some (.int .i64 E) := (hb1.cell (p := ⟨w.heap.size, 0, none⟩) (by first | (show w.heap.size < _; omega) | (show w.heap.size < _; simp; done) | (show w.heap.size < _; simp; omega))).trans (by first | assumption | (go_simp; done)); have q_w1_0_1 : w1.cell? ⟨w.heap.size, 1, none⟩ = some (.int .i64 P) := (hb1.cell (p := ⟨w.heap.size, 1, none⟩) (by first | (show w.heap.size < _; omega) | (show w.heap.size < _; simp; done) | (show w.heap.size < _; simp; omega))).trans (by first | assumption | (go_simp; done)))
    | (go_at_call 46; (with_reducible refine (rheavy_yes E P _ e1 e2' e3 h').mono ?_); rintro e w2 ⟨rfl, hb2⟩; have s_w2 := hb2.size; (try simp only [World.size_alloc, World.size_setCell, World.size_drew, sz_drewN] at s_w2); have z_w2_0_0 : w.heap.size < w2.heap.size := (by omega); have z_w2_0_1 : w.heap.size < w2.heap.size + 1 := (by omega); have z_w2_0_2 : w.heap.size < w2.heap.size + 1 + 1 := (by omega); have q_w2_0_0 : w2.cell? ⟨w.heap.size, 0, none⟩ = some (.int .i64 E) := (hb2.cell (p := ⟨w.heap.size, 0, none⟩) (by first | (show w.heap.size < _; omega) | (show w.heap.size < _; simp; done) | (show w.heap.size < _; simp; omega))).trans (by first | assumption | (go_simp; done)); have q_w2_0_1 : w2.cell? ⟨w.heap.size, 1, none⟩ = some (.int .i64 P) := (hb2.cell (p := ⟨w.heap.size, 1, none⟩) (by first | (show w.heap.size < _; omega) | (show w.heap.size < _; simp; done) | (show w.heap.size < _; simp; omega))).trans (by first | assumption | (go_simp; done)))
    | (go_at_call 40; (with_reducible refine (HD.out _).mono ?_); rintro e w3 ⟨rfl, hb3⟩; have s_w3 := hb3.size; (try simp only [World.size_alloc, World.size_setCell, World.size_drew, sz_drewN] at s_w3); have z_w3_0_0 : w.heap.size < w3.heap.size := (by omega); have z_w3_0_1 : w.heap.size < w3.heap.size + 1 := (by omega); have z_w3_0_2 : w.heap.size < w3.heap.size + 1 + 1 := (by omega); have q_w3_0_0 : w3.cell? ⟨w.heap.size, 0, none⟩ = some (.int .i64 E) := (hb3.cell (p := ⟨w.heap.size, 0, none⟩) (by first | (show w.heap.size < _; omega) | (show w.heap.size < _; simp; done) | (show w.heap.size < _; simp; omega))).trans (by first | assumption | (go_simp; done)); have q_w3_0_1 : w3.cell? ⟨w.heap.size, 1, none⟩ = some (.int .i64 P) := (hb3.cell (p := ⟨w.heap.size, 1, none⟩) (by first | (show w.heap.size < _; omega) | (show w.heap.size < _; simp; done) | (show w.heap.size < _; simp; omega))).trans (by first | assumption | (go_simp; done))))
  go_loopw [9] (fun s wr => ∃ k : Int, s = .int .i64 k ∧ 0 ≤ k ∧ k ≤ K ∧ wr = w3) (fun s _ => (K - intOf s).toNat)
  case atStart => exact ⟨_, rfl, b5, kK, by simp⟩
  case round =>
    obtain ⟨k, rfl, k0, k1, rfl⟩ := hrel
    obtain ⟨c1, c2, c3⟩ := BD.out k k0 k1
    by_cases hc : Win.up (k * P) (P - E) < D
    · have k2 := MO.out k k1 hc
      obtain ⟨c4, c5, c6⟩ := BD.out (k + 1) (by omega) (by omega)
      go_wp2_with (go_at_call 45; (with_reducible refine (rup_pos _ _ _ c1 c2 (by omega)).mono ?_); rintro e w' ⟨rfl, rfl⟩)
      go_roundw
      case rel => exact ⟨k + 1, by go_num, by omega, by omega, by simp⟩
      case measure => simp [intOf]; omega
    · have hg := Lib.hid (ST.out k k1 (by omega))
      go_wp2_with (go_at_call 45; (with_reducible refine (rup_pos _ _ _ c1 c2 (by omega)).mono ?_); rintro e w' ⟨rfl, rfl⟩)
      go_ret
      exact ⟨by rw [hg.out]; rfl, (by have s0_ := hb1.size; have s1_ := hb2.size; have s2_ := hb3.size; (try simp only [World.size_alloc, World.size_setCell, World.size_drew, sz_drewN] at s0_ s1_ s2_); repeat' (first | (with_reducible exact Below.refl _ _) | (with_reducible refine bel_call ?_ ?_ hb3) | (with_reducible refine bel_call ?_ ?_ hb2) | (with_reducible refine bel_call ?_ ?_ hb1) | (with_reducible refine Below.alloc ?_ ?_ _) | (with_reducible refine below_drewN ?_ _) | (with_reducible refine Below.drew ?_) | (with_reducible refine Below.setCell ?_ ?_ _) | omega | (simp; omega) | (simp; done)))⟩

theorem rgroup_yes (E P i : Int) (w : World) (e1 : 1 ≤ E) (e2 : E ≤ P) (e3 : P ≤ 1048576) (i1 : 1 ≤ i) (i2 : i ≤ 1099511627776) :
    Calls Try.prog 42 #[.agg #[.int .i64 E, .int .i64 P], .int .i64 i] w fun e w' => e = .returned (.int .i64 (Win.grp E P i)) ∧ Below w.heap.size w w' := by
  by_cases c : E = P
  · exact rgroup_full E P i w e1 e2 e3 i1 i2 c
  · by_cases d : P - E > E
    · exact rgroup_light E P i w e1 e2 e3 i1 i2 d
    · exact rgroup_heavy E P i w e1 (by omega) e3 i1 i2 d
end Go.Proofs.Ytkmgkggkdmlkeaa
