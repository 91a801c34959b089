/- Contracts of fluid's functions, of weights and slots that may be. -/
import Derived.Test.YtpmenmcigflkdaaExact
namespace Go.Proofs.Ytpmenmcigflkdaa
open Go.RowKit
set_option linter.unusedVariables false
set_option linter.unusedSimpArgs false

set_option maxHeartbeats 400000 in
theorem mayn_yes (n : Int) (w : World) (h0 : 0 ≤ n) (h1 : n ≤ 1099511627776) : Calls Try.prog 50 #[.int .i64 n] w fun e w' => e = .returned (.bool true) ∧ w = w' := by
  go_enter Try.func50, Try.ntmps50
  go_wp2
  go_ret
  exact ⟨by first | rfl | (simp; omega), rfl⟩

theorem prod_bd {x y : Int} (x0 : 0 ≤ x) (x1 : x ≤ 1048576) (y0 : 0 ≤ y) (y1 : y ≤ 1099511627776) : 0 ≤ x * y ∧ x * y ≤ 1152921504606846976 := by
  rw [Int.mul_comm]; exact mul_bd y0 y1 x0 x1

set_option maxHeartbeats 800000 in
theorem lag_yes (E P s q : Int) (w : World) (e1 : 1 ≤ E) (e2 : E ≤ P) (e3 : P ≤ 1048576) (s0 : 0 ≤ s) (s1 : s ≤ 1099511627776) (q0 : 0 ≤ q) (q1 : q ≤ 1099511627776) :
    Calls Try.prog 32 #[.agg #[.int .i64 E, .int .i64 P], .int .i64 s, .int .i64 q] w fun e w' => e = .returned (.tuple #[.int .i64 (E * s - P * q), .int .i64 0]) ∧ Below w.heap.size w w' := by
  obtain ⟨a0, a1⟩ := prod_bd (x := E) (by omega) (by omega) s0 s1
  obtain ⟨b0, b1⟩ := prod_bd (x := P) (by omega) (by omega) q0 q1
  have hA : ∀ w, Calls Try.prog 24 #[.int .i64 E, .int .i64 s] w fun e w' => e = .returned (.tuple #[.int .i64 (E * s), .int .i64 0]) ∧ w = w' := fun w => by
    have h := mul_any E s w (by unfold Fits; omega) (by unfold Fits; omega)
    rw [told_in (by unfold Fits; omega)] at h; exact h
  have hB : ∀ w, Calls Try.prog 24 #[.int .i64 P, .int .i64 q] w fun e w' => e = .returned (.tuple #[.int .i64 (P * q), .int .i64 0]) ∧ w = w' := fun w => by
    have h := mul_any P q w (by unfold Fits; omega) (by unfold Fits; omega)
    rw [told_in (by unfold Fits; omega)] at h; exact h
  have hC : ∀ w, Calls Try.prog 36 #[.int .i64 (E * s), .int .i64 (P * q)] w fun e w' => e = .returned (.tuple #[.int .i64 (E * s - P * q), .int .i64 0]) ∧ w = w' := fun w => by
    have h := sub_any (E * s) (P * q) w (by unfold Fits; omega) (by unfold Fits; omega)
    rw [told_in (by unfold Fits; omega)] at h; exact h
  have HA := Lib.hid hA
  have HB := Lib.hid hB
  have HC := Lib.hid hC
  clear hA hB hC
  go_enter Try.func32, Try.ntmps32
  go_wp2_with (first
    | (go_at_call 49; refine (check_yes _ _ _ e1 e2 e3).mono ?_; rintro e w1 ⟨rfl, hb1⟩; have s_w1 := hb1.size; (try simp only [World.size_alloc, World.size_setCell, World.size_drew, sz_drewN] at s_w1); have z_w1_0_0 : w.heap.size < w1.heap.size := (by omega); have z_w1_0_1 : w.heap.size < w1.heap.size + 1 := (by omega); have z_w1_0_2 : w.heap.size < w1.heap.size + 1 + 1 := (by omega); have q_w1_0_0 : w1.cell? ⟨w.heap.size, 0, none⟩ = some (.int .i64 E) := (hb1.cell (p := ⟨w.heap.size, 0, none⟩) (by first | (show w.heap.size < _; omega) | (show w.heap.size < _; simp; done) | (show w.heap.size < _; simp; omega))).trans (by first | assumption | (go_simp; done)); have q_w1_0_1 : w1.cell? ⟨w.heap.size, 1, none⟩ = some (.int .i64 P) := (hb1.cell (p := ⟨w.heap.size, 1, none⟩) (by first | (show w.heap.size < _; omega) | (show w.heap.size < _; simp; done) | (show w.heap.size < _; simp; omega))).trans (by first | assumption | (go_simp; done)))
    | (go_at_call 50; (first | (with_reducible refine (mayn_yes s _ s0 s1).mono ?_) | (with_reducible refine (mayn_yes q _ q0 q1).mono ?_)); rintro e w' ⟨rfl, rfl⟩)
    | (go_at_call 24; (first | (with_reducible refine (HA.out _).mono ?_) | (with_reducible refine (HB.out _).mono ?_)); rintro e w' ⟨rfl, rfl⟩)
    | (go_at_call 36; (with_reducible refine (HC.out _).mono ?_); rintro e w' ⟨rfl, rfl⟩))
  go_ret2
  exact ⟨rfl, (by have s0_ := hb1.size; (try simp only [World.size_alloc, World.size_setCell, World.size_drew, sz_drewN] at s0_); repeat' (first | (with_reducible exact Below.refl _ _) | (with_reducible refine bel_call ?_ ?_ hb1) | (with_reducible refine Below.alloc ?_ ?_ _) | (with_reducible refine below_drewN ?_ _) | (with_reducible refine Below.drew ?_) | (with_reducible refine Below.setCell ?_ ?_ _) | omega | (simp; omega) | (simp; done)))⟩

/-- Is it less than a quantum, either way? -/
def fairB (P l : Int) : Bool := decide (-P < l) && decide (l < P)

set_option maxHeartbeats 800000 in
theorem fair_yes (E P s q : Int) (w : World) (e1 : 1 ≤ E) (e2 : E ≤ P) (e3 : P ≤ 1048576) (s0 : 0 ≤ s) (s1 : s ≤ 1099511627776) (q0 : 0 ≤ q) (q1 : q ≤ 1099511627776) :
    Calls Try.prog 29 #[.agg #[.int .i64 E, .int .i64 P], .int .i64 s, .int .i64 q] w fun e w' => e = .returned (.bool (fairB P (E * s - P * q))) ∧ Below w.heap.size w w' := by
  have hl := fun w => lag_yes E P s q w e1 e2 e3 s0 s1 q0 q1
  generalize E * s - P * q = l at *
  have HL := Lib.hid hl
  clear hl
  by_cases c1 : -P < l
  · have H : Hid (fairB P l = decide (l < P)) := by show fairB P l = _; simp [fairB, c1]
    go_enter Try.func29, Try.ntmps29
    go_wp2_with (go_at_call 32; (with_reducible refine (HL.out _).mono ?_); rintro e w1 ⟨rfl, hb1⟩; have s_w1 := hb1.size; (try simp only [World.size_alloc, World.size_setCell, World.size_drew, sz_drewN] at s_w1); have z_w1_0_0 : w.heap.size < w1.heap.size := (by omega); have z_w1_0_1 : w.heap.size < w1.heap.size + 1 := (by omega); have z_w1_0_2 : w.heap.size < w1.heap.size + 1 + 1 := (by omega); have q_w1_0_0 : w1.cell? ⟨w.heap.size, 0, none⟩ = some (.int .i64 E) := (hb1.cell (p := ⟨w.heap.size, 0, none⟩) (by first | (show w.heap.size < _; omega) | (show w.heap.size < _; simp; done) | (show w.heap.size < _; simp; omega))).trans (by first | assumption | (go_simp; done)); have q_w1_0_1 : w1.cell? ⟨w.heap.size, 1, none⟩ = some (.int .i64 P) := (hb1.cell (p := ⟨w.heap.size, 1, none⟩) (by first | (show w.heap.size < _; omega) | (show w.heap.size < _; simp; done) | (show w.heap.size < _; simp; omega))).trans (by first | assumption | (go_simp; done)))
    go_ret
    exact ⟨by rw [H.out]; rfl, (by have s0_ := hb1.size; (try simp only [World.size_alloc, World.size_setCell, World.size_drew, sz_drewN] at s0_); repeat' (first | (with_reducible exact Below.refl _ _) | (with_reducible refine bel_call ?_ ?_ hb1) | (with_reducible refine Below.alloc ?_ ?_ _) | (with_reducible refine below_drewN ?_ _) | (with_reducible refine Below.drew ?_) | (with_reducible refine Below.setCell ?_ ?_ _) | omega | (simp; omega) | (simp; done)))⟩
  · have H : Hid (fairB P l = false) := by show fairB P l = _; simp [fairB, c1]
    go_enter Try.func29, Try.ntmps29
    go_wp2_with (go_at_call 32; (with_reducible refine (HL.out _).mono ?_); rintro e w1 ⟨rfl, hb1⟩; have s_w1 := hb1.size; (try simp only [World.size_alloc, World.size_setCell, World.size_drew, sz_drewN] at s_w1); have z_w1_0_0 : w.heap.size < w1.heap.size := (by omega); have z_w1_0_1 : w.heap.size < w1.heap.size + 1 := (by omega); have z_w1_0_2 : w.heap.size < w1.heap.size + 1 + 1 := (by omega); have q_w1_0_0 : w1.cell? ⟨w.heap.size, 0, none⟩ = some (.int .i64 E) := (hb1.cell (p := ⟨w.heap.size, 0, none⟩) (by first | (show w.heap.size < _; omega) | (show w.heap.size < _; simp; done) | (show w.heap.size < _; simp; omega))).trans (by first | assumption | (go_simp; done)); have q_w1_0_1 : w1.cell? ⟨w.heap.size, 1, none⟩ = some (.int .i64 P) := (hb1.cell (p := ⟨w.heap.size, 1, none⟩) (by first | (show w.heap.size < _; omega) | (show w.heap.size < _; simp; done) | (show w.heap.size < _; simp; omega))).trans (by first | assumption | (go_simp; done)))
    go_ret
    exact ⟨by rw [H.out]; first | rfl | simp [c1], (by have s0_ := hb1.size; (try simp only [World.size_alloc, World.size_setCell, World.size_drew, sz_drewN] at s0_); repeat' (first | (with_reducible exact Below.refl _ _) | (with_reducible refine bel_call ?_ ?_ hb1) | (with_reducible refine Below.alloc ?_ ?_ _) | (with_reducible refine below_drewN ?_ _) | (with_reducible refine Below.drew ?_) | (with_reducible refine Below.setCell ?_ ?_ _) | omega | (simp; omega) | (simp; done)))⟩

set_option maxHeartbeats 800000 in
theorem low_yes (E P s : Int) (w : World) (e1 : 1 ≤ E) (e2 : E ≤ P) (e3 : P ≤ 1048576) (s0 : 0 ≤ s) (s1 : s ≤ 1099511627776) :
    Calls Try.prog 27 #[.agg #[.int .i64 E, .int .i64 P], .int .i64 s] w fun e w' => e = .returned (.int .i64 (E * s / P)) ∧ Below w.heap.size w w' := by
  obtain ⟨a0, a1⟩ := prod_bd (x := E) (by omega) (by omega) s0 s1
  go_enter Try.func27, Try.ntmps27
  go_wp2_with (first
    | (go_at_call 49; refine (check_yes _ _ _ e1 e2 e3).mono ?_; rintro e w1 ⟨rfl, hb1⟩; have s_w1 := hb1.size; (try simp only [World.size_alloc, World.size_setCell, World.size_drew, sz_drewN] at s_w1); have z_w1_0_0 : w.heap.size < w1.heap.size := (by omega); have z_w1_0_1 : w.heap.size < w1.heap.size + 1 := (by omega); have z_w1_0_2 : w.heap.size < w1.heap.size + 1 + 1 := (by omega); have q_w1_0_0 : w1.cell? ⟨w.heap.size, 0, none⟩ = some (.int .i64 E) := (hb1.cell (p := ⟨w.heap.size, 0, none⟩) (by first | (show w.heap.size < _; omega) | (show w.heap.size < _; simp; done) | (show w.heap.size < _; simp; omega))).trans (by first | assumption | (go_simp; done)); have q_w1_0_1 : w1.cell? ⟨w.heap.size, 1, none⟩ = some (.int .i64 P) := (hb1.cell (p := ⟨w.heap.size, 1, none⟩) (by first | (show w.heap.size < _; omega) | (show w.heap.size < _; simp; done) | (show w.heap.size < _; simp; omega))).trans (by first | assumption | (go_simp; done)); have z_w1_1_0 : w.heap.size + 1 < w1.heap.size := (by omega); have z_w1_1_1 : w.heap.size + 1 < w1.heap.size + 1 := (by omega); have z_w1_1_2 : w.heap.size + 1 < w1.heap.size + 1 + 1 := (by omega); have q_w1_1_0 : w1.cell? ⟨w.heap.size + 1, 0, none⟩ = some (.int .i64 E) := (hb1.cell (p := ⟨w.heap.size + 1, 0, none⟩) (by first | (show w.heap.size + 1 < _; omega) | (show w.heap.size + 1 < _; simp; done) | (show w.heap.size + 1 < _; simp; omega))).trans (by first | assumption | (go_simp; done)); have q_w1_1_1 : w1.cell? ⟨w.heap.size + 1, 1, none⟩ = some (.int .i64 P) := (hb1.cell (p := ⟨w.heap.size + 1, 1, none⟩) (by first | (show w.heap.size + 1 < _; omega) | (show w.heap.size + 1 < _; simp; done) | (show w.heap.size + 1 < _; simp; omega))).trans (by first | assumption | (go_simp; done)))
    | (go_at_call 50; refine (mayn_yes s _ s0 s1).mono ?_; rintro e w' ⟨rfl, rfl⟩)
    | (go_at_call 16; refine (floor_pos _ _ _ a0 (by omega) (by omega)).mono ?_; rintro e w' ⟨rfl, rfl⟩)
    | go_in)
  go_ret
  exact ⟨rfl, (by have s0_ := hb1.size; (try simp only [World.size_alloc, World.size_setCell, World.size_drew, sz_drewN] at s0_); repeat' (first | (with_reducible exact Below.refl _ _) | (with_reducible refine bel_call ?_ ?_ hb1) | (with_reducible refine Below.alloc ?_ ?_ _) | (with_reducible refine below_drewN ?_ _) | (with_reducible refine Below.drew ?_) | (with_reducible refine Below.setCell ?_ ?_ _) | omega | (simp; omega) | (simp; done)))⟩

set_option maxHeartbeats 800000 in
theorem high_yes (E P s : Int) (w : World) (e1 : 1 ≤ E) (e2 : E ≤ P) (e3 : P ≤ 1048576) (s0 : 0 ≤ s) (s1 : s ≤ 1099511627776) :
    Calls Try.prog 28 #[.agg #[.int .i64 E, .int .i64 P], .int .i64 s] w fun e w' => e = .returned (.int .i64 (Win.up (E * s) P)) ∧ Below w.heap.size w w' := by
  obtain ⟨a0, a1⟩ := prod_bd (x := E) (by omega) (by omega) s0 s1
  go_enter Try.func28, Try.ntmps28
  go_wp2_with (first
    | (go_at_call 49; refine (check_yes _ _ _ e1 e2 e3).mono ?_; rintro e w1 ⟨rfl, hb1⟩; have s_w1 := hb1.size; (try simp only [World.size_alloc, World.size_setCell, World.size_drew, sz_drewN] at s_w1); have z_w1_0_0 : w.heap.size < w1.heap.size := (by omega); have z_w1_0_1 : w.heap.size < w1.heap.size + 1 := (by omega); have z_w1_0_2 : w.heap.size < w1.heap.size + 1 + 1 := (by omega); have q_w1_0_0 : w1.cell? ⟨w.heap.size, 0, none⟩ = some (.int .i64 E) := (hb1.cell (p := ⟨w.heap.size, 0, none⟩) (by first | (show w.heap.size < _; omega) | (show w.heap.size < _; simp; done) | (show w.heap.size < _; simp; omega))).trans (by first | assumption | (go_simp; done)); have q_w1_0_1 : w1.cell? ⟨w.heap.size, 1, none⟩ = some (.int .i64 P) := (hb1.cell (p := ⟨w.heap.size, 1, none⟩) (by first | (show w.heap.size < _; omega) | (show w.heap.size < _; simp; done) | (show w.heap.size < _; simp; omega))).trans (by first | assumption | (go_simp; done)); have z_w1_1_0 : w.heap.size + 1 < w1.heap.size := (by omega); have z_w1_1_1 : w.heap.size + 1 < w1.heap.size + 1 := (by omega); have z_w1_1_2 : w.heap.size + 1 < w1.heap.size + 1 + 1 := (by omega); have q_w1_1_0 : w1.cell? ⟨w.heap.size + 1, 0, none⟩ = some (.int .i64 E) := (hb1.cell (p := ⟨w.heap.size + 1, 0, none⟩) (by first | (show w.heap.size + 1 < _; omega) | (show w.heap.size + 1 < _; simp; done) | (show w.heap.size + 1 < _; simp; omega))).trans (by first | assumption | (go_simp; done)); have q_w1_1_1 : w1.cell? ⟨w.heap.size + 1, 1, none⟩ = some (.int .i64 P) := (hb1.cell (p := ⟨w.heap.size + 1, 1, none⟩) (by first | (show w.heap.size + 1 < _; omega) | (show w.heap.size + 1 < _; simp; done) | (show w.heap.size + 1 < _; simp; omega))).trans (by first | assumption | (go_simp; done)))
    | (go_at_call 50; refine (mayn_yes s _ s0 s1).mono ?_; rintro e w' ⟨rfl, rfl⟩)
    | (go_at_call 18; refine (ceil_pos _ _ _ a0 (by omega) (by omega)).mono ?_; rintro e w' ⟨rfl, rfl⟩)
    | go_in)
  go_ret
  exact ⟨rfl, (by have s0_ := hb1.size; (try simp only [World.size_alloc, World.size_setCell, World.size_drew, sz_drewN] at s0_); repeat' (first | (with_reducible exact Below.refl _ _) | (with_reducible refine bel_call ?_ ?_ hb1) | (with_reducible refine Below.alloc ?_ ?_ _) | (with_reducible refine below_drewN ?_ _) | (with_reducible refine Below.drew ?_) | (with_reducible refine Below.setCell ?_ ?_ _) | omega | (simp; omega) | (simp; done)))⟩

set_option maxHeartbeats 1600000 in
theorem awake09 (w : World) : Calls Try.prog 25 #[] w fun e w' => e = .returned (.bool true) ∧ Below w.heap.size w w' := by
  have h1 := fun w => low_yes 2 3 4 w (by omega) (by omega) (by omega) (by omega) (by omega)
  have h2 := fun w => high_yes 2 3 4 w (by omega) (by omega) (by omega) (by omega) (by omega)
  have h3 := fun w => fair_yes 2 3 4 2 w (by omega) (by omega) (by omega) (by omega) (by omega) (by omega) (by omega)
  have h4 := fun w => fair_yes 2 3 4 4 w (by omega) (by omega) (by omega) (by omega) (by omega) (by omega) (by omega)
  rw [show ((2 : Int) * 4 / 3) = 2 from rfl] at h1
  rw [show Win.up ((2 : Int) * 4) 3 = 3 from by decide] at h2
  rw [show fairB 3 ((2 : Int) * 4 - 3 * 2) = true from by decide] at h3
  rw [show fairB 3 ((2 : Int) * 4 - 3 * 4) = false from by decide] at h4
  have H1 := Lib.hid h1
  have H2 := Lib.hid h2
  have H3 := Lib.hid h3
  have H4 := Lib.hid h4
  clear h1 h2 h3 h4
  go_enter Try.func25, Try.ntmps25
  go_wp2_with (first
    | (go_at_call 27; (with_reducible refine (H1.out _).mono ?_); rintro e w1 ⟨rfl, hb1⟩; have s_w1 := hb1.size; (try simp only [World.size_alloc, World.size_setCell, World.size_drew, sz_drewN] at s_w1); have z_w1_0_0 : w.heap.size < w1.heap.size := (by omega); have z_w1_0_1 : w.heap.size < w1.heap.size + 1 := (by omega); have z_w1_0_2 : w.heap.size < w1.heap.size + 1 + 1 := (by omega); have q_w1_0_0 : w1.cell? ⟨w.heap.size, 0, none⟩ = some (.int .i64 2) := (hb1.cell (p := ⟨w.heap.size, 0, none⟩) (by first | (show w.heap.size < _; omega) | (show w.heap.size < _; simp; done) | (show w.heap.size < _; simp; omega))).trans (by first | assumption | (go_simp; done)); have q_w1_0_1 : w1.cell? ⟨w.heap.size, 1, none⟩ = some (.int .i64 3) := (hb1.cell (p := ⟨w.heap.size, 1, none⟩) (by first | (show w.heap.size < _; omega) | (show w.heap.size < _; simp; done) | (show w.heap.size < _; simp; omega))).trans (by first | assumption | (go_simp; done)))
    | (go_at_call 28; (with_reducible refine (H2.out _).mono ?_); rintro e w2 ⟨rfl, hb2⟩; have s_w2 := hb2.size; (try simp only [World.size_alloc, World.size_setCell, World.size_drew, sz_drewN] at s_w2); have z_w2_0_0 : w.heap.size < w2.heap.size := (by omega); have z_w2_0_1 : w.heap.size < w2.heap.size + 1 := (by omega); have z_w2_0_2 : w.heap.size < w2.heap.size + 1 + 1 := (by omega); have q_w2_0_0 : w2.cell? ⟨w.heap.size, 0, none⟩ = some (.int .i64 2) := (hb2.cell (p := ⟨w.heap.size, 0, none⟩) (by first | (show w.heap.size < _; omega) | (show w.heap.size < _; simp; done) | (show w.heap.size < _; simp; omega))).trans (by first | assumption | (go_simp; done)); have q_w2_0_1 : w2.cell? ⟨w.heap.size, 1, none⟩ = some (.int .i64 3) := (hb2.cell (p := ⟨w.heap.size, 1, none⟩) (by first | (show w.heap.size < _; omega) | (show w.heap.size < _; simp; done) | (show w.heap.size < _; simp; omega))).trans (by first | assumption | (go_simp; done)))
    | (go_at_call 29; (with_reducible refine (H3.out _).mono ?_); rintro e w3 ⟨rfl, hb3⟩; have s_w3 := hb3.size; (try simp only [World.size_alloc, World.size_setCell, World.size_drew, sz_drewN] at s_w3); have z_w3_0_0 : w.heap.size < w3.heap.size := (by omega); have z_w3_0_1 : w.heap.size < w3.heap.size + 1 := (by omega); have z_w3_0_2 : w.heap.size < w3.heap.size + 1 + 1 := (by omega); have q_w3_0_0 : w3.cell? ⟨w.heap.size, 0, none⟩ = some (.int .i64 2) := (hb3.cell (p := ⟨w.heap.size, 0, none⟩) (by first | (show w.heap.size < _; omega) | (show w.heap.size < _; simp; done) | (show w.heap.size < _; simp; omega))).trans (by first | assumption | (go_simp; done)); have q_w3_0_1 : w3.cell? ⟨w.heap.size, 1, none⟩ = some (.int .i64 3) := (hb3.cell (p := ⟨w.heap.size, 1, none⟩) (by first | (show w.heap.size < _; omega) | (show w.heap.size < _; simp; done) | (show w.heap.size < _; simp; omega))).trans (by first | assumption | (go_simp; done)))
    | (go_at_call 29; (with_reducible refine (H4.out _).mono ?_); rintro e w4 ⟨rfl, hb4⟩))
  go_ret
  exact ⟨by first | rfl | simp [*], (by have s0_ := hb1.size; have s1_ := hb2.size; have s2_ := hb3.size; have s3_ := hb4.size; (try simp only [World.size_alloc, World.size_setCell, World.size_drew, sz_drewN] at s0_ s1_ s2_ s3_); repeat' (first | (with_reducible exact Below.refl _ _) | (with_reducible refine bel_call ?_ ?_ hb4) | (with_reducible refine bel_call ?_ ?_ hb3) | (with_reducible refine bel_call ?_ ?_ hb2) | (with_reducible refine bel_call ?_ ?_ hb1) | (with_reducible refine Below.alloc ?_ ?_ _) | (with_reducible refine below_drewN ?_ _) | (with_reducible refine Below.drew ?_) | (with_reducible refine Below.setCell ?_ ?_ _) | omega | (simp; omega) | (simp; done)))⟩
end Go.Proofs.Ytpmenmcigflkdaa
