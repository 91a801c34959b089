/- Contracts of fluid's and the document's (layer 9) functions, of any weights, slots and quanta. -/
import Derived.Test.YtpmenmcigflkdaaFluidDue
import Derived.Test.YtpmenmcigflkdaaFc
namespace Go.Proofs.Ytpmenmcigflkdaa
open Go.RowKit
set_option linter.unusedVariables false
set_option linter.unusedSimpArgs false

def okV (E P s q : Int) : Bool := may E P && (mayN s && mayN q)
def lowV (E P s : Int) : Int := if (may E P && mayN s) = true then E * s / P else 0
def highV (E P s : Int) : Int := if (may E P && mayN s) = true then Win.up (E * s) P else 0
def lagV (E P s q : Int) : Int := if okV E P s q = true then E * s - P * q else 0
def lagE (E P s q : Int) : Int := if okV E P s q = true then 0 else 1

theorem lag_any (E P s q : Int) (w : World) : Calls Try.prog 32 #[.agg #[.int .i64 E, .int .i64 P], .int .i64 s, .int .i64 q] w fun e w' => e = .returned (.tuple #[.int .i64 (lagV E P s q), .int .i64 (lagE E P s q)]) ∧ Below w.heap.size w w' := by
  unfold lagV lagE okV
  by_cases h : (may E P && (mayN s && mayN q)) = true
  · rw [if_pos h, if_pos h]
    simp only [Bool.and_eq_true] at h
    obtain ⟨e1, e2, e3⟩ := may_bd h.1
    obtain ⟨s0, s1⟩ := mayN_bd h.2.1
    obtain ⟨q0, q1⟩ := mayN_bd h.2.2
    exact lag_yes E P s q w e1 e2 e3 s0 s1 q0 q1
  · rw [if_neg h, if_neg h]
    exact lag_no E P s q w (by simpa using h)

set_option maxHeartbeats 800000 in
theorem low_no (E P s : Int) (w : World) (h : (may E P && mayN s) = false) : Calls Try.prog 27 #[.agg #[.int .i64 E, .int .i64 P], .int .i64 s] w fun e w' => e = .returned (.int .i64 0) ∧ Below w.heap.size w w' := by
  by_cases c1 : may E P = true
  · obtain ⟨e1, e2, e3⟩ := may_bd c1
    have c2 : mayN s = false := by simpa [c1] using h
    clear h c1
    go_enter Try.func27, Try.ntmps27
    go_wp2_with (first
      | (go_at_call 49; refine (check_yes _ _ _ e1 e2 e3).mono ?_; rintro e w1 ⟨rfl, hb1⟩; have s_w1 := hb1.size; (try simp only [World.size_alloc, World.size_setCell, World.size_drew, sz_drewN] at s_w1); have z_w1_0_0 : w.heap.size < w1.heap.size := (by omega); have z_w1_0_1 : w.heap.size < w1.heap.size + 1 := (by omega); have z_w1_0_2 : w.heap.size < w1.heap.size + 1 + 1 := (by omega); have q_w1_0_0 : w1.cell? ⟨w.heap.size, 0, none⟩ = some (.int .i64 E) := (hb1.cell (p := ⟨w.heap.size, 0, none⟩) (by first | (show w.heap.size < _; omega) | (show w.heap.size < _; simp; done) | (show w.heap.size < _; simp; omega))).trans (by first | assumption | (go_simp; done)); have q_w1_0_1 : w1.cell? ⟨w.heap.size, 1, none⟩ = some (.int .i64 P) := (hb1.cell (p := ⟨w.heap.size, 1, none⟩) (by first | (show w.heap.size < _; omega) | (show w.heap.size < _; simp; done) | (show w.heap.size < _; simp; omega))).trans (by first | assumption | (go_simp; done)); have z_w1_1_0 : w.heap.size + 1 < w1.heap.size := (by omega); have z_w1_1_1 : w.heap.size + 1 < w1.heap.size + 1 := (by omega); have z_w1_1_2 : w.heap.size + 1 < w1.heap.size + 1 + 1 := (by omega); have q_w1_1_0 : w1.cell? ⟨w.heap.size + 1, 0, none⟩ = some (.int .i64 E) := (hb1.cell (p := ⟨w.heap.size + 1, 0, none⟩) (by first | (show w.heap.size + 1 < _; omega) | (show w.heap.size + 1 < _; simp; done) | (show w.heap.size + 1 < _; simp; omega))).trans (by first | assumption | (go_simp; done)); have q_w1_1_1 : w1.cell? ⟨w.heap.size + 1, 1, none⟩ = some (.int .i64 P) := (hb1.cell (p := ⟨w.heap.size + 1, 1, none⟩) (by first | (show w.heap.size + 1 < _; omega) | (show w.heap.size + 1 < _; simp; done) | (show w.heap.size + 1 < _; simp; omega))).trans (by first | assumption | (go_simp; done)))
      | (go_at_call 50; refine (mayn_no s _ c2).mono ?_; rintro e w' ⟨rfl, rfl⟩)
      | go_in)
    go_ret
    exact ⟨rfl, (by have s0_ := hb1.size; (try simp only [World.size_alloc, World.size_setCell, World.size_drew, sz_drewN] at s0_); repeat' (first | (with_reducible exact Below.refl _ _) | (with_reducible refine bel_call ?_ ?_ hb1) | (with_reducible refine Below.alloc ?_ ?_ _) | (with_reducible refine below_drewN ?_ _) | (with_reducible refine Below.drew ?_) | (with_reducible refine Below.setCell ?_ ?_ _) | omega | (simp; omega) | (simp; done)))⟩
  · have c1' : may E P = false := by simpa using c1
    clear h c1
    go_enter Try.func27, Try.ntmps27
    go_wp2_with (first
      | (go_at_call 49; refine (check_no _ _ _ c1').mono ?_; rintro e w1 ⟨rfl, hb1⟩)
      | go_in)
    go_ret
    exact ⟨rfl, (by have s0_ := hb1.size; (try simp only [World.size_alloc, World.size_setCell, World.size_drew, sz_drewN] at s0_); repeat' (first | (with_reducible exact Below.refl _ _) | (with_reducible refine bel_call ?_ ?_ hb1) | (with_reducible refine Below.alloc ?_ ?_ _) | (with_reducible refine below_drewN ?_ _) | (with_reducible refine Below.drew ?_) | (with_reducible refine Below.setCell ?_ ?_ _) | omega | (simp; omega) | (simp; done)))⟩
set_option maxHeartbeats 800000 in
theorem high_no (E P s : Int) (w : World) (h : (may E P && mayN s) = false) : Calls Try.prog 28 #[.agg #[.int .i64 E, .int .i64 P], .int .i64 s] w fun e w' => e = .returned (.int .i64 0) ∧ Below w.heap.size w w' := by
  by_cases c1 : may E P = true
  · obtain ⟨e1, e2, e3⟩ := may_bd c1
    have c2 : mayN s = false := by simpa [c1] using h
    clear h c1
    go_enter Try.func28, Try.ntmps28
    go_wp2_with (first
      | (go_at_call 49; refine (check_yes _ _ _ e1 e2 e3).mono ?_; rintro e w1 ⟨rfl, hb1⟩; have s_w1 := hb1.size; (try simp only [World.size_alloc, World.size_setCell, World.size_drew, sz_drewN] at s_w1); have z_w1_0_0 : w.heap.size < w1.heap.size := (by omega); have z_w1_0_1 : w.heap.size < w1.heap.size + 1 := (by omega); have z_w1_0_2 : w.heap.size < w1.heap.size + 1 + 1 := (by omega); have q_w1_0_0 : w1.cell? ⟨w.heap.size, 0, none⟩ = some (.int .i64 E) := (hb1.cell (p := ⟨w.heap.size, 0, none⟩) (by first | (show w.heap.size < _; omega) | (show w.heap.size < _; simp; done) | (show w.heap.size < _; simp; omega))).trans (by first | assumption | (go_simp; done)); have q_w1_0_1 : w1.cell? ⟨w.heap.size, 1, none⟩ = some (.int .i64 P) := (hb1.cell (p := ⟨w.heap.size, 1, none⟩) (by first | (show w.heap.size < _; omega) | (show w.heap.size < _; simp; done) | (show w.heap.size < _; simp; omega))).trans (by first | assumption | (go_simp; done)); have z_w1_1_0 : w.heap.size + 1 < w1.heap.size := (by omega); have z_w1_1_1 : w.heap.size + 1 < w1.heap.size + 1 := (by omega); have z_w1_1_2 : w.heap.size + 1 < w1.heap.size + 1 + 1 := (by omega); have q_w1_1_0 : w1.cell? ⟨w.heap.size + 1, 0, none⟩ = some (.int .i64 E) := (hb1.cell (p := ⟨w.heap.size + 1, 0, none⟩) (by first | (show w.heap.size + 1 < _; omega) | (show w.heap.size + 1 < _; simp; done) | (show w.heap.size + 1 < _; simp; omega))).trans (by first | assumption | (go_simp; done)); have q_w1_1_1 : w1.cell? ⟨w.heap.size + 1, 1, none⟩ = some (.int .i64 P) := (hb1.cell (p := ⟨w.heap.size + 1, 1, none⟩) (by first | (show w.heap.size + 1 < _; omega) | (show w.heap.size + 1 < _; simp; done) | (show w.heap.size + 1 < _; simp; omega))).trans (by first | assumption | (go_simp; done)))
      | (go_at_call 50; refine (mayn_no s _ c2).mono ?_; rintro e w' ⟨rfl, rfl⟩)
      | go_in)
    go_ret
    exact ⟨rfl, (by have s0_ := hb1.size; (try simp only [World.size_alloc, World.size_setCell, World.size_drew, sz_drewN] at s0_); repeat' (first | (with_reducible exact Below.refl _ _) | (with_reducible refine bel_call ?_ ?_ hb1) | (with_reducible refine Below.alloc ?_ ?_ _) | (with_reducible refine below_drewN ?_ _) | (with_reducible refine Below.drew ?_) | (with_reducible refine Below.setCell ?_ ?_ _) | omega | (simp; omega) | (simp; done)))⟩
  · have c1' : may E P = false := by simpa using c1
    clear h c1
    go_enter Try.func28, Try.ntmps28
    go_wp2_with (first
      | (go_at_call 49; refine (check_no _ _ _ c1').mono ?_; rintro e w1 ⟨rfl, hb1⟩)
      | go_in)
    go_ret
    exact ⟨rfl, (by have s0_ := hb1.size; (try simp only [World.size_alloc, World.size_setCell, World.size_drew, sz_drewN] at s0_); repeat' (first | (with_reducible exact Below.refl _ _) | (with_reducible refine bel_call ?_ ?_ hb1) | (with_reducible refine Below.alloc ?_ ?_ _) | (with_reducible refine below_drewN ?_ _) | (with_reducible refine Below.drew ?_) | (with_reducible refine Below.setCell ?_ ?_ _) | omega | (simp; omega) | (simp; done)))⟩
theorem low_any (E P s : Int) (w : World) : Calls Try.prog 27 #[.agg #[.int .i64 E, .int .i64 P], .int .i64 s] w fun e w' => e = .returned (.int .i64 (lowV E P s)) ∧ Below w.heap.size w w' := by
  unfold lowV
  by_cases h : (may E P && mayN s) = true
  · rw [if_pos h]
    simp only [Bool.and_eq_true] at h
    obtain ⟨e1, e2, e3⟩ := may_bd h.1
    obtain ⟨s0, s1⟩ := mayN_bd h.2
    exact low_yes E P s w e1 e2 e3 s0 s1
  · rw [if_neg h]
    exact low_no E P s w (by simpa using h)
theorem high_any (E P s : Int) (w : World) : Calls Try.prog 28 #[.agg #[.int .i64 E, .int .i64 P], .int .i64 s] w fun e w' => e = .returned (.int .i64 (highV E P s)) ∧ Below w.heap.size w w' := by
  unfold highV
  by_cases h : (may E P && mayN s) = true
  · rw [if_pos h]
    simp only [Bool.and_eq_true] at h
    obtain ⟨e1, e2, e3⟩ := may_bd h.1
    obtain ⟨s0, s1⟩ := mayN_bd h.2
    exact high_yes E P s w e1 e2 e3 s0 s1
  · rw [if_neg h]
    exact high_no E P s w (by simpa using h)

/-! ### The document's -/
set_option maxHeartbeats 400000 in
theorem rcheck_any (E P : Int) (w : World) : Calls Try.prog 60 #[.agg #[.int .i64 E, .int .i64 P]] w fun e w' => e = .returned (.bool (may E P)) ∧ Below w.heap.size w w' := by
  by_cases h1 : 1 ≤ E
  · by_cases h2 : E ≤ P
    · by_cases h3 : P ≤ 1048576
      · have hm : Hid (may E P = true) := by show may E P = true; simp [may, h1, h2, h3]
        go_enter Try.func60, Try.ntmps60
        go_wp2
        go_ret
        exact ⟨by rw [hm.out]; simp [h1, h2, h3], (by repeat' (first | (with_reducible exact Below.refl _ _) | (with_reducible refine Below.alloc ?_ ?_ _) | (with_reducible refine below_drewN ?_ _) | (with_reducible refine Below.drew ?_) | (with_reducible refine Below.setCell ?_ ?_ _) | omega | (simp; omega) | (simp; done)))⟩
      · have hm : Hid (may E P = false) := by show may E P = false; simp [may, h1, h2, h3]
        go_enter Try.func60, Try.ntmps60
        go_wp2
        go_ret
        exact ⟨by rw [hm.out]; simp [h1, h2, h3], (by repeat' (first | (with_reducible exact Below.refl _ _) | (with_reducible refine Below.alloc ?_ ?_ _) | (with_reducible refine below_drewN ?_ _) | (with_reducible refine Below.drew ?_) | (with_reducible refine Below.setCell ?_ ?_ _) | omega | (simp; omega) | (simp; done)))⟩
    · have hm : Hid (may E P = false) := by show may E P = false; simp [may, h1, h2]
      go_enter Try.func60, Try.ntmps60
      go_wp2
      go_ret
      exact ⟨by rw [hm.out]; simp [h1, h2], (by repeat' (first | (with_reducible exact Below.refl _ _) | (with_reducible refine Below.alloc ?_ ?_ _) | (with_reducible refine below_drewN ?_ _) | (with_reducible refine Below.drew ?_) | (with_reducible refine Below.setCell ?_ ?_ _) | omega | (simp; omega) | (simp; done)))⟩
  · have hm : Hid (may E P = false) := by show may E P = false; simp [may, h1]
    go_enter Try.func60, Try.ntmps60
    go_wp2
    go_ret
    exact ⟨by rw [hm.out]; simp [h1], (by repeat' (first | (with_reducible exact Below.refl _ _) | (with_reducible refine Below.alloc ?_ ?_ _) | (with_reducible refine below_drewN ?_ _) | (with_reducible refine Below.drew ?_) | (with_reducible refine Below.setCell ?_ ?_ _) | omega | (simp; omega) | (simp; done)))⟩

set_option maxHeartbeats 800000 in
theorem right_any (E P s q : Int) (w : World) : Calls Try.prog 63 #[.agg #[.int .i64 E, .int .i64 P], .int .i64 s, .int .i64 q] w fun e w' => e = .returned (.bool (okV E P s q)) ∧ Below w.heap.size w w' := by
  have hch := fun w => rcheck_any E P w
  cases c : may E P with
  | false =>
    have hv : Hid (okV E P s q = false) := by show _ = _; simp [okV, c]
    rw [c] at hch
    have HC := Lib.hid hch
    clear hch c
    go_enter Try.func63, Try.ntmps63
    go_wp2_with (go_at_call 60; (with_reducible refine (HC.out _).mono ?_); rintro e w1 ⟨rfl, hb1⟩)
    go_ret
    exact ⟨by rw [hv.out]; rfl, (by have s0_ := hb1.size; (try simp only [World.size_alloc, World.size_setCell, World.size_drew, sz_drewN] at s0_); repeat' (first | (with_reducible exact Below.refl _ _) | (with_reducible refine bel_call ?_ ?_ hb1) | (with_reducible refine Below.alloc ?_ ?_ _) | (with_reducible refine below_drewN ?_ _) | (with_reducible refine Below.drew ?_) | (with_reducible refine Below.setCell ?_ ?_ _) | omega | (simp; omega) | (simp; done)))⟩
  | true =>
    rw [c] at hch
    have HC := Lib.hid hch
    clear hch
    by_cases s0 : 0 ≤ s
    · by_cases s1 : s ≤ 1099511627776
      · by_cases q0 : 0 ≤ q
        · by_cases q1 : q ≤ 1099511627776
          · have hv : Hid (okV E P s q = true) := by show _ = _; simp [okV, mayN, c, s0, s1, q0, q1]
            clear c
            go_enter Try.func63, Try.ntmps63
            go_wp2_with (go_at_call 60; (with_reducible refine (HC.out _).mono ?_); rintro e w1 ⟨rfl, hb1⟩)
            go_ret
            exact ⟨by rw [hv.out]; first | rfl | simp [*], (by have s0_ := hb1.size; (try simp only [World.size_alloc, World.size_setCell, World.size_drew, sz_drewN] at s0_); repeat' (first | (with_reducible exact Below.refl _ _) | (with_reducible refine bel_call ?_ ?_ hb1) | (with_reducible refine Below.alloc ?_ ?_ _) | (with_reducible refine below_drewN ?_ _) | (with_reducible refine Below.drew ?_) | (with_reducible refine Below.setCell ?_ ?_ _) | omega | (simp; omega) | (simp; done)))⟩
          · have hv : Hid (okV E P s q = false) := by show _ = _; simp [okV, mayN, c, s0, s1, q0, q1]
            clear c
            go_enter Try.func63, Try.ntmps63
            go_wp2_with (go_at_call 60; (with_reducible refine (HC.out _).mono ?_); rintro e w1 ⟨rfl, hb1⟩)
            go_ret
            exact ⟨by rw [hv.out]; first | rfl | simp [*], (by have s0_ := hb1.size; (try simp only [World.size_alloc, World.size_setCell, World.size_drew, sz_drewN] at s0_); repeat' (first | (with_reducible exact Below.refl _ _) | (with_reducible refine bel_call ?_ ?_ hb1) | (with_reducible refine Below.alloc ?_ ?_ _) | (with_reducible refine below_drewN ?_ _) | (with_reducible refine Below.drew ?_) | (with_reducible refine Below.setCell ?_ ?_ _) | omega | (simp; omega) | (simp; done)))⟩
        · have hv : Hid (okV E P s q = false) := by show _ = _; simp [okV, mayN, c, s0, s1, q0]
          clear c
          go_enter Try.func63, Try.ntmps63
          go_wp2_with (go_at_call 60; (with_reducible refine (HC.out _).mono ?_); rintro e w1 ⟨rfl, hb1⟩)
          go_ret
          exact ⟨by rw [hv.out]; first | rfl | simp [*], (by have s0_ := hb1.size; (try simp only [World.size_alloc, World.size_setCell, World.size_drew, sz_drewN] at s0_); repeat' (first | (with_reducible exact Below.refl _ _) | (with_reducible refine bel_call ?_ ?_ hb1) | (with_reducible refine Below.alloc ?_ ?_ _) | (with_reducible refine below_drewN ?_ _) | (with_reducible refine Below.drew ?_) | (with_reducible refine Below.setCell ?_ ?_ _) | omega | (simp; omega) | (simp; done)))⟩
      · have hv : Hid (okV E P s q = false) := by show _ = _; simp [okV, mayN, c, s0, s1]
        clear c
        go_enter Try.func63, Try.ntmps63
        go_wp2_with (go_at_call 60; (with_reducible refine (HC.out _).mono ?_); rintro e w1 ⟨rfl, hb1⟩)
        go_ret
        exact ⟨by rw [hv.out]; first | rfl | simp [*], (by have s0_ := hb1.size; (try simp only [World.size_alloc, World.size_setCell, World.size_drew, sz_drewN] at s0_); repeat' (first | (with_reducible exact Below.refl _ _) | (with_reducible refine bel_call ?_ ?_ hb1) | (with_reducible refine Below.alloc ?_ ?_ _) | (with_reducible refine below_drewN ?_ _) | (with_reducible refine Below.drew ?_) | (with_reducible refine Below.setCell ?_ ?_ _) | omega | (simp; omega) | (simp; done)))⟩
    · have hv : Hid (okV E P s q = false) := by show _ = _; simp [okV, mayN, c, s0]
      clear c
      go_enter Try.func63, Try.ntmps63
      go_wp2_with (go_at_call 60; (with_reducible refine (HC.out _).mono ?_); rintro e w1 ⟨rfl, hb1⟩)
      go_ret
      exact ⟨by rw [hv.out]; first | rfl | simp [*], (by have s0_ := hb1.size; (try simp only [World.size_alloc, World.size_setCell, World.size_drew, sz_drewN] at s0_); repeat' (first | (with_reducible exact Below.refl _ _) | (with_reducible refine bel_call ?_ ?_ hb1) | (with_reducible refine Below.alloc ?_ ?_ _) | (with_reducible refine below_drewN ?_ _) | (with_reducible refine Below.drew ?_) | (with_reducible refine Below.setCell ?_ ?_ _) | omega | (simp; omega) | (simp; done)))⟩

theorem okV_bd {E P s q : Int} (h : okV E P s q = true) : 1 ≤ E ∧ E ≤ P ∧ P ≤ 1048576 ∧ 0 ≤ s ∧ s ≤ 1099511627776 ∧ 0 ≤ q ∧ q ≤ 1099511627776 := by
  unfold okV at h
  simp only [Bool.and_eq_true] at h
  obtain ⟨e1, e2, e3⟩ := may_bd h.1
  obtain ⟨s0, s1⟩ := mayN_bd h.2.1
  obtain ⟨q0, q1⟩ := mayN_bd h.2.2
  exact ⟨e1, e2, e3, s0, s1, q0, q1⟩
theorem okV_zero (E P s : Int) : okV E P s 0 = (may E P && mayN s) := by
  unfold okV; rw [show mayN 0 = true from rfl, Bool.and_true]

set_option maxHeartbeats 800000 in
theorem rlag_any (E P s q : Int) (w : World) : Calls Try.prog 54 #[.agg #[.int .i64 E, .int .i64 P], .int .i64 s, .int .i64 q] w fun e w' => e = .returned (.tuple #[.int .i64 (lagV E P s q), .int .i64 (lagE E P s q)]) ∧ Below w.heap.size w w' := by
  have hch := fun w => right_any E P s q w
  unfold lagV lagE
  cases c : okV E P s q with
  | false =>
    rw [c] at hch
    have HC := Lib.hid hch
    clear hch c
    rw [if_neg (by decide), if_neg (by decide)]
    go_enter Try.func54, Try.ntmps54
    go_wp2_with (go_at_call 63; (with_reducible refine (HC.out _).mono ?_); rintro e w1 ⟨rfl, hb1⟩)
    go_ret2
    exact ⟨rfl, (by have s0_ := hb1.size; (try simp only [World.size_alloc, World.size_setCell, World.size_drew, sz_drewN] at s0_); repeat' (first | (with_reducible exact Below.refl _ _) | (with_reducible refine bel_call ?_ ?_ hb1) | (with_reducible refine Below.alloc ?_ ?_ _) | (with_reducible refine below_drewN ?_ _) | (with_reducible refine Below.drew ?_) | (with_reducible refine Below.setCell ?_ ?_ _) | omega | (simp; omega) | (simp; done)))⟩
  | true =>
    obtain ⟨e1, e2, e3, s0, s1, q0, q1⟩ := okV_bd c
    obtain ⟨a0, a1⟩ := prod_bd (x := E) (by omega) (by omega) s0 s1
    obtain ⟨b0, b1⟩ := prod_bd (x := P) (by omega) (by omega) q0 q1
    rw [c] at hch
    have HC := Lib.hid hch
    clear hch c
    rw [if_pos rfl, if_pos rfl]
    have ww1 : IntKind.i64.wrap (E * s) = E * s := wrap_in _ (by omega) (by omega)
    have ww2 : IntKind.i64.wrap (P * q) = P * q := wrap_in _ (by omega) (by omega)
    have ww3 : IntKind.i64.wrap (E * s - P * q) = E * s - P * q := wrap_in _ (by omega) (by omega)
    generalize hA : E * s = A at *
    generalize hB : P * q = B at *
    go_enter Try.func54, Try.ntmps54
    go_wp2_with (go_at_call 63; (with_reducible refine (HC.out _).mono ?_); rintro e w1 ⟨rfl, hb1⟩; have s_w1 := hb1.size; (try simp only [World.size_alloc, World.size_setCell, World.size_drew, sz_drewN] at s_w1); have z_w1_0_0 : w.heap.size < w1.heap.size := (by omega); have z_w1_0_1 : w.heap.size < w1.heap.size + 1 := (by omega); have z_w1_0_2 : w.heap.size < w1.heap.size + 1 + 1 := (by omega); have q_w1_0_0 : w1.cell? ⟨w.heap.size, 0, none⟩ = some (.int .i64 E) := (hb1.cell (p := ⟨w.heap.size, 0, none⟩) (by first | (show w.heap.size < _; omega) | (show w.heap.size < _; simp; done) | (show w.heap.size < _; simp; omega))).trans (by first | assumption | (go_simp; done)); have q_w1_0_1 : w1.cell? ⟨w.heap.size, 1, none⟩ = some (.int .i64 P) := (hb1.cell (p := ⟨w.heap.size, 1, none⟩) (by first | (show w.heap.size < _; omega) | (show w.heap.size < _; simp; done) | (show w.heap.size < _; simp; omega))).trans (by first | assumption | (go_simp; done)))
    go_ret2
    exact ⟨rfl, (by have s0_ := hb1.size; (try simp only [World.size_alloc, World.size_setCell, World.size_drew, sz_drewN] at s0_); repeat' (first | (with_reducible exact Below.refl _ _) | (with_reducible refine bel_call ?_ ?_ hb1) | (with_reducible refine Below.alloc ?_ ?_ _) | (with_reducible refine below_drewN ?_ _) | (with_reducible refine Below.drew ?_) | (with_reducible refine Below.setCell ?_ ?_ _) | omega | (simp; omega) | (simp; done)))⟩

theorem fairV_ok (E P s q : Int) : fairV E P s q = (okV E P s q && (decide (-P < lagV E P s q) && decide (lagV E P s q < P))) := by
  unfold fairV
  cases h : okV E P s q with
  | false => unfold okV at h; rw [h]; rfl
  | true =>
    have h2 := h
    unfold okV at h2
    rw [h2]
    simp [lagV, h, fairB]

set_option maxHeartbeats 800000 in
theorem rfair_any (E P s q : Int) (w : World) (hP : Fits P) : Calls Try.prog 56 #[.agg #[.int .i64 E, .int .i64 P], .int .i64 s, .int .i64 q] w fun e w' => e = .returned (.bool (fairV E P s q)) ∧ Below w.heap.size w w' := by
  have hl := fun w => rlag_any E P s q w
  cases c : okV E P s q with
  | false =>
    have hv : Hid (fairV E P s q = false) := by show _ = _; rw [fairV_ok, c]; rfl
    have e1 : lagE E P s q = 1 := by unfold lagE; rw [c]; rfl
    rw [e1] at hl
    have HL := Lib.hid hl
    clear hl c e1
    go_enter Try.func56, Try.ntmps56
    go_wp2_with (go_at_call 54; (with_reducible refine (HL.out _).mono ?_); rintro e w1 ⟨rfl, hb1⟩; have s_w1 := hb1.size; (try simp only [World.size_alloc, World.size_setCell, World.size_drew, sz_drewN] at s_w1); have z_w1_0_0 : w.heap.size < w1.heap.size := (by omega); have z_w1_0_1 : w.heap.size < w1.heap.size + 1 := (by omega); have z_w1_0_2 : w.heap.size < w1.heap.size + 1 + 1 := (by omega); have q_w1_0_0 : w1.cell? ⟨w.heap.size, 0, none⟩ = some (.int .i64 E) := (hb1.cell (p := ⟨w.heap.size, 0, none⟩) (by first | (show w.heap.size < _; omega) | (show w.heap.size < _; simp; done) | (show w.heap.size < _; simp; omega))).trans (by first | assumption | (go_simp; done)); have q_w1_0_1 : w1.cell? ⟨w.heap.size, 1, none⟩ = some (.int .i64 P) := (hb1.cell (p := ⟨w.heap.size, 1, none⟩) (by first | (show w.heap.size < _; omega) | (show w.heap.size < _; simp; done) | (show w.heap.size < _; simp; omega))).trans (by first | assumption | (go_simp; done)))
    go_ret
    exact ⟨by rw [hv.out]; rfl, (by have s0_ := hb1.size; (try simp only [World.size_alloc, World.size_setCell, World.size_drew, sz_drewN] at s0_); repeat' (first | (with_reducible exact Below.refl _ _) | (with_reducible refine bel_call ?_ ?_ hb1) | (with_reducible refine Below.alloc ?_ ?_ _) | (with_reducible refine below_drewN ?_ _) | (with_reducible refine Below.drew ?_) | (with_reducible refine Below.setCell ?_ ?_ _) | omega | (simp; omega) | (simp; done)))⟩
  | true =>
    obtain ⟨e1, e2, e3, s0, s1, q0, q1⟩ := okV_bd c
    have e0 : lagE E P s q = 0 := by unfold lagE; rw [c]; rfl
    rw [e0] at hl
    have hv := fairV_ok E P s q
    rw [c, Bool.true_and] at hv
    generalize lagV E P s q = l at *
    have HL := Lib.hid hl
    have wn : IntKind.i64.wrap (-P) = -P := wrap_in _ (by omega) (by omega)
    clear hl c e0
    by_cases c1 : -P < l
    · have HV : Hid (fairV E P s q = decide (l < P)) := by show _ = _; rw [hv]; simp [c1]
      clear hv
      go_enter Try.func56, Try.ntmps56
      go_wp2_with (go_at_call 54; (with_reducible refine (HL.out _).mono ?_); rintro e w1 ⟨rfl, hb1⟩; have s_w1 := hb1.size; (try simp only [World.size_alloc, World.size_setCell, World.size_drew, sz_drewN] at s_w1); have z_w1_0_0 : w.heap.size < w1.heap.size := (by omega); have z_w1_0_1 : w.heap.size < w1.heap.size + 1 := (by omega); have z_w1_0_2 : w.heap.size < w1.heap.size + 1 + 1 := (by omega); have q_w1_0_0 : w1.cell? ⟨w.heap.size, 0, none⟩ = some (.int .i64 E) := (hb1.cell (p := ⟨w.heap.size, 0, none⟩) (by first | (show w.heap.size < _; omega) | (show w.heap.size < _; simp; done) | (show w.heap.size < _; simp; omega))).trans (by first | assumption | (go_simp; done)); have q_w1_0_1 : w1.cell? ⟨w.heap.size, 1, none⟩ = some (.int .i64 P) := (hb1.cell (p := ⟨w.heap.size, 1, none⟩) (by first | (show w.heap.size < _; omega) | (show w.heap.size < _; simp; done) | (show w.heap.size < _; simp; omega))).trans (by first | assumption | (go_simp; done)))
      go_ret
      exact ⟨by rw [HV.out]; rfl, (by have s0_ := hb1.size; (try simp only [World.size_alloc, World.size_setCell, World.size_drew, sz_drewN] at s0_); repeat' (first | (with_reducible exact Below.refl _ _) | (with_reducible refine bel_call ?_ ?_ hb1) | (with_reducible refine Below.alloc ?_ ?_ _) | (with_reducible refine below_drewN ?_ _) | (with_reducible refine Below.drew ?_) | (with_reducible refine Below.setCell ?_ ?_ _) | omega | (simp; omega) | (simp; done)))⟩
    · have HV : Hid (fairV E P s q = false) := by show _ = _; rw [hv]; simp [c1]
      clear hv
      go_enter Try.func56, Try.ntmps56
      go_wp2_with (go_at_call 54; (with_reducible refine (HL.out _).mono ?_); rintro e w1 ⟨rfl, hb1⟩; have s_w1 := hb1.size; (try simp only [World.size_alloc, World.size_setCell, World.size_drew, sz_drewN] at s_w1); have z_w1_0_0 : w.heap.size < w1.heap.size := (by omega); have z_w1_0_1 : w.heap.size < w1.heap.size + 1 := (by omega); have z_w1_0_2 : w.heap.size < w1.heap.size + 1 + 1 := (by omega); have q_w1_0_0 : w1.cell? ⟨w.heap.size, 0, none⟩ = some (.int .i64 E) := (hb1.cell (p := ⟨w.heap.size, 0, none⟩) (by first | (show w.heap.size < _; omega) | (show w.heap.size < _; simp; done) | (show w.heap.size < _; simp; omega))).trans (by first | assumption | (go_simp; done)); have q_w1_0_1 : w1.cell? ⟨w.heap.size, 1, none⟩ = some (.int .i64 P) := (hb1.cell (p := ⟨w.heap.size, 1, none⟩) (by first | (show w.heap.size < _; omega) | (show w.heap.size < _; simp; done) | (show w.heap.size < _; simp; omega))).trans (by first | assumption | (go_simp; done)))
      go_ret
      exact ⟨by rw [HV.out]; first | rfl | simp [c1], (by have s0_ := hb1.size; (try simp only [World.size_alloc, World.size_setCell, World.size_drew, sz_drewN] at s0_); repeat' (first | (with_reducible exact Below.refl _ _) | (with_reducible refine bel_call ?_ ?_ hb1) | (with_reducible refine Below.alloc ?_ ?_ _) | (with_reducible refine below_drewN ?_ _) | (with_reducible refine Below.drew ?_) | (with_reducible refine Below.setCell ?_ ?_ _) | omega | (simp; omega) | (simp; done)))⟩

set_option maxHeartbeats 800000 in
theorem rlow_any (E P s : Int) (w : World) : Calls Try.prog 55 #[.agg #[.int .i64 E, .int .i64 P], .int .i64 s] w fun e w' => e = .returned (.int .i64 (lowV E P s)) ∧ Below w.heap.size w w' := by
  have hch := fun w => right_any E P s 0 w
  unfold lowV
  rw [← okV_zero]
  cases c : okV E P s 0 with
  | false =>
    rw [c] at hch
    have HC := Lib.hid hch
    clear hch c
    rw [if_neg (by decide)]
    go_enter Try.func55, Try.ntmps55
    go_wp2_with (go_at_call 63; (with_reducible refine (HC.out _).mono ?_); rintro e w1 ⟨rfl, hb1⟩)
    go_ret
    exact ⟨rfl, (by have s0_ := hb1.size; (try simp only [World.size_alloc, World.size_setCell, World.size_drew, sz_drewN] at s0_); repeat' (first | (with_reducible exact Below.refl _ _) | (with_reducible refine bel_call ?_ ?_ hb1) | (with_reducible refine Below.alloc ?_ ?_ _) | (with_reducible refine below_drewN ?_ _) | (with_reducible refine Below.drew ?_) | (with_reducible refine Below.setCell ?_ ?_ _) | omega | (simp; omega) | (simp; done)))⟩
  | true =>
    obtain ⟨e1, e2, e3, s0, s1, -, -⟩ := okV_bd c
    obtain ⟨a0, a1⟩ := prod_bd (x := E) (by omega) (by omega) s0 s1
    rw [c] at hch
    have HC := Lib.hid hch
    clear hch c
    rw [if_pos rfl]
    have ww1 : IntKind.i64.wrap (E * s) = E * s := wrap_in _ (by omega) (by omega)
    generalize hA : E * s = A at *
    have q1 : A / P * P ≤ A := Win.fl_le A P (by omega)
    have q2 : 0 ≤ A / P := Int.ediv_nonneg a0 (by omega)
    have q3 : A / P ≤ A := Int.ediv_le_self _ a0
    have hP : 1 ≤ P := by omega
    go_enter Try.func55, Try.ntmps55
    go_wp2_with (go_at_call 63; (with_reducible refine (HC.out _).mono ?_); rintro e w1 ⟨rfl, hb1⟩; have s_w1 := hb1.size; (try simp only [World.size_alloc, World.size_setCell, World.size_drew, sz_drewN] at s_w1); have z_w1_0_0 : w.heap.size < w1.heap.size := (by omega); have z_w1_0_1 : w.heap.size < w1.heap.size + 1 := (by omega); have z_w1_0_2 : w.heap.size < w1.heap.size + 1 + 1 := (by omega); have q_w1_0_0 : w1.cell? ⟨w.heap.size, 0, none⟩ = some (.int .i64 E) := (hb1.cell (p := ⟨w.heap.size, 0, none⟩) (by first | (show w.heap.size < _; omega) | (show w.heap.size < _; simp; done) | (show w.heap.size < _; simp; omega))).trans (by first | assumption | (go_simp; done)); have q_w1_0_1 : w1.cell? ⟨w.heap.size, 1, none⟩ = some (.int .i64 P) := (hb1.cell (p := ⟨w.heap.size, 1, none⟩) (by first | (show w.heap.size < _; omega) | (show w.heap.size < _; simp; done) | (show w.heap.size < _; simp; omega))).trans (by first | assumption | (go_simp; done)))
    go_ret
    exact ⟨rfl, (by have s0_ := hb1.size; (try simp only [World.size_alloc, World.size_setCell, World.size_drew, sz_drewN] at s0_); repeat' (first | (with_reducible exact Below.refl _ _) | (with_reducible refine bel_call ?_ ?_ hb1) | (with_reducible refine Below.alloc ?_ ?_ _) | (with_reducible refine below_drewN ?_ _) | (with_reducible refine Below.drew ?_) | (with_reducible refine Below.setCell ?_ ?_ _) | omega | (simp; omega) | (simp; done)))⟩

set_option maxHeartbeats 800000 in
theorem rhigh_any (E P s : Int) (w : World) : Calls Try.prog 57 #[.agg #[.int .i64 E, .int .i64 P], .int .i64 s] w fun e w' => e = .returned (.int .i64 (highV E P s)) ∧ Below w.heap.size w w' := by
  have hch := fun w => right_any E P s 0 w
  unfold highV
  rw [← okV_zero]
  cases c : okV E P s 0 with
  | false =>
    rw [c] at hch
    have HC := Lib.hid hch
    clear hch c
    rw [if_neg (by decide)]
    go_enter Try.func57, Try.ntmps57
    go_wp2_with (go_at_call 63; (with_reducible refine (HC.out _).mono ?_); rintro e w1 ⟨rfl, hb1⟩)
    go_ret
    exact ⟨rfl, (by have s0_ := hb1.size; (try simp only [World.size_alloc, World.size_setCell, World.size_drew, sz_drewN] at s0_); repeat' (first | (with_reducible exact Below.refl _ _) | (with_reducible refine bel_call ?_ ?_ hb1) | (with_reducible refine Below.alloc ?_ ?_ _) | (with_reducible refine below_drewN ?_ _) | (with_reducible refine Below.drew ?_) | (with_reducible refine Below.setCell ?_ ?_ _) | omega | (simp; omega) | (simp; done)))⟩
  | true =>
    obtain ⟨e1, e2, e3, s0, s1, -, -⟩ := okV_bd c
    obtain ⟨a0, a1⟩ := prod_bd (x := E) (by omega) (by omega) s0 s1
    rw [c] at hch
    have HC := Lib.hid hch
    clear hch c
    rw [if_pos rfl]
    have ww1 : IntKind.i64.wrap (E * s) = E * s := wrap_in _ (by omega) (by omega)
    generalize hA : E * s = A at *
    have q1 : A / P * P ≤ A := Win.fl_le A P (by omega)
    have q2 : 0 ≤ A / P := Int.ediv_nonneg a0 (by omega)
    have q3 : A / P ≤ A := Int.ediv_le_self _ a0
    have q4 : 0 ≤ A / P * P := Int.mul_nonneg q2 (by omega)
    have hP : 1 ≤ P := by omega
    by_cases h : A / P * P < A
    · have hu : Hid (Win.up A P = A / P + 1) := if_pos h
      go_enter Try.func57, Try.ntmps57
      go_wp2_with (go_at_call 63; (with_reducible refine (HC.out _).mono ?_); rintro e w1 ⟨rfl, hb1⟩; have s_w1 := hb1.size; (try simp only [World.size_alloc, World.size_setCell, World.size_drew, sz_drewN] at s_w1); have z_w1_0_0 : w.heap.size < w1.heap.size := (by omega); have z_w1_0_1 : w.heap.size < w1.heap.size + 1 := (by omega); have z_w1_0_2 : w.heap.size < w1.heap.size + 1 + 1 := (by omega); have q_w1_0_0 : w1.cell? ⟨w.heap.size, 0, none⟩ = some (.int .i64 E) := (hb1.cell (p := ⟨w.heap.size, 0, none⟩) (by first | (show w.heap.size < _; omega) | (show w.heap.size < _; simp; done) | (show w.heap.size < _; simp; omega))).trans (by first | assumption | (go_simp; done)); have q_w1_0_1 : w1.cell? ⟨w.heap.size, 1, none⟩ = some (.int .i64 P) := (hb1.cell (p := ⟨w.heap.size, 1, none⟩) (by first | (show w.heap.size < _; omega) | (show w.heap.size < _; simp; done) | (show w.heap.size < _; simp; omega))).trans (by first | assumption | (go_simp; done)))
      go_ret
      exact ⟨by rw [hu.out]; rfl, (by have s0_ := hb1.size; (try simp only [World.size_alloc, World.size_setCell, World.size_drew, sz_drewN] at s0_); repeat' (first | (with_reducible exact Below.refl _ _) | (with_reducible refine bel_call ?_ ?_ hb1) | (with_reducible refine Below.alloc ?_ ?_ _) | (with_reducible refine below_drewN ?_ _) | (with_reducible refine Below.drew ?_) | (with_reducible refine Below.setCell ?_ ?_ _) | omega | (simp; omega) | (simp; done)))⟩
    · have hu : Hid (Win.up A P = A / P) := if_neg h
      go_enter Try.func57, Try.ntmps57
      go_wp2_with (go_at_call 63; (with_reducible refine (HC.out _).mono ?_); rintro e w1 ⟨rfl, hb1⟩; have s_w1 := hb1.size; (try simp only [World.size_alloc, World.size_setCell, World.size_drew, sz_drewN] at s_w1); have z_w1_0_0 : w.heap.size < w1.heap.size := (by omega); have z_w1_0_1 : w.heap.size < w1.heap.size + 1 := (by omega); have z_w1_0_2 : w.heap.size < w1.heap.size + 1 + 1 := (by omega); have q_w1_0_0 : w1.cell? ⟨w.heap.size, 0, none⟩ = some (.int .i64 E) := (hb1.cell (p := ⟨w.heap.size, 0, none⟩) (by first | (show w.heap.size < _; omega) | (show w.heap.size < _; simp; done) | (show w.heap.size < _; simp; omega))).trans (by first | assumption | (go_simp; done)); have q_w1_0_1 : w1.cell? ⟨w.heap.size, 1, none⟩ = some (.int .i64 P) := (hb1.cell (p := ⟨w.heap.size, 1, none⟩) (by first | (show w.heap.size < _; omega) | (show w.heap.size < _; simp; done) | (show w.heap.size < _; simp; omega))).trans (by first | assumption | (go_simp; done)))
      go_ret
      exact ⟨by rw [hu.out]; rfl, (by have s0_ := hb1.size; (try simp only [World.size_alloc, World.size_setCell, World.size_drew, sz_drewN] at s0_); repeat' (first | (with_reducible exact Below.refl _ _) | (with_reducible refine bel_call ?_ ?_ hb1) | (with_reducible refine Below.alloc ?_ ?_ _) | (with_reducible refine below_drewN ?_ _) | (with_reducible refine Below.drew ?_) | (with_reducible refine Below.setCell ?_ ?_ _) | omega | (simp; omega) | (simp; done)))⟩

/-! ### How many run -/
set_option maxHeartbeats 800000 in
theorem runs_any {n₀ : Nat} (a : Option Addr) (len cap : Nat) (zs : List Bool) (hr : zs.length ≤ 4611686018427387904) (w : World) (hI : Bools n₀ w (.slice a len cap) zs) : Calls Try.prog 41 #[.slice a len cap] w fun e w' => e = .returned (.int .i64 (cnt zs zs.length)) ∧ w' = w := by
  obtain ⟨hlen, hcell⟩ : len = zs.length ∧ (0 < zs.length → ∃ b off, a = some ⟨b, off, none⟩ ∧ ∀ j, j < zs.length → w.cell? ⟨b, off + j, none⟩ = some (.bool (zs[j]?.getD false))) := by
    rcases hI with ⟨_, _, hv, rfl⟩ | ⟨b, off, c, hv, hb, hl, hc⟩
    · injection hv with h1 h2 h3; exact ⟨h2, fun h => absurd h (by simp)⟩
    · injection hv with h1 h2 h3; exact ⟨h2, fun _ => ⟨b, off, h1, hc⟩⟩
  subst hlen
  have HC := Lib.hid hcell
  clear hI hcell
  go_enter Try.func41, Try.ntmps41
  go_wp2
  go_loop [3, 8] (fun c i => ∃ k : Nat, k ≤ zs.length ∧ i = .int .i64 k ∧ c = .int .i64 (cnt zs k)) (fun _ i => zs.length - (intOf i).toNat)
  case atStart => exact ⟨0, Nat.zero_le _, rfl, rfl⟩
  case round =>
    obtain ⟨k, hk, rfl, rfl⟩ := hrel
    have hcl := cnt_le zs k
    have wc : IntKind.i64.wrap ((cnt zs k : Int) + 1) = (cnt zs k : Int) + 1 := wrap_in _ (by omega) (by omega)
    have wk : IntKind.i64.wrap ((k : Int) + 1) = (k : Int) + 1 := wrap_in _ (by omega) (by omega)
    by_cases hlt : k < zs.length
    · obtain ⟨b, off, rfl, hcs⟩ := HC.out (by omega)
      have hcx := hcs k hlt
      have hcn : cnt zs (k + 1) = cnt zs k + (if zs[k]?.getD false = true then 1 else 0) := rfl
      have kl : (k : Int) < zs.length := by omega
      clear hcs
      cases hz : zs[k]?.getD false with
      | true =>
        rw [hz] at hcx hcn
        have hcn2 : Hid (((cnt zs (k + 1) : Nat) : Int) = (cnt zs k : Int) + 1) := by show _ = _; rw [hcn]; simp
        clear hcn hz
        go_wp2
        go_round
        case rel => exact ⟨k + 1, by omega, by go_num, by rw [hcn2.out]⟩
        case measure => simp [intOf]; omega
      | false =>
        rw [hz] at hcx hcn
        have hcn2 : Hid (((cnt zs (k + 1) : Nat) : Int) = (cnt zs k : Int)) := by show _ = _; rw [hcn]; simp
        clear hcn hz
        go_wp2
        go_round
        case rel => exact ⟨k + 1, by omega, by go_num, by rw [hcn2.out]⟩
        case measure => simp [intOf]; omega
    · obtain rfl : k = zs.length := by omega
      go_wp2
      go_ret
      exact ⟨rfl, rfl⟩
set_option maxHeartbeats 800000 in
theorem rruns_any {n₀ : Nat} (a : Option Addr) (len cap : Nat) (zs : List Bool) (hr : zs.length ≤ 4611686018427387904) (w : World) (hI : Bools n₀ w (.slice a len cap) zs) : Calls Try.prog 58 #[.slice a len cap] w fun e w' => e = .returned (.int .i64 (cnt zs zs.length)) ∧ w' = w := by
  obtain ⟨hlen, hcell⟩ : len = zs.length ∧ (0 < zs.length → ∃ b off, a = some ⟨b, off, none⟩ ∧ ∀ j, j < zs.length → w.cell? ⟨b, off + j, none⟩ = some (.bool (zs[j]?.getD false))) := by
    rcases hI with ⟨_, _, hv, rfl⟩ | ⟨b, off, c, hv, hb, hl, hc⟩
    · injection hv with h1 h2 h3; exact ⟨h2, fun h => absurd h (by simp)⟩
    · injection hv with h1 h2 h3; exact ⟨h2, fun _ => ⟨b, off, h1, hc⟩⟩
  subst hlen
  have HC := Lib.hid hcell
  clear hI hcell
  go_enter Try.func58, Try.ntmps58
  go_wp2
  go_loop [3, 4] (fun c i => ∃ k : Nat, k ≤ zs.length ∧ i = .int .i64 k ∧ c = .int .i64 (cnt zs k)) (fun _ i => zs.length - (intOf i).toNat)
  case atStart => exact ⟨0, Nat.zero_le _, rfl, rfl⟩
  case round =>
    obtain ⟨k, hk, rfl, rfl⟩ := hrel
    have hcl := cnt_le zs k
    have wc : IntKind.i64.wrap ((cnt zs k : Int) + 1) = (cnt zs k : Int) + 1 := wrap_in _ (by omega) (by omega)
    have wk : IntKind.i64.wrap ((k : Int) + 1) = (k : Int) + 1 := wrap_in _ (by omega) (by omega)
    by_cases hlt : k < zs.length
    · obtain ⟨b, off, rfl, hcs⟩ := HC.out (by omega)
      have hcx := hcs k hlt
      have hcn : cnt zs (k + 1) = cnt zs k + (if zs[k]?.getD false = true then 1 else 0) := rfl
      have kl : (k : Int) < zs.length := by omega
      clear hcs
      cases hz : zs[k]?.getD false with
      | true =>
        rw [hz] at hcx hcn
        have hcn2 : Hid (((cnt zs (k + 1) : Nat) : Int) = (cnt zs k : Int) + 1) := by show _ = _; rw [hcn]; simp
        clear hcn hz
        go_wp2
        go_round
        case rel => exact ⟨k + 1, by omega, by go_num, by rw [hcn2.out]⟩
        case measure => simp [intOf]; omega
      | false =>
        rw [hz] at hcx hcn
        have hcn2 : Hid (((cnt zs (k + 1) : Nat) : Int) = (cnt zs k : Int)) := by show _ = _; rw [hcn]; simp
        clear hcn hz
        go_wp2
        go_round
        case rel => exact ⟨k + 1, by omega, by go_num, by rw [hcn2.out]⟩
        case measure => simp [intOf]; omega
    · obtain rfl : k = zs.length := by omega
      go_wp2
      go_ret
      exact ⟨rfl, rfl⟩
end Go.Proofs.Ytpmenmcigflkdaa
