/- Plain lemmas on shares and slots, and the walks of the laws FluidLag, FluidBounds, FluidWindows, FluidDue. -/
import Derived.Test.YtpmenmcigflkdaaFluid
namespace Go.Proofs.Ytpmenmcigflkdaa
open Go.RowKit
set_option linter.unusedVariables false
set_option linter.unusedSimpArgs false

def mayN (n : Int) : Bool := decide (0 ≤ n) && decide (n ≤ 1099511627776)
set_option maxHeartbeats 400000 in
theorem mayn_no (n : Int) (w : World) (h : mayN n = false) : Calls Try.prog 50 #[.int .i64 n] w fun e w' => e = .returned (.bool false) ∧ w = w' := by
  by_cases c : 0 ≤ n
  · have c2 : ¬ n ≤ 1099511627776 := by simpa [mayN, c] using h
    go_enter Try.func50, Try.ntmps50
    go_wp2
    go_ret
    exact ⟨by first | rfl | (simp; omega), rfl⟩
  · go_enter Try.func50, Try.ntmps50
    go_wp2
    go_ret
    exact ⟨by first | rfl | (simp; omega), rfl⟩

theorem check_no (E P : Int) (w : World) (h : may E P = false) : Calls Try.prog 49 #[.agg #[.int .i64 E, .int .i64 P]] w fun e w' => e = .returned (.bool false) ∧ Below w.heap.size w w' :=
  (check_any E P w).mono fun _ _ k => ⟨by rw [k.1, h], k.2⟩
theorem may_bd {E P : Int} (h : may E P = true) : 1 ≤ E ∧ E ≤ P ∧ P ≤ 1048576 := by simpa [may] using h
theorem mayN_bd {n : Int} (h : mayN n = true) : 0 ≤ n ∧ n ≤ 1099511627776 := by simpa [mayN] using h

set_option maxHeartbeats 800000 in
theorem lag_no (E P s q : Int) (w : World) (h : (may E P && (mayN s && mayN q)) = false) :
    Calls Try.prog 32 #[.agg #[.int .i64 E, .int .i64 P], .int .i64 s, .int .i64 q] w fun e w' => e = .returned (.tuple #[.int .i64 0, .int .i64 1]) ∧ Below w.heap.size w w' := by
  by_cases c1 : may E P = true
  · obtain ⟨e1, e2, e3⟩ := may_bd c1
    by_cases c2 : mayN s = true
    · obtain ⟨s0, s1⟩ := mayN_bd c2
      have c3 : mayN q = false := by simpa [c1, c2] using h
      clear h c1 c2
      go_enter Try.func32, Try.ntmps32
      go_wp2_with (first
        | (go_at_call 49; refine (check_yes _ _ _ e1 e2 e3).mono ?_; rintro e w1 ⟨rfl, hb1⟩)
        | (go_at_call 50; (first | (with_reducible refine (mayn_no q _ c3).mono ?_) | (with_reducible refine (mayn_yes s _ s0 s1).mono ?_)); rintro e w' ⟨rfl, rfl⟩))
      go_ret2
      exact ⟨rfl, (by have s0_ := hb1.size; (try simp only [World.size_alloc, World.size_setCell, World.size_drew, sz_drewN] at s0_); repeat' (first | (with_reducible exact Below.refl _ _) | (with_reducible refine bel_call ?_ ?_ hb1) | (with_reducible refine Below.alloc ?_ ?_ _) | (with_reducible refine below_drewN ?_ _) | (with_reducible refine Below.drew ?_) | (with_reducible refine Below.setCell ?_ ?_ _) | omega | (simp; omega) | (simp; done)))⟩
    · have c2' : mayN s = false := by simpa using c2
      clear h c1 c2
      go_enter Try.func32, Try.ntmps32
      go_wp2_with (first
        | (go_at_call 49; refine (check_yes _ _ _ e1 e2 e3).mono ?_; rintro e w1 ⟨rfl, hb1⟩)
        | (go_at_call 50; refine (mayn_no _ _ c2').mono ?_; rintro e w' ⟨rfl, rfl⟩))
      go_ret2
      exact ⟨rfl, (by have s0_ := hb1.size; (try simp only [World.size_alloc, World.size_setCell, World.size_drew, sz_drewN] at s0_); repeat' (first | (with_reducible exact Below.refl _ _) | (with_reducible refine bel_call ?_ ?_ hb1) | (with_reducible refine Below.alloc ?_ ?_ _) | (with_reducible refine below_drewN ?_ _) | (with_reducible refine Below.drew ?_) | (with_reducible refine Below.setCell ?_ ?_ _) | omega | (simp; omega) | (simp; done)))⟩
  · have c1' : may E P = false := by simpa using c1
    clear h c1
    go_enter Try.func32, Try.ntmps32
    go_wp2_with (go_at_call 49; refine (check_no _ _ _ c1').mono ?_; rintro e w1 ⟨rfl, hb1⟩)
    go_ret2
    exact ⟨rfl, (by have s0_ := hb1.size; (try simp only [World.size_alloc, World.size_setCell, World.size_drew, sz_drewN] at s0_); repeat' (first | (with_reducible exact Below.refl _ _) | (with_reducible refine bel_call ?_ ?_ hb1) | (with_reducible refine Below.alloc ?_ ?_ _) | (with_reducible refine below_drewN ?_ _) | (with_reducible refine Below.drew ?_) | (with_reducible refine Below.setCell ?_ ?_ _) | omega | (simp; omega) | (simp; done)))⟩

/-- Is it fair? -/
def fairV (E P s q : Int) : Bool := may E P && (mayN s && mayN q) && fairB P (E * s - P * q)

set_option maxHeartbeats 800000 in
theorem fair_any (E P s q : Int) (w : World) :
    Calls Try.prog 29 #[.agg #[.int .i64 E, .int .i64 P], .int .i64 s, .int .i64 q] w fun e w' => e = .returned (.bool (fairV E P s q)) ∧ Below w.heap.size w w' := by
  by_cases h : (may E P && (mayN s && mayN q)) = true
  · have k : fairV E P s q = fairB P (E * s - P * q) := by simp [fairV, h]
    simp only [Bool.and_eq_true] at h
    obtain ⟨e1, e2, e3⟩ := may_bd h.1
    obtain ⟨s0, s1⟩ := mayN_bd h.2.1
    obtain ⟨q0, q1⟩ := mayN_bd h.2.2
    rw [k]
    exact fair_yes E P s q w e1 e2 e3 s0 s1 q0 q1
  · have h' : (may E P && (mayN s && mayN q)) = false := by simpa using h
    have H : Hid (fairV E P s q = false) := by show _ = _; simp only [fairV, h', Bool.false_and]
    clear h
    go_enter Try.func29, Try.ntmps29
    go_wp2_with (go_at_call 32; refine (lag_no _ _ _ _ _ h').mono ?_; rintro e w1 ⟨rfl, hb1⟩; have s_w1 := hb1.size; (try simp only [World.size_alloc, World.size_setCell, World.size_drew, sz_drewN] at s_w1); have z_w1_0_0 : w.heap.size < w1.heap.size := (by omega); have z_w1_0_1 : w.heap.size < w1.heap.size + 1 := (by omega); have z_w1_0_2 : w.heap.size < w1.heap.size + 1 + 1 := (by omega); have q_w1_0_0 : w1.cell? ⟨w.heap.size, 0, none⟩ = some (.int .i64 E) := (hb1.cell (p := ⟨w.heap.size, 0, none⟩) (by first | (show w.heap.size < _; omega) | (show w.heap.size < _; simp; done) | (show w.heap.size < _; simp; omega))).trans (by first | assumption | (go_simp; done)); have q_w1_0_1 : w1.cell? ⟨w.heap.size, 1, none⟩ = some (.int .i64 P) := (hb1.cell (p := ⟨w.heap.size, 1, none⟩) (by first | (show w.heap.size < _; omega) | (show w.heap.size < _; simp; done) | (show w.heap.size < _; simp; omega))).trans (by first | assumption | (go_simp; done)))
    go_ret
    exact ⟨by rw [H.out]; rfl, (by have s0_ := hb1.size; (try simp only [World.size_alloc, World.size_setCell, World.size_drew, sz_drewN] at s0_); repeat' (first | (with_reducible exact Below.refl _ _) | (with_reducible refine bel_call ?_ ?_ hb1) | (with_reducible refine Below.alloc ?_ ?_ _) | (with_reducible refine below_drewN ?_ _) | (with_reducible refine Below.drew ?_) | (with_reducible refine Below.setCell ?_ ?_ _) | omega | (simp; omega) | (simp; done)))⟩

/-! ### FluidLag -/
theorem lags_of (E P t a : Int) (e1 : 1 ≤ E) (e2 : E ≤ P) (p2 : P ≤ 1048576) (t0 : 0 ≤ t) (t1 : t ≤ 1073741823) (a0 : 0 ≤ a) (a1 : a ≤ 1073741823) :
    ∃ X Y Z Q : Int, E * t - P * a = X ∧ E * (t + 1) - P * a = Y ∧ E * t - P * (a + 1) = Z ∧ E * (t + P) - P * (a + E) = Q ∧ (Y - X == E) = true ∧ (X - Z == P) = true ∧ (Q == X) = true ∧
      -2305843009213693952 ≤ X ∧ X ≤ 2305843009213693952 ∧ -2305843009213693952 ≤ Y ∧ Y ≤ 2305843009213693952 ∧ -2305843009213693952 ≤ Z ∧ Z ≤ 2305843009213693952 := by
  refine ⟨_, _, _, _, rfl, rfl, rfl, rfl, ?_, ?_, ?_, ?_⟩
  · rw [Int.mul_add, Int.mul_one]; simp; omega
  · rw [Int.mul_add P, Int.mul_one]; simp; omega
  · rw [Int.mul_add E, Int.mul_add P, Int.mul_comm P E]; simp; omega
  · obtain ⟨x0, x1⟩ := prod_bd (x := E) (y := t) (by omega) (by omega) t0 (by omega)
    obtain ⟨y0, y1⟩ := prod_bd (x := P) (y := a) (by omega) (by omega) a0 (by omega)
    rw [Int.mul_add, Int.mul_add P, Int.mul_one, Int.mul_one]
    omega

set_option maxHeartbeats 3200000 in
theorem walk_FluidLag (a00 a01 a10 a11 : Int) (w : World) (_f00 : (Lit.int .i64 a00).wf = true) (_f01 : (Lit.int .i64 a01).wf = true) (_f10 : (Lit.int .i64 a10).wf = true) (_f11 : (Lit.int .i64 a11).wf = true) :
    Calls Try.prog 9 #[.agg #[.int .i64 a00, .int .i64 a01], .agg #[.int .i64 a10, .int .i64 a11]] w fun e w' => e = .returned (.bool true) ∧ Below w.heap.size w w' := by
  obtain ⟨e3, p2⟩ := pOf_bd a01
  obtain ⟨e1, e2⟩ := eOf_bd a00 (pOf a01) e3
  have hm := fun w => made_any a00 a01 w
  generalize eOf a00 (pOf a01) = E at *
  generalize pOf a01 = P at *
  obtain ⟨t, ht, t0, t1⟩ := masked30 a10
  obtain ⟨a, ha, a0, a1⟩ := masked30 a11
  have h1 := fun w => lag_yes E P t a w e1 e2 p2 t0 (by omega) a0 (by omega)
  have h2 := fun w => lag_yes E P (t + 1) a w e1 e2 p2 (by omega) (by omega) a0 (by omega)
  have h3 := fun w => lag_yes E P t (a + 1) w e1 e2 p2 t0 (by omega) (by omega) (by omega)
  have h4 := fun w => lag_yes E P (t + P) (a + E) w e1 e2 p2 (by omega) (by omega) (by omega) (by omega)
  obtain ⟨X, Y, Z, Q, k1, k2, k3, k4, g1, g2, g3, x0, x1, y0, y1, z0, z1⟩ := lags_of E P t a e1 e2 p2 t0 t1 a0 a1
  rw [k1] at h1; rw [k2] at h2; rw [k3] at h3; rw [k4] at h4
  clear k1 k2 k3 k4
  have HM := Lib.hid hm
  have H1 := Lib.hid h1
  have H2 := Lib.hid h2
  have H3 := Lib.hid h3
  have H4 := Lib.hid h4
  clear hm h1 h2 h3 h4
  go_enter Try.func9, Try.ntmps9
  go_wp2_with (first
    | (go_at_call 25; refine (awake09 _).mono ?_; rintro e w1 ⟨rfl, hb1⟩; have s_w1 := hb1.size; (try simp only [World.size_alloc, World.size_setCell, World.size_drew, sz_drewN] at s_w1); have z_w1_0_0 : w.heap.size < w1.heap.size := (by omega); have z_w1_0_1 : w.heap.size < w1.heap.size + 1 := (by omega); have z_w1_0_2 : w.heap.size < w1.heap.size + 1 + 1 := (by omega); have q_w1_0_0 : w1.cell? ⟨w.heap.size, 0, none⟩ = some (.int .i64 a00) := (hb1.cell (p := ⟨w.heap.size, 0, none⟩) (by first | (show w.heap.size < _; omega) | (show w.heap.size < _; simp; done) | (show w.heap.size < _; simp; omega))).trans (by first | assumption | (go_simp; done)); have q_w1_0_1 : w1.cell? ⟨w.heap.size, 1, none⟩ = some (.int .i64 a01) := (hb1.cell (p := ⟨w.heap.size, 1, none⟩) (by first | (show w.heap.size < _; omega) | (show w.heap.size < _; simp; done) | (show w.heap.size < _; simp; omega))).trans (by first | assumption | (go_simp; done)); have z_w1_1_0 : w.heap.size + 1 < w1.heap.size := (by omega); have z_w1_1_1 : w.heap.size + 1 < w1.heap.size + 1 := (by omega); have z_w1_1_2 : w.heap.size + 1 < w1.heap.size + 1 + 1 := (by omega); have q_w1_1_0 : w1.cell? ⟨w.heap.size + 1, 0, none⟩ = some (.int .i64 a10) := (hb1.cell (p := ⟨w.heap.size + 1, 0, none⟩) (by first | (show w.heap.size + 1 < _; omega) | (show w.heap.size + 1 < _; simp; done) | (show w.heap.size + 1 < _; simp; omega))).trans (by first | assumption | (go_simp; done)); have q_w1_1_1 : w1.cell? ⟨w.heap.size + 1, 1, none⟩ = some (.int .i64 a11) := (hb1.cell (p := ⟨w.heap.size + 1, 1, none⟩) (by first | (show w.heap.size + 1 < _; omega) | (show w.heap.size + 1 < _; simp; done) | (show w.heap.size + 1 < _; simp; omega))).trans (by first | assumption | (go_simp; done)))
    | (go_at_call 26; refine (HM.out _).mono ?_; rintro e w2 ⟨rfl, hb2⟩; have s_w2 := hb2.size; (try simp only [World.size_alloc, World.size_setCell, World.size_drew, sz_drewN] at s_w2); have z_w2_0_0 : w.heap.size + 1 < w2.heap.size := (by omega); have z_w2_0_1 : w.heap.size + 1 < w2.heap.size + 1 := (by omega); have z_w2_0_2 : w.heap.size + 1 < w2.heap.size + 1 + 1 := (by omega); have q_w2_0_0 : w2.cell? ⟨w.heap.size + 1, 0, none⟩ = some (.int .i64 a10) := (hb2.cell (p := ⟨w.heap.size + 1, 0, none⟩) (by first | (show w.heap.size + 1 < _; omega) | (show w.heap.size + 1 < _; simp; done) | (show w.heap.size + 1 < _; simp; omega))).trans (by first | assumption | (go_simp; done)); have q_w2_0_1 : w2.cell? ⟨w.heap.size + 1, 1, none⟩ = some (.int .i64 a11) := (hb2.cell (p := ⟨w.heap.size + 1, 1, none⟩) (by first | (show w.heap.size + 1 < _; omega) | (show w.heap.size + 1 < _; simp; done) | (show w.heap.size + 1 < _; simp; omega))).trans (by first | assumption | (go_simp; done)))
    | (go_at_call 32; (with_reducible refine (H1.out _).mono ?_); rintro e w3 ⟨rfl, hb3⟩; have s_w3 := hb3.size; (try simp only [World.size_alloc, World.size_setCell, World.size_drew, sz_drewN] at s_w3); have z_w3_0_0 : w2.heap.size < w3.heap.size := (by omega); have z_w3_0_1 : w2.heap.size < w3.heap.size + 1 := (by omega); have z_w3_0_2 : w2.heap.size < w3.heap.size + 1 + 1 := (by omega); have q_w3_0_0 : w3.cell? ⟨w2.heap.size, 0, none⟩ = some (.int .i64 E) := (hb3.cell (p := ⟨w2.heap.size, 0, none⟩) (by first | (show w2.heap.size < _; omega) | (show w2.heap.size < _; simp; done) | (show w2.heap.size < _; simp; omega))).trans (by first | assumption | (go_simp; done)); have q_w3_0_1 : w3.cell? ⟨w2.heap.size, 1, none⟩ = some (.int .i64 P) := (hb3.cell (p := ⟨w2.heap.size, 1, none⟩) (by first | (show w2.heap.size < _; omega) | (show w2.heap.size < _; simp; done) | (show w2.heap.size < _; simp; omega))).trans (by first | assumption | (go_simp; done)))
    | (go_at_call 32; (with_reducible refine (H2.out _).mono ?_); rintro e w4 ⟨rfl, hb4⟩; have s_w4 := hb4.size; (try simp only [World.size_alloc, World.size_setCell, World.size_drew, sz_drewN] at s_w4); have z_w4_0_0 : w2.heap.size < w4.heap.size := (by omega); have z_w4_0_1 : w2.heap.size < w4.heap.size + 1 := (by omega); have z_w4_0_2 : w2.heap.size < w4.heap.size + 1 + 1 := (by omega); have q_w4_0_0 : w4.cell? ⟨w2.heap.size, 0, none⟩ = some (.int .i64 E) := (hb4.cell (p := ⟨w2.heap.size, 0, none⟩) (by first | (show w2.heap.size < _; omega) | (show w2.heap.size < _; simp; done) | (show w2.heap.size < _; simp; omega))).trans (by first | assumption | (go_simp; done)); have q_w4_0_1 : w4.cell? ⟨w2.heap.size, 1, none⟩ = some (.int .i64 P) := (hb4.cell (p := ⟨w2.heap.size, 1, none⟩) (by first | (show w2.heap.size < _; omega) | (show w2.heap.size < _; simp; done) | (show w2.heap.size < _; simp; omega))).trans (by first | assumption | (go_simp; done)))
    | (go_at_call 32; (with_reducible refine (H3.out _).mono ?_); rintro e w5 ⟨rfl, hb5⟩; have s_w5 := hb5.size; (try simp only [World.size_alloc, World.size_setCell, World.size_drew, sz_drewN] at s_w5); have z_w5_0_0 : w2.heap.size < w5.heap.size := (by omega); have z_w5_0_1 : w2.heap.size < w5.heap.size + 1 := (by omega); have z_w5_0_2 : w2.heap.size < w5.heap.size + 1 + 1 := (by omega); have q_w5_0_0 : w5.cell? ⟨w2.heap.size, 0, none⟩ = some (.int .i64 E) := (hb5.cell (p := ⟨w2.heap.size, 0, none⟩) (by first | (show w2.heap.size < _; omega) | (show w2.heap.size < _; simp; done) | (show w2.heap.size < _; simp; omega))).trans (by first | assumption | (go_simp; done)); have q_w5_0_1 : w5.cell? ⟨w2.heap.size, 1, none⟩ = some (.int .i64 P) := (hb5.cell (p := ⟨w2.heap.size, 1, none⟩) (by first | (show w2.heap.size < _; omega) | (show w2.heap.size < _; simp; done) | (show w2.heap.size < _; simp; omega))).trans (by first | assumption | (go_simp; done)))
    | (go_at_call 32; (with_reducible refine (H4.out _).mono ?_); rintro e w6 ⟨rfl, hb6⟩; have s_w6 := hb6.size; (try simp only [World.size_alloc, World.size_setCell, World.size_drew, sz_drewN] at s_w6); have z_w6_0_0 : w2.heap.size < w6.heap.size := (by omega); have z_w6_0_1 : w2.heap.size < w6.heap.size + 1 := (by omega); have z_w6_0_2 : w2.heap.size < w6.heap.size + 1 + 1 := (by omega); have q_w6_0_0 : w6.cell? ⟨w2.heap.size, 0, none⟩ = some (.int .i64 E) := (hb6.cell (p := ⟨w2.heap.size, 0, none⟩) (by first | (show w2.heap.size < _; omega) | (show w2.heap.size < _; simp; done) | (show w2.heap.size < _; simp; omega))).trans (by first | assumption | (go_simp; done)); have q_w6_0_1 : w6.cell? ⟨w2.heap.size, 1, none⟩ = some (.int .i64 P) := (hb6.cell (p := ⟨w2.heap.size, 1, none⟩) (by first | (show w2.heap.size < _; omega) | (show w2.heap.size < _; simp; done) | (show w2.heap.size < _; simp; omega))).trans (by first | assumption | (go_simp; done))))
  go_ret
  exact ⟨by first | rfl | simp [*], (by have s0_ := hb1.size; have s1_ := hb2.size; have s2_ := hb3.size; have s3_ := hb4.size; have s4_ := hb5.size; have s5_ := hb6.size; (try simp only [World.size_alloc, World.size_setCell, World.size_drew, sz_drewN] at s0_ s1_ s2_ s3_ s4_ s5_); repeat' (first | (with_reducible exact Below.refl _ _) | (with_reducible refine bel_call ?_ ?_ hb6) | (with_reducible refine bel_call ?_ ?_ hb5) | (with_reducible refine bel_call ?_ ?_ hb4) | (with_reducible refine bel_call ?_ ?_ hb3) | (with_reducible refine bel_call ?_ ?_ hb2) | (with_reducible refine bel_call ?_ ?_ hb1) | (with_reducible refine Below.alloc ?_ ?_ _) | (with_reducible refine below_drewN ?_ _) | (with_reducible refine Below.drew ?_) | (with_reducible refine Below.setCell ?_ ?_ _) | omega | (simp; omega) | (simp; done)))⟩
end Go.Proofs.Ytpmenmcigflkdaa
