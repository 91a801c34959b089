/- The walk of the law WindowLag. -/
import Derived.Test.YtamonmhicjejoaaWc
import Derived.Lib.Hide
namespace Go.Proofs.Ytamonmhicjejoaa
open Go.RowKit
set_option linter.unusedVariables false
set_option linter.unusedSimpArgs false
theorem masked20 (x : Int) : ∃ n, bits .and .i64 x 1048575 = n ∧ 0 ≤ n ∧ n ≤ 1048575 := ⟨_, mask20 x, by omega, by omega⟩

set_option maxHeartbeats 3200000 in
theorem walk_WindowLag (a00 a01 a1 : Int) (w : World) (_f00 : (Lit.int .i64 a00).wf = true) (_f01 : (Lit.int .i64 a01).wf = true) (_f1 : (Lit.int .i64 a1).wf = true) :
    Calls Try.prog 8 #[.agg #[.int .i64 a00, .int .i64 a01], .int .i64 a1] w fun e w' => e = .returned (.bool true) ∧ Below w.heap.size w w' := by
  obtain ⟨e3, p2⟩ := pOf_bd a01
  obtain ⟨e1, e2⟩ := eOf_bd a00 (pOf a01) e3
  have hm := fun w => made_any a00 a01 w
  generalize eOf a00 (pOf a01) = E at *
  generalize pOf a01 = P at *
  have HM := Lib.hid hm
  clear hm
  obtain ⟨t, ht, t0, t1⟩ := masked20 a1
  have F1 := Win.lag_over E P t (by omega) (by omega)
  have F2 := Win.lag_next E P t (by omega) (by omega)
  have F3 := Win.lag_begun E P t (by omega) (by omega)
  have F4 := Win.lag_ahead E P t (by omega) (by omega)
  have x0 : 0 ≤ t * E := Int.mul_nonneg t0 (by omega)
  have x1 : t * E ≤ t * P := Int.mul_le_mul_of_nonneg_left e2 t0
  have x2 : t * P ≤ 1048576 * P := Int.mul_le_mul_of_nonneg_right (by omega) (by omega)
  obtain ⟨o, ho, o0, o1⟩ : ∃ o, t * E / P = o ∧ 0 ≤ o ∧ o ≤ t := ⟨_, rfl, Int.ediv_nonneg x0 (by omega), Win.le_of_mul (b := P) (by omega) (by have := Win.fl_le (t * E) P (by omega); omega)⟩
  rw [ho] at F1 F2 F3 F4
  clear x1 x2
  have x3 : t * E ≤ 1099511627776 := by
    have a := Int.mul_le_mul_of_nonneg_left e2 t0
    have b := Int.mul_le_mul_of_nonneg_right (show t ≤ 1048576 by omega) (show 0 ≤ P by omega)
    omega
  have h2 := fun w => Deadline_any E P (o + 1) w e1 e2 p2 (by omega) (by omega)
  have H2 := Lib.hid h2
  clear h2
  have h3 := fun w => Release_any E P (o + 1) w e1 e2 p2 (by omega) (by omega)
  have H3 := Lib.hid h3
  clear h3
  have h4 := fun w => Release_any E P (o + 2) w e1 e2 p2 (by omega) (by omega)
  have H4 := Lib.hid h4
  clear h4
  by_cases c1 : 0 < o
  · have h1 := fun w => Deadline_any E P o w e1 e2 p2 (by omega) (by omega)
    have H1 := Lib.hid h1
    clear h1
    go_enter Try.func8, Try.ntmps8
    go_wp2_with (first
      | (go_at_call 24; refine (awake04 _).mono ?_; rintro e w1 ⟨rfl, hb1⟩; have s_w1 := hb1.size; (try simp only [World.size_alloc, World.size_setCell, World.size_drew, sz_drewN] at s_w1); have z_w1_0_0 : w.heap.size < w1.heap.size := (by omega); have z_w1_0_1 : w.heap.size < w1.heap.size + 1 := (by omega); have z_w1_0_2 : w.heap.size < w1.heap.size + 1 + 1 := (by omega); have q_w1_0_0 : w1.cell? ⟨w.heap.size, 0, none⟩ = some (.int .i64 a00) := (hb1.cell (p := ⟨w.heap.size, 0, none⟩) (by first | (show w.heap.size < _; omega) | (show w.heap.size < _; simp; done) | (show w.heap.size < _; simp; omega))).trans (by first | assumption | (go_simp; done)); have q_w1_0_1 : w1.cell? ⟨w.heap.size, 1, none⟩ = some (.int .i64 a01) := (hb1.cell (p := ⟨w.heap.size, 1, none⟩) (by first | (show w.heap.size < _; omega) | (show w.heap.size < _; simp; done) | (show w.heap.size < _; simp; omega))).trans (by first | assumption | (go_simp; done)))
      | (go_at_call 25; refine (HM.out _).mono ?_; rintro e w2 ⟨rfl, hb2⟩; have s_w2 := hb2.size; (try simp only [World.size_alloc, World.size_setCell, World.size_drew, sz_drewN] at s_w2))
      | (go_at_call 28; (with_reducible refine (H1.out _).mono ?_); rintro e w3 ⟨rfl, hb3⟩; have s_w3 := hb3.size; (try simp only [World.size_alloc, World.size_setCell, World.size_drew, sz_drewN] at s_w3); have z_w3_0_0 : w2.heap.size < w3.heap.size := (by omega); have z_w3_0_1 : w2.heap.size < w3.heap.size + 1 := (by omega); have z_w3_0_2 : w2.heap.size < w3.heap.size + 1 + 1 := (by omega); have q_w3_0_0 : w3.cell? ⟨w2.heap.size, 0, none⟩ = some (.int .i64 E) := (hb3.cell (p := ⟨w2.heap.size, 0, none⟩) (by first | (show w2.heap.size < _; omega) | (show w2.heap.size < _; simp; done) | (show w2.heap.size < _; simp; omega))).trans (by first | assumption | (go_simp; done)); have q_w3_0_1 : w3.cell? ⟨w2.heap.size, 1, none⟩ = some (.int .i64 P) := (hb3.cell (p := ⟨w2.heap.size, 1, none⟩) (by first | (show w2.heap.size < _; omega) | (show w2.heap.size < _; simp; done) | (show w2.heap.size < _; simp; omega))).trans (by first | assumption | (go_simp; done)))
      | (go_at_call 28; (with_reducible refine (H2.out _).mono ?_); rintro e w4 ⟨rfl, hb4⟩; have s_w4 := hb4.size; (try simp only [World.size_alloc, World.size_setCell, World.size_drew, sz_drewN] at s_w4); have z_w4_0_0 : w2.heap.size < w4.heap.size := (by omega); have z_w4_0_1 : w2.heap.size < w4.heap.size + 1 := (by omega); have z_w4_0_2 : w2.heap.size < w4.heap.size + 1 + 1 := (by omega); have q_w4_0_0 : w4.cell? ⟨w2.heap.size, 0, none⟩ = some (.int .i64 E) := (hb4.cell (p := ⟨w2.heap.size, 0, none⟩) (by first | (show w2.heap.size < _; omega) | (show w2.heap.size < _; simp; done) | (show w2.heap.size < _; simp; omega))).trans (by first | assumption | (go_simp; done)); have q_w4_0_1 : w4.cell? ⟨w2.heap.size, 1, none⟩ = some (.int .i64 P) := (hb4.cell (p := ⟨w2.heap.size, 1, none⟩) (by first | (show w2.heap.size < _; omega) | (show w2.heap.size < _; simp; done) | (show w2.heap.size < _; simp; omega))).trans (by first | assumption | (go_simp; done)))
      | (go_at_call 29; (with_reducible refine (H3.out _).mono ?_); rintro e w5 ⟨rfl, hb5⟩; have s_w5 := hb5.size; (try simp only [World.size_alloc, World.size_setCell, World.size_drew, sz_drewN] at s_w5); have z_w5_0_0 : w2.heap.size < w5.heap.size := (by omega); have z_w5_0_1 : w2.heap.size < w5.heap.size + 1 := (by omega); have z_w5_0_2 : w2.heap.size < w5.heap.size + 1 + 1 := (by omega); have q_w5_0_0 : w5.cell? ⟨w2.heap.size, 0, none⟩ = some (.int .i64 E) := (hb5.cell (p := ⟨w2.heap.size, 0, none⟩) (by first | (show w2.heap.size < _; omega) | (show w2.heap.size < _; simp; done) | (show w2.heap.size < _; simp; omega))).trans (by first | assumption | (go_simp; done)); have q_w5_0_1 : w5.cell? ⟨w2.heap.size, 1, none⟩ = some (.int .i64 P) := (hb5.cell (p := ⟨w2.heap.size, 1, none⟩) (by first | (show w2.heap.size < _; omega) | (show w2.heap.size < _; simp; done) | (show w2.heap.size < _; simp; omega))).trans (by first | assumption | (go_simp; done)))
      | (go_at_call 29; (with_reducible refine (H4.out _).mono ?_); rintro e w6 ⟨rfl, hb6⟩))
    go_ret
    exact ⟨by first | rfl | simp [*], (by have s0_ := hb1.size; have s1_ := hb2.size; have s2_ := hb3.size; have s3_ := hb4.size; have s4_ := hb5.size; have s5_ := hb6.size; (try simp only [World.size_alloc, World.size_setCell, World.size_drew, sz_drewN] at s0_ s1_ s2_ s3_ s4_ s5_); repeat' (first | (with_reducible exact Below.refl _ _) | (with_reducible refine bel_call ?_ ?_ hb6) | (with_reducible refine bel_call ?_ ?_ hb5) | (with_reducible refine bel_call ?_ ?_ hb4) | (with_reducible refine bel_call ?_ ?_ hb3) | (with_reducible refine bel_call ?_ ?_ hb2) | (with_reducible refine bel_call ?_ ?_ hb1) | (with_reducible refine Below.alloc ?_ ?_ _) | (with_reducible refine below_drewN ?_ _) | (with_reducible refine Below.drew ?_) | (with_reducible refine Below.setCell ?_ ?_ _) | omega | (simp; omega) | (simp; done)))⟩
  · go_enter Try.func8, Try.ntmps8
    go_wp2_with (first
      | (go_at_call 24; refine (awake04 _).mono ?_; rintro e w1 ⟨rfl, hb1⟩; have s_w1 := hb1.size; (try simp only [World.size_alloc, World.size_setCell, World.size_drew, sz_drewN] at s_w1); have z_w1_0_0 : w.heap.size < w1.heap.size := (by omega); have z_w1_0_1 : w.heap.size < w1.heap.size + 1 := (by omega); have z_w1_0_2 : w.heap.size < w1.heap.size + 1 + 1 := (by omega); have q_w1_0_0 : w1.cell? ⟨w.heap.size, 0, none⟩ = some (.int .i64 a00) := (hb1.cell (p := ⟨w.heap.size, 0, none⟩) (by first | (show w.heap.size < _; omega) | (show w.heap.size < _; simp; done) | (show w.heap.size < _; simp; omega))).trans (by first | assumption | (go_simp; done)); have q_w1_0_1 : w1.cell? ⟨w.heap.size, 1, none⟩ = some (.int .i64 a01) := (hb1.cell (p := ⟨w.heap.size, 1, none⟩) (by first | (show w.heap.size < _; omega) | (show w.heap.size < _; simp; done) | (show w.heap.size < _; simp; omega))).trans (by first | assumption | (go_simp; done)))
      | (go_at_call 25; refine (HM.out _).mono ?_; rintro e w2 ⟨rfl, hb2⟩; have s_w2 := hb2.size; (try simp only [World.size_alloc, World.size_setCell, World.size_drew, sz_drewN] at s_w2))
      | (go_at_call 28; (with_reducible refine (H2.out _).mono ?_); rintro e w4 ⟨rfl, hb4⟩; have s_w4 := hb4.size; (try simp only [World.size_alloc, World.size_setCell, World.size_drew, sz_drewN] at s_w4); have z_w4_0_0 : w2.heap.size < w4.heap.size := (by omega); have z_w4_0_1 : w2.heap.size < w4.heap.size + 1 := (by omega); have z_w4_0_2 : w2.heap.size < w4.heap.size + 1 + 1 := (by omega); have q_w4_0_0 : w4.cell? ⟨w2.heap.size, 0, none⟩ = some (.int .i64 E) := (hb4.cell (p := ⟨w2.heap.size, 0, none⟩) (by first | (show w2.heap.size < _; omega) | (show w2.heap.size < _; simp; done) | (show w2.heap.size < _; simp; omega))).trans (by first | assumption | (go_simp; done)); have q_w4_0_1 : w4.cell? ⟨w2.heap.size, 1, none⟩ = some (.int .i64 P) := (hb4.cell (p := ⟨w2.heap.size, 1, none⟩) (by first | (show w2.heap.size < _; omega) | (show w2.heap.size < _; simp; done) | (show w2.heap.size < _; simp; omega))).trans (by first | assumption | (go_simp; done)))
      | (go_at_call 29; (with_reducible refine (H3.out _).mono ?_); rintro e w5 ⟨rfl, hb5⟩; have s_w5 := hb5.size; (try simp only [World.size_alloc, World.size_setCell, World.size_drew, sz_drewN] at s_w5); have z_w5_0_0 : w2.heap.size < w5.heap.size := (by omega); have z_w5_0_1 : w2.heap.size < w5.heap.size + 1 := (by omega); have z_w5_0_2 : w2.heap.size < w5.heap.size + 1 + 1 := (by omega); have q_w5_0_0 : w5.cell? ⟨w2.heap.size, 0, none⟩ = some (.int .i64 E) := (hb5.cell (p := ⟨w2.heap.size, 0, none⟩) (by first | (show w2.heap.size < _; omega) | (show w2.heap.size < _; simp; done) | (show w2.heap.size < _; simp; omega))).trans (by first | assumption | (go_simp; done)); have q_w5_0_1 : w5.cell? ⟨w2.heap.size, 1, none⟩ = some (.int .i64 P) := (hb5.cell (p := ⟨w2.heap.size, 1, none⟩) (by first | (show w2.heap.size < _; omega) | (show w2.heap.size < _; simp; done) | (show w2.heap.size < _; simp; omega))).trans (by first | assumption | (go_simp; done)))
      | (go_at_call 29; (with_reducible refine (H4.out _).mono ?_); rintro e w6 ⟨rfl, hb6⟩))
    go_ret
    exact ⟨by first | rfl | simp [*], (by have s0_ := hb1.size; have s1_ := hb2.size; have s2_ := hb4.size; have s3_ := hb5.size; have s4_ := hb6.size; (try simp only [World.size_alloc, World.size_setCell, World.size_drew, sz_drewN] at s0_ s1_ s2_ s3_ s4_); repeat' (first | (with_reducible exact Below.refl _ _) | (with_reducible refine bel_call ?_ ?_ hb6) | (with_reducible refine bel_call ?_ ?_ hb5) | (with_reducible refine bel_call ?_ ?_ hb4) | (with_reducible refine bel_call ?_ ?_ hb2) | (with_reducible refine bel_call ?_ ?_ hb1) | (with_reducible refine Below.alloc ?_ ?_ _) | (with_reducible refine below_drewN ?_ _) | (with_reducible refine Below.drew ?_) | (with_reducible refine Below.setCell ?_ ?_ _) | omega | (simp; omega) | (simp; done)))⟩
end Go.Proofs.Ytamonmhicjejoaa
