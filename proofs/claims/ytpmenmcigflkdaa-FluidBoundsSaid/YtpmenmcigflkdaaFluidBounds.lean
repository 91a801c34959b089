/- Plain lemmas and the walk of the law FluidBounds. -/
import Derived.Test.YtpmenmcigflkdaaFluidLaws
namespace Go.Proofs.Ytpmenmcigflkdaa
open Go.RowKit
set_option linter.unusedVariables false
set_option linter.unusedSimpArgs false

/-! ### FluidBounds -/
theorem bounds_of (E P t d : Int) (e1 : 1 ≤ E) (e2 : E ≤ P) (p2 : P ≤ 1048576) (t0 : 0 ≤ t) (t1 : t ≤ 1099511627775) (d0 : -9 ≤ d) (d1 : d ≤ 9) :
    ∃ L H : Int, E * t / P = L ∧ Win.up (E * t) P = H ∧ 0 ≤ L ∧ L ≤ 1099511627775 ∧ 0 ≤ H ∧ H ≤ 1099511627775 ∧
      (L + d < 0 → fairV E P t (L + d) = false) ∧ (0 ≤ L + d → fairV E P t (L + d) = (decide (L ≤ L + d) && decide (L + d ≤ H))) ∧ (H = L ∨ H = L + 1) ∧ ((H == L) = (E * t % P == 0)) ∧ 0 ≤ E * t ∧ E * t ≤ 1152921504606846976 := by
  obtain ⟨x0, x1⟩ := prod_bd (x := E) (y := t) (by omega) (by omega) t0 (by omega)
  refine ⟨_, _, rfl, rfl, ?_⟩
  have hE : E * t ≤ t * P := by rw [Int.mul_comm t P]; exact Int.mul_le_mul_of_nonneg_right e2 t0
  have l1 := Win.fl_le (E * t) P (by omega)
  have l2 := Win.lt_fl (E * t) P (by omega)
  have h1 := Win.up_ge (E * t) P (by omega)
  have h2 := Win.up_lt (E * t) P (by omega)
  have h3 : Win.up (E * t) P ≤ t := Win.up_le (by omega) hE
  have l3 : E * t / P ≤ t := by have := Win.le_of_mul (x := E * t / P) (y := t) (b := P) (by omega) (by omega); exact this
  have l4 : 0 ≤ E * t / P := Int.ediv_nonneg x0 (by omega)
  have h4 : 0 ≤ Win.up (E * t) P := Win.up_nonneg (by omega) x0
  have hm := Int.mul_ediv_add_emod (E * t) P
  have r0 := Int.emod_nonneg (E * t) (b := P) (by omega)
  have hc : P * (E * t / P) = E * t / P * P := Int.mul_comm _ _
  have up2 : Win.up (E * t) P = if E * t % P = 0 then E * t / P else E * t / P + 1 := by
    unfold Win.up
    split <;> split <;> omega
  generalize hL : E * t / P = L at *
  generalize hH : Win.up (E * t) P = H at *
  have hmay : may E P = true := by simp [may, e1, e2, p2]
  have hms : mayN t = true := by simp [mayN, t0]; omega
  refine ⟨l4, by omega, h4, by omega, fun h => ?_, fun h => ?_, ?_, ?_, x0, x1⟩
  · have : mayN (L + d) = false := by simp [mayN]; omega
    simp [fairV, this]
  · by_cases hbig : L + d ≤ 1099511627776
    · have hmq : mayN (L + d) = true := by simp [mayN, h, hbig]
      simp only [fairV, hmay, hms, hmq, Bool.and_true, Bool.true_and, fairB]
      have e : P * (L + d) = L * P + d * P := by rw [Int.mul_comm, Int.add_mul]
      rw [Bool.eq_iff_iff]
      simp only [Bool.and_eq_true, decide_eq_true_eq]
      rw [e]
      constructor
      · rintro ⟨a, b⟩
        have q1 : -1 < d := Win.lt_of_mul (b := P) (by omega) (by omega)
        have q2 : L + d < H + 1 := Win.lt_of_mul (b := P) (by omega) (by rw [Int.add_mul, Int.add_mul]; omega)
        omega
      · rintro ⟨a, b⟩
        have q1 : 0 ≤ d * P := Int.mul_nonneg (by omega) (by omega)
        have q2 := Int.mul_le_mul_of_nonneg_right b (show 0 ≤ P by omega)
        rw [Int.add_mul] at q2
        omega
    · have hmq : mayN (L + d) = false := by simp [mayN]; omega
      simp only [fairV, hmq, Bool.and_false, Bool.false_and]
      symm
      simp; omega
  · rw [up2]; split <;> omega
  · rw [up2, Bool.eq_iff_iff]; simp only [beq_iff_eq]; split <;> omega

set_option maxHeartbeats 3200000 in
theorem walk_FluidBounds (a00 a01 a1 a2 : Int) (w : World) (_f00 : (Lit.int .i64 a00).wf = true) (_f01 : (Lit.int .i64 a01).wf = true) (_f1 : (Lit.int .i64 a1).wf = true) (_f2 : (Lit.int .i64 a2).wf = true) :
    Calls Try.prog 7 #[.agg #[.int .i64 a00, .int .i64 a01], .int .i64 a1, .int .i64 a2] w fun e w' => e = .returned (.bool true) ∧ Below w.heap.size w w' := by
  obtain ⟨e3, p2⟩ := pOf_bd a01
  obtain ⟨e1, e2⟩ := eOf_bd a00 (pOf a01) e3
  have hm := fun w => made_any a00 a01 w
  generalize eOf a00 (pOf a01) = E at *
  generalize pOf a01 = P at *
  obtain ⟨t, ht, t0, t1⟩ := masked40 a1
  obtain ⟨d, hd, d0, d1⟩ : ∃ d, a2.tmod 10 = d ∧ -9 ≤ d ∧ d ≤ 9 := ⟨_, rfl, by have := Int.lt_tmod_of_pos a2 (b := 10) (by omega); omega, by have := Int.tmod_lt_of_pos a2 (b := 10) (by omega); omega⟩
  obtain ⟨L, H, k1, k2, l0, l1, h0, h1, F1, F2, F3, F4, x0, x1⟩ := bounds_of E P t d e1 e2 p2 t0 (by omega) d0 d1
  have hl := fun w => low_yes E P t w e1 e2 p2 t0 (by omega)
  have hh := fun w => high_yes E P t w e1 e2 p2 t0 (by omega)
  have hf := fun w => fair_any E P t (L + d) w
  rw [k1] at hl; rw [k2] at hh
  have HD := Lib.hid hd
  have HM := Lib.hid hm
  have HL := Lib.hid hl
  have HH := Lib.hid hh
  have G4 := Lib.hid F4
  clear k1 k2 hm hl hh F4
  by_cases c : L + d < 0
  · have hf' := hf
    rw [F1 c] at hf'
    have HF := Lib.hid hf'
    clear hf hf' F1 F2 F3
    go_enter Try.func7, Try.ntmps7
    go_wp2_with (first
      | (go_at_call 25; refine (awake09 _).mono ?_; rintro e w1 ⟨rfl, hb1⟩; have s_w1 := hb1.size; (try simp only [World.size_alloc, World.size_setCell, World.size_drew, sz_drewN] at s_w1); have z_w1_0_0 : w.heap.size < w1.heap.size := (by omega); have z_w1_0_1 : w.heap.size < w1.heap.size + 1 := (by omega); have z_w1_0_2 : w.heap.size < w1.heap.size + 1 + 1 := (by omega); have q_w1_0_0 : w1.cell? ⟨w.heap.size, 0, none⟩ = some (.int .i64 a00) := (hb1.cell (p := ⟨w.heap.size, 0, none⟩) (by first | (show w.heap.size < _; omega) | (show w.heap.size < _; simp; done) | (show w.heap.size < _; simp; omega))).trans (by first | assumption | (go_simp; done)); have q_w1_0_1 : w1.cell? ⟨w.heap.size, 1, none⟩ = some (.int .i64 a01) := (hb1.cell (p := ⟨w.heap.size, 1, none⟩) (by first | (show w.heap.size < _; omega) | (show w.heap.size < _; simp; done) | (show w.heap.size < _; simp; omega))).trans (by first | assumption | (go_simp; done)))
      | (go_at_call 26; refine (HM.out _).mono ?_; rintro e w2 ⟨rfl, hb2⟩; have s_w2 := hb2.size; (try simp only [World.size_alloc, World.size_setCell, World.size_drew, sz_drewN] at s_w2))
      | (go_at_call 27; (with_reducible refine (HL.out _).mono ?_); rintro e w3 ⟨rfl, hb3⟩; have s_w3 := hb3.size; (try simp only [World.size_alloc, World.size_setCell, World.size_drew, sz_drewN] at s_w3); have z_w3_0_0 : w2.heap.size < w3.heap.size := (by omega); have z_w3_0_1 : w2.heap.size < w3.heap.size + 1 := (by omega); have z_w3_0_2 : w2.heap.size < w3.heap.size + 1 + 1 := (by omega); have q_w3_0_0 : w3.cell? ⟨w2.heap.size, 0, none⟩ = some (.int .i64 E) := (hb3.cell (p := ⟨w2.heap.size, 0, none⟩) (by first | (show w2.heap.size < _; omega) | (show w2.heap.size < _; simp; done) | (show w2.heap.size < _; simp; omega))).trans (by first | assumption | (go_simp; done)); have q_w3_0_1 : w3.cell? ⟨w2.heap.size, 1, none⟩ = some (.int .i64 P) := (hb3.cell (p := ⟨w2.heap.size, 1, none⟩) (by first | (show w2.heap.size < _; omega) | (show w2.heap.size < _; simp; done) | (show w2.heap.size < _; simp; omega))).trans (by first | assumption | (go_simp; done)))
      | (go_at_call 28; (with_reducible refine (HH.out _).mono ?_); rintro e w4 ⟨rfl, hb4⟩; have s_w4 := hb4.size; (try simp only [World.size_alloc, World.size_setCell, World.size_drew, sz_drewN] at s_w4); have z_w4_0_0 : w2.heap.size < w4.heap.size := (by omega); have z_w4_0_1 : w2.heap.size < w4.heap.size + 1 := (by omega); have z_w4_0_2 : w2.heap.size < w4.heap.size + 1 + 1 := (by omega); have q_w4_0_0 : w4.cell? ⟨w2.heap.size, 0, none⟩ = some (.int .i64 E) := (hb4.cell (p := ⟨w2.heap.size, 0, none⟩) (by first | (show w2.heap.size < _; omega) | (show w2.heap.size < _; simp; done) | (show w2.heap.size < _; simp; omega))).trans (by first | assumption | (go_simp; done)); have q_w4_0_1 : w4.cell? ⟨w2.heap.size, 1, none⟩ = some (.int .i64 P) := (hb4.cell (p := ⟨w2.heap.size, 1, none⟩) (by first | (show w2.heap.size < _; omega) | (show w2.heap.size < _; simp; done) | (show w2.heap.size < _; simp; omega))).trans (by first | assumption | (go_simp; done)); have hd := HD.out)
      | (go_at_call 29; (with_reducible refine (HF.out _).mono ?_); rintro e w5 ⟨rfl, hb5⟩))
    go_ret
    exact ⟨by first | rfl | simp [*], (by have s0_ := hb1.size; have s1_ := hb2.size; have s2_ := hb3.size; have s3_ := hb4.size; have s4_ := hb5.size; (try simp only [World.size_alloc, World.size_setCell, World.size_drew, sz_drewN] at s0_ s1_ s2_ s3_ s4_); repeat' (first | (with_reducible exact Below.refl _ _) | (with_reducible refine bel_call ?_ ?_ hb5) | (with_reducible refine bel_call ?_ ?_ hb4) | (with_reducible refine bel_call ?_ ?_ hb3) | (with_reducible refine bel_call ?_ ?_ hb2) | (with_reducible refine bel_call ?_ ?_ hb1) | (with_reducible refine Below.alloc ?_ ?_ _) | (with_reducible refine below_drewN ?_ _) | (with_reducible refine Below.drew ?_) | (with_reducible refine Below.setCell ?_ ?_ _) | omega | (simp; omega) | (simp; done)))⟩
  · have hf' := hf
    rw [F2 (by omega)] at hf'
    have HF := Lib.hid hf'
    clear hf hf' F1 F2
    have c' : 0 ≤ L + d := by omega
    by_cases z : E * t % P = 0
    · have z' : (E * t % P == 0) = true := by simp [z]
      have hHL : (H == L) = true := by rw [G4.out]; exact z'
      have eHL : H = L := by simpa using hHL
      clear z hHL G4
      subst eHL
      by_cases y : H ≤ H + d <;> by_cases v : H + d ≤ H
      all_goals first
        | (exfalso; omega)
        | skip
      all_goals
        go_enter Try.func7, Try.ntmps7
        go_wp2_with (first
          | (go_at_call 25; refine (awake09 _).mono ?_; rintro e w1 ⟨rfl, hb1⟩; have s_w1 := hb1.size; (try simp only [World.size_alloc, World.size_setCell, World.size_drew, sz_drewN] at s_w1); have z_w1_0_0 : w.heap.size < w1.heap.size := (by omega); have z_w1_0_1 : w.heap.size < w1.heap.size + 1 := (by omega); have z_w1_0_2 : w.heap.size < w1.heap.size + 1 + 1 := (by omega); have q_w1_0_0 : w1.cell? ⟨w.heap.size, 0, none⟩ = some (.int .i64 a00) := (hb1.cell (p := ⟨w.heap.size, 0, none⟩) (by first | (show w.heap.size < _; omega) | (show w.heap.size < _; simp; done) | (show w.heap.size < _; simp; omega))).trans (by first | assumption | (go_simp; done)); have q_w1_0_1 : w1.cell? ⟨w.heap.size, 1, none⟩ = some (.int .i64 a01) := (hb1.cell (p := ⟨w.heap.size, 1, none⟩) (by first | (show w.heap.size < _; omega) | (show w.heap.size < _; simp; done) | (show w.heap.size < _; simp; omega))).trans (by first | assumption | (go_simp; done)))
          | (go_at_call 26; refine (HM.out _).mono ?_; rintro e w2 ⟨rfl, hb2⟩; have s_w2 := hb2.size; (try simp only [World.size_alloc, World.size_setCell, World.size_drew, sz_drewN] at s_w2))
          | (go_at_call 27; (with_reducible refine (HL.out _).mono ?_); rintro e w3 ⟨rfl, hb3⟩; have s_w3 := hb3.size; (try simp only [World.size_alloc, World.size_setCell, World.size_drew, sz_drewN] at s_w3); have z_w3_0_0 : w2.heap.size < w3.heap.size := (by omega); have z_w3_0_1 : w2.heap.size < w3.heap.size + 1 := (by omega); have z_w3_0_2 : w2.heap.size < w3.heap.size + 1 + 1 := (by omega); have q_w3_0_0 : w3.cell? ⟨w2.heap.size, 0, none⟩ = some (.int .i64 E) := (hb3.cell (p := ⟨w2.heap.size, 0, none⟩) (by first | (show w2.heap.size < _; omega) | (show w2.heap.size < _; simp; done) | (show w2.heap.size < _; simp; omega))).trans (by first | assumption | (go_simp; done)); have q_w3_0_1 : w3.cell? ⟨w2.heap.size, 1, none⟩ = some (.int .i64 P) := (hb3.cell (p := ⟨w2.heap.size, 1, none⟩) (by first | (show w2.heap.size < _; omega) | (show w2.heap.size < _; simp; done) | (show w2.heap.size < _; simp; omega))).trans (by first | assumption | (go_simp; done)))
          | (go_at_call 28; (with_reducible refine (HH.out _).mono ?_); rintro e w4 ⟨rfl, hb4⟩; have s_w4 := hb4.size; (try simp only [World.size_alloc, World.size_setCell, World.size_drew, sz_drewN] at s_w4); have z_w4_0_0 : w2.heap.size < w4.heap.size := (by omega); have z_w4_0_1 : w2.heap.size < w4.heap.size + 1 := (by omega); have z_w4_0_2 : w2.heap.size < w4.heap.size + 1 + 1 := (by omega); have q_w4_0_0 : w4.cell? ⟨w2.heap.size, 0, none⟩ = some (.int .i64 E) := (hb4.cell (p := ⟨w2.heap.size, 0, none⟩) (by first | (show w2.heap.size < _; omega) | (show w2.heap.size < _; simp; done) | (show w2.heap.size < _; simp; omega))).trans (by first | assumption | (go_simp; done)); have q_w4_0_1 : w4.cell? ⟨w2.heap.size, 1, none⟩ = some (.int .i64 P) := (hb4.cell (p := ⟨w2.heap.size, 1, none⟩) (by first | (show w2.heap.size < _; omega) | (show w2.heap.size < _; simp; done) | (show w2.heap.size < _; simp; omega))).trans (by first | assumption | (go_simp; done)); have hd := HD.out)
          | (go_at_call 29; (with_reducible refine (HF.out _).mono ?_); rintro e w5 ⟨rfl, hb5⟩; have s_w5 := hb5.size; (try simp only [World.size_alloc, World.size_setCell, World.size_drew, sz_drewN] at s_w5); have z_w5_0_0 : w2.heap.size < w5.heap.size := (by omega); have z_w5_0_1 : w2.heap.size < w5.heap.size + 1 := (by omega); have z_w5_0_2 : w2.heap.size < w5.heap.size + 1 + 1 := (by omega); have q_w5_0_0 : w5.cell? ⟨w2.heap.size, 0, none⟩ = some (.int .i64 E) := (hb5.cell (p := ⟨w2.heap.size, 0, none⟩) (by first | (show w2.heap.size < _; omega) | (show w2.heap.size < _; simp; done) | (show w2.heap.size < _; simp; omega))).trans (by first | assumption | (go_simp; done)); have q_w5_0_1 : w5.cell? ⟨w2.heap.size, 1, none⟩ = some (.int .i64 P) := (hb5.cell (p := ⟨w2.heap.size, 1, none⟩) (by first | (show w2.heap.size < _; omega) | (show w2.heap.size < _; simp; done) | (show w2.heap.size < _; simp; omega))).trans (by first | assumption | (go_simp; done))))
        go_ret
        exact ⟨by first | rfl | simp [*], (by have s0_ := hb1.size; have s1_ := hb2.size; have s2_ := hb3.size; have s3_ := hb4.size; have s4_ := hb5.size; (try simp only [World.size_alloc, World.size_setCell, World.size_drew, sz_drewN] at s0_ s1_ s2_ s3_ s4_); repeat' (first | (with_reducible exact Below.refl _ _) | (with_reducible refine bel_call ?_ ?_ hb5) | (with_reducible refine bel_call ?_ ?_ hb4) | (with_reducible refine bel_call ?_ ?_ hb3) | (with_reducible refine bel_call ?_ ?_ hb2) | (with_reducible refine bel_call ?_ ?_ hb1) | (with_reducible refine Below.alloc ?_ ?_ _) | (with_reducible refine below_drewN ?_ _) | (with_reducible refine Below.drew ?_) | (with_reducible refine Below.setCell ?_ ?_ _) | omega | (simp; omega) | (simp; done)))⟩
    · have z' : (E * t % P == 0) = false := by simp [z]
      have hHL : (H == L) = false := by rw [G4.out]; exact z'
      have eHL : H = L + 1 := by rcases F3 with h | h; (· rw [h] at hHL; simp at hHL); (· exact h)
      clear z hHL G4 F3
      subst eHL
      by_cases y : L ≤ L + d <;> by_cases v : L + d ≤ L + 1
      all_goals first
        | (exfalso; omega)
        | skip
      all_goals
        go_enter Try.func7, Try.ntmps7
        go_wp2_with (first
          | (go_at_call 25; refine (awake09 _).mono ?_; rintro e w1 ⟨rfl, hb1⟩; have s_w1 := hb1.size; (try simp only [World.size_alloc, World.size_setCell, World.size_drew, sz_drewN] at s_w1); have z_w1_0_0 : w.heap.size < w1.heap.size := (by omega); have z_w1_0_1 : w.heap.size < w1.heap.size + 1 := (by omega); have z_w1_0_2 : w.heap.size < w1.heap.size + 1 + 1 := (by omega); have q_w1_0_0 : w1.cell? ⟨w.heap.size, 0, none⟩ = some (.int .i64 a00) := (hb1.cell (p := ⟨w.heap.size, 0, none⟩) (by first | (show w.heap.size < _; omega) | (show w.heap.size < _; simp; done) | (show w.heap.size < _; simp; omega))).trans (by first | assumption | (go_simp; done)); have q_w1_0_1 : w1.cell? ⟨w.heap.size, 1, none⟩ = some (.int .i64 a01) := (hb1.cell (p := ⟨w.heap.size, 1, none⟩) (by first | (show w.heap.size < _; omega) | (show w.heap.size < _; simp; done) | (show w.heap.size < _; simp; omega))).trans (by first | assumption | (go_simp; done)))
          | (go_at_call 26; refine (HM.out _).mono ?_; rintro e w2 ⟨rfl, hb2⟩; have s_w2 := hb2.size; (try simp only [World.size_alloc, World.size_setCell, World.size_drew, sz_drewN] at s_w2))
          | (go_at_call 27; (with_reducible refine (HL.out _).mono ?_); rintro e w3 ⟨rfl, hb3⟩; have s_w3 := hb3.size; (try simp only [World.size_alloc, World.size_setCell, World.size_drew, sz_drewN] at s_w3); have z_w3_0_0 : w2.heap.size < w3.heap.size := (by omega); have z_w3_0_1 : w2.heap.size < w3.heap.size + 1 := (by omega); have z_w3_0_2 : w2.heap.size < w3.heap.size + 1 + 1 := (by omega); have q_w3_0_0 : w3.cell? ⟨w2.heap.size, 0, none⟩ = some (.int .i64 E) := (hb3.cell (p := ⟨w2.heap.size, 0, none⟩) (by first | (show w2.heap.size < _; omega) | (show w2.heap.size < _; simp; done) | (show w2.heap.size < _; simp; omega))).trans (by first | assumption | (go_simp; done)); have q_w3_0_1 : w3.cell? ⟨w2.heap.size, 1, none⟩ = some (.int .i64 P) := (hb3.cell (p := ⟨w2.heap.size, 1, none⟩) (by first | (show w2.heap.size < _; omega) | (show w2.heap.size < _; simp; done) | (show w2.heap.size < _; simp; omega))).trans (by first | assumption | (go_simp; done)))
          | (go_at_call 28; (with_reducible refine (HH.out _).mono ?_); rintro e w4 ⟨rfl, hb4⟩; have s_w4 := hb4.size; (try simp only [World.size_alloc, World.size_setCell, World.size_drew, sz_drewN] at s_w4); have z_w4_0_0 : w2.heap.size < w4.heap.size := (by omega); have z_w4_0_1 : w2.heap.size < w4.heap.size + 1 := (by omega); have z_w4_0_2 : w2.heap.size < w4.heap.size + 1 + 1 := (by omega); have q_w4_0_0 : w4.cell? ⟨w2.heap.size, 0, none⟩ = some (.int .i64 E) := (hb4.cell (p := ⟨w2.heap.size, 0, none⟩) (by first | (show w2.heap.size < _; omega) | (show w2.heap.size < _; simp; done) | (show w2.heap.size < _; simp; omega))).trans (by first | assumption | (go_simp; done)); have q_w4_0_1 : w4.cell? ⟨w2.heap.size, 1, none⟩ = some (.int .i64 P) := (hb4.cell (p := ⟨w2.heap.size, 1, none⟩) (by first | (show w2.heap.size < _; omega) | (show w2.heap.size < _; simp; done) | (show w2.heap.size < _; simp; omega))).trans (by first | assumption | (go_simp; done)); have hd := HD.out)
          | (go_at_call 29; (with_reducible refine (HF.out _).mono ?_); rintro e w5 ⟨rfl, hb5⟩; have s_w5 := hb5.size; (try simp only [World.size_alloc, World.size_setCell, World.size_drew, sz_drewN] at s_w5); have z_w5_0_0 : w2.heap.size < w5.heap.size := (by omega); have z_w5_0_1 : w2.heap.size < w5.heap.size + 1 := (by omega); have z_w5_0_2 : w2.heap.size < w5.heap.size + 1 + 1 := (by omega); have q_w5_0_0 : w5.cell? ⟨w2.heap.size, 0, none⟩ = some (.int .i64 E) := (hb5.cell (p := ⟨w2.heap.size, 0, none⟩) (by first | (show w2.heap.size < _; omega) | (show w2.heap.size < _; simp; done) | (show w2.heap.size < _; simp; omega))).trans (by first | assumption | (go_simp; done)); have q_w5_0_1 : w5.cell? ⟨w2.heap.size, 1, none⟩ = some (.int .i64 P) := (hb5.cell (p := ⟨w2.heap.size, 1, none⟩) (by first | (show w2.heap.size < _; omega) | (show w2.heap.size < _; simp; done) | (show w2.heap.size < _; simp; omega))).trans (by first | assumption | (go_simp; done))))
        go_ret
        exact ⟨by first | rfl | simp [*], (by have s0_ := hb1.size; have s1_ := hb2.size; have s2_ := hb3.size; have s3_ := hb4.size; have s4_ := hb5.size; (try simp only [World.size_alloc, World.size_setCell, World.size_drew, sz_drewN] at s0_ s1_ s2_ s3_ s4_); repeat' (first | (with_reducible exact Below.refl _ _) | (with_reducible refine bel_call ?_ ?_ hb5) | (with_reducible refine bel_call ?_ ?_ hb4) | (with_reducible refine bel_call ?_ ?_ hb3) | (with_reducible refine bel_call ?_ ?_ hb2) | (with_reducible refine bel_call ?_ ?_ hb1) | (with_reducible refine Below.alloc ?_ ?_ _) | (with_reducible refine below_drewN ?_ _) | (with_reducible refine Below.drew ?_) | (with_reducible refine Below.setCell ?_ ?_ _) | omega | (simp; omega) | (simp; done)))⟩
end Go.Proofs.Ytpmenmcigflkdaa
