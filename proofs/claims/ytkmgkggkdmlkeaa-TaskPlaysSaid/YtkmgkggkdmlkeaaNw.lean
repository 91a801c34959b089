/- Contracts of the stepper's New. -/
import Derived.Test.YtkmgkggkdmlkeaaNx
namespace Go.Proofs.Ytkmgkggkdmlkeaa
open Go.RowKit
set_option linter.unusedVariables false
set_option linter.unusedSimpArgs false

set_option maxHeartbeats 1600000 in
theorem new_no (E P off : Int) (w : World) (h : may E P = false ∨ off < 0 ∨ 2305843009213693952 < off) :
    Calls Try.prog 35 #[.agg #[.int .i64 E, .int .i64 P], .int .i64 off] w fun e w' => e = .returned (.pointer none) ∧ Below w.heap.size w w' := by
  by_cases hm : may E P = true
  · by_cases h0 : off < 0
    · go_enter Try.func35, Try.ntmps35
      go_wp2_with (go_at_call 33; (with_reducible refine (check_any E P _).mono ?_); rintro e w1 ⟨rfl, hb1⟩; have s_w1 := hb1.size; (try simp only [World.size_alloc, World.size_setCell, World.size_drew, sz_drewN] at s_w1); have z_w1_0_0 : w.heap.size < w1.heap.size := (by omega); have z_w1_0_1 : w.heap.size < w1.heap.size + 1 := (by omega); have z_w1_0_2 : w.heap.size < w1.heap.size + 1 + 1 := (by omega); have q_w1_0_0 : w1.cell? ⟨w.heap.size, 0, none⟩ = some (.int .i64 E) := (hb1.cell (p := ⟨w.heap.size, 0, none⟩) (by first | (show w.heap.size < _; omega) | (show w.heap.size < _; simp; done) | (show w.heap.size < _; simp; omega))).trans (by first | assumption | (go_simp; done)); have q_w1_0_1 : w1.cell? ⟨w.heap.size, 1, none⟩ = some (.int .i64 P) := (hb1.cell (p := ⟨w.heap.size, 1, none⟩) (by first | (show w.heap.size < _; omega) | (show w.heap.size < _; simp; done) | (show w.heap.size < _; simp; omega))).trans (by first | assumption | (go_simp; done)))
      go_ret
      exact ⟨rfl, (by have s0_ := hb1.size; (try simp only [World.size_alloc, World.size_setCell, World.size_drew, sz_drewN] at s0_); repeat' (first | (with_reducible exact Below.refl _ _) | (with_reducible refine bel_call ?_ ?_ hb1) | (with_reducible refine Below.alloc ?_ ?_ _) | (with_reducible refine below_drewN ?_ _) | (with_reducible refine Below.drew ?_) | (with_reducible refine Below.setCell ?_ ?_ _) | omega | (simp; omega) | (simp; done)))⟩
    · have h1 : 2305843009213693952 < off := by
        rcases h with h | h | h
        · rw [hm] at h; exact absurd h (by decide)
        · omega
        · exact h
      go_enter Try.func35, Try.ntmps35
      go_wp2_with (go_at_call 33; (with_reducible refine (check_any E P _).mono ?_); rintro e w1 ⟨rfl, hb1⟩; have s_w1 := hb1.size; (try simp only [World.size_alloc, World.size_setCell, World.size_drew, sz_drewN] at s_w1); have z_w1_0_0 : w.heap.size < w1.heap.size := (by omega); have z_w1_0_1 : w.heap.size < w1.heap.size + 1 := (by omega); have z_w1_0_2 : w.heap.size < w1.heap.size + 1 + 1 := (by omega); have q_w1_0_0 : w1.cell? ⟨w.heap.size, 0, none⟩ = some (.int .i64 E) := (hb1.cell (p := ⟨w.heap.size, 0, none⟩) (by first | (show w.heap.size < _; omega) | (show w.heap.size < _; simp; done) | (show w.heap.size < _; simp; omega))).trans (by first | assumption | (go_simp; done)); have q_w1_0_1 : w1.cell? ⟨w.heap.size, 1, none⟩ = some (.int .i64 P) := (hb1.cell (p := ⟨w.heap.size, 1, none⟩) (by first | (show w.heap.size < _; omega) | (show w.heap.size < _; simp; done) | (show w.heap.size < _; simp; omega))).trans (by first | assumption | (go_simp; done)))
      go_ret
      exact ⟨rfl, (by have s0_ := hb1.size; (try simp only [World.size_alloc, World.size_setCell, World.size_drew, sz_drewN] at s0_); repeat' (first | (with_reducible exact Below.refl _ _) | (with_reducible refine bel_call ?_ ?_ hb1) | (with_reducible refine Below.alloc ?_ ?_ _) | (with_reducible refine below_drewN ?_ _) | (with_reducible refine Below.drew ?_) | (with_reducible refine Below.setCell ?_ ?_ _) | omega | (simp; omega) | (simp; done)))⟩
  · have hm' : may E P = false := by simpa using hm
    clear hm h
    go_enter Try.func35, Try.ntmps35
    go_wp2_with (go_at_call 33; (with_reducible refine (check_any E P _).mono ?_); rintro e w1 ⟨rfl, hb1⟩; have s_w1 := hb1.size; (try simp only [World.size_alloc, World.size_setCell, World.size_drew, sz_drewN] at s_w1); have z_w1_0_0 : w.heap.size < w1.heap.size := (by omega); have z_w1_0_1 : w.heap.size < w1.heap.size + 1 := (by omega); have z_w1_0_2 : w.heap.size < w1.heap.size + 1 + 1 := (by omega); have q_w1_0_0 : w1.cell? ⟨w.heap.size, 0, none⟩ = some (.int .i64 E) := (hb1.cell (p := ⟨w.heap.size, 0, none⟩) (by first | (show w.heap.size < _; omega) | (show w.heap.size < _; simp; done) | (show w.heap.size < _; simp; omega))).trans (by first | assumption | (go_simp; done)); have q_w1_0_1 : w1.cell? ⟨w.heap.size, 1, none⟩ = some (.int .i64 P) := (hb1.cell (p := ⟨w.heap.size, 1, none⟩) (by first | (show w.heap.size < _; omega) | (show w.heap.size < _; simp; done) | (show w.heap.size < _; simp; omega))).trans (by first | assumption | (go_simp; done)))
    go_ret
    exact ⟨rfl, (by have s0_ := hb1.size; (try simp only [World.size_alloc, World.size_setCell, World.size_drew, sz_drewN] at s0_); repeat' (first | (with_reducible exact Below.refl _ _) | (with_reducible refine bel_call ?_ ?_ hb1) | (with_reducible refine Below.alloc ?_ ?_ _) | (with_reducible refine below_drewN ?_ _) | (with_reducible refine Below.drew ?_) | (with_reducible refine Below.setCell ?_ ?_ _) | omega | (simp; omega) | (simp; done)))⟩

theorem st_zero (b : Nat) (E P off : Int) (w : World) (e1 : 1 ≤ E) (h0 : w.cell? ⟨b, 0, none⟩ = some (.int .i64 (E))) (h1 : w.cell? ⟨b, 1, none⟩ = some (.int .i64 (P))) (h2 : w.cell? ⟨b, 2, none⟩ = some (.int .i64 (off))) (h3 : w.cell? ⟨b, 3, none⟩ = some (.int .i64 (0))) (h4 : w.cell? ⟨b, 4, none⟩ = some (.int .i64 (P / E))) (h5 : w.cell? ⟨b, 5, none⟩ = some (.int .i64 (P % E))) (h6 : w.cell? ⟨b, 6, none⟩ = some (.int .i64 (0))) (h7 : w.cell? ⟨b, 7, none⟩ = some (.int .i64 (0))) (h8 : w.cell? ⟨b, 8, none⟩ = some (.int .i64 (E))) (h9 : w.cell? ⟨b, 9, none⟩ = some (.int .i64 (glong E P))) (h10 : w.cell? ⟨b, 10, none⟩ = some (.int .i64 (gpart E P))) (h11 : w.cell? ⟨b, 11, none⟩ = some (.int .i64 (0))) (h12 : w.cell? ⟨b, 12, none⟩ = some (.int .i64 (0))) (h13 : w.cell? ⟨b, 13, none⟩ = some (.int .i64 (gof E P))) (h14 : w.cell? ⟨b, 14, none⟩ = some (.int .i64 (0))) (h15 : w.cell? ⟨b, 15, none⟩ = some (.int .i64 (0))) (h16 : w.cell? ⟨b, 16, none⟩ = some (.int .i64 (0))) (h17 : w.cell? ⟨b, 17, none⟩ = some (.int .i64 (0))) (h18 : w.cell? ⟨b, 18, none⟩ = some (.int .i64 (0))) (hf : ∀ o, w.frozen? ⟨b, o, none⟩ = false) (hs : b < w.heap.size) : St w b E P off 0 0 0 0 0 0 := by
  have z1 : (0 * P / E : Int) = 0 := by simp
  have z2 : (0 * P % E : Int) = 0 := by simp
  have k0 := Win.kk_zero E P (by omega)
  have z3 : gwh E P 0 = 0 := by unfold gwh; split <;> simp
  have z4 : glf E P 0 = 0 := by unfold glf; split <;> simp
  unfold St
  rw [k0, z1, z2, z3, z4]
  exact ⟨h0, h1, h2, h3, h4, h5, h6, h7, h8, h9, h10, h11, h12, h13, h14, h15, h16, h17, h18, hf, hs⟩

set_option maxHeartbeats 3200000 in
theorem new_full (E P off : Int) (w : World) (e1 : 1 ≤ E) (e2 : E ≤ P) (e3 : P ≤ 1048576) (o0 : 0 ≤ off) (o1 : off ≤ 2305843009213693952) (c : E = P) :
    Calls Try.prog 35 #[.agg #[.int .i64 E, .int .i64 P], .int .i64 off] w fun e w' => (∃ b, w.heap.size ≤ b ∧ e = .returned (.pointer (some ⟨b, 0, none⟩)) ∧ Sn w' b E P off 1) ∧ Below w.heap.size w w' := by
  have hm : may E P = true := by simp [may, e1, e2, e3]
  have q3 : P ≤ E := by omega
  have z1 : glong E P = 0 := if_neg (by omega)
  have z2 : gpart E P = 0 := if_neg (by omega)
  have z3 : gof E P = 0 := if_neg (by omega)
  clear c
  have q1 : ¬ off < 0 := by omega
  have q2 : ¬ 2305843009213693952 < off := by omega
  have g1 : ¬ E = 0 := by omega
  have g2 : (E == 0) = false := by rw [beq_eq_false_iff_ne]; omega
  have t1 : P.tdiv E = P / E := Int.tdiv_eq_ediv_of_nonneg (by omega)
  have t2 : P.tmod E = P % E := Int.tmod_eq_emod_of_nonneg (by omega)
  have t3 : 0 ≤ P / E := Int.ediv_nonneg (by omega) (by omega)
  have t4 : P / E ≤ P := Int.ediv_le_self _ (by omega)
  have t5 : 0 ≤ P % E := Int.emod_nonneg _ (by omega)
  have t6 : P % E < E := Int.emod_lt_of_pos _ (by omega)
  have t7 : IntKind.i64.wrap (P / E) = P / E := IntWalk.i64_in _ (by omega)
  go_enter Try.func35, Try.ntmps35
  go_wp2_with (go_at_call 33; (with_reducible refine (check_any E P _).mono ?_); rintro e w1 ⟨rfl, hb1⟩; have s_w1 := hb1.size; (try simp only [World.size_alloc, World.size_setCell, World.size_drew, sz_drewN] at s_w1); have z_w1_0_0 : w.heap.size < w1.heap.size := (by omega); have z_w1_0_1 : w.heap.size < w1.heap.size + 1 := (by omega); have z_w1_0_2 : w.heap.size < w1.heap.size + 1 + 1 := (by omega); have q_w1_0_0 : w1.cell? ⟨w.heap.size, 0, none⟩ = some (.int .i64 E) := (hb1.cell (p := ⟨w.heap.size, 0, none⟩) (by first | (show w.heap.size < _; omega) | (show w.heap.size < _; simp; done) | (show w.heap.size < _; simp; omega))).trans (by first | assumption | (go_simp; done)); have q_w1_0_1 : w1.cell? ⟨w.heap.size, 1, none⟩ = some (.int .i64 P) := (hb1.cell (p := ⟨w.heap.size, 1, none⟩) (by first | (show w.heap.size < _; omega) | (show w.heap.size < _; simp; done) | (show w.heap.size < _; simp; omega))).trans (by first | assumption | (go_simp; done)))
  go_still_tail 16, (by kernel_rfl)
  change wpList _ _ _ _ _ w1.drew
  go_wp2_with (first
    | (go_at_call 43; (with_reducible refine (heavy_yes E P _ e1 e2 e3 (by omega)).mono ?_); rintro e w2 ⟨rfl, hb2⟩; have s2 := hb2.size; (try simp only [World.size_alloc, World.size_setCell, World.size_drew, sz_drewN] at s2); obtain ⟨hc2, hf2⟩ := bcell hb2; have y0 : w2.cell? ⟨w1.heap.size, 0, none⟩ = some (.int .i64 (E)) := (hc2 w1.heap.size 0 (by first | (simp; done) | (simp; omega))).trans (by go_simp); have y1 : w2.cell? ⟨w1.heap.size, 1, none⟩ = some (.int .i64 (P)) := (hc2 w1.heap.size 1 (by first | (simp; done) | (simp; omega))).trans (by go_simp); have y2 : w2.cell? ⟨w1.heap.size, 2, none⟩ = some (.int .i64 (off)) := (hc2 w1.heap.size 2 (by first | (simp; done) | (simp; omega))).trans (by go_simp); have y3 : w2.cell? ⟨w1.heap.size, 3, none⟩ = some (.int .i64 (0)) := (hc2 w1.heap.size 3 (by first | (simp; done) | (simp; omega))).trans (by go_simp); have y4 : w2.cell? ⟨w1.heap.size, 4, none⟩ = some (.int .i64 (P / E)) := (hc2 w1.heap.size 4 (by first | (simp; done) | (simp; omega))).trans (by go_simp); have y5 : w2.cell? ⟨w1.heap.size, 5, none⟩ = some (.int .i64 (P % E)) := (hc2 w1.heap.size 5 (by first | (simp; done) | (simp; omega))).trans (by go_simp); have y6 : w2.cell? ⟨w1.heap.size, 6, none⟩ = some (.int .i64 (0)) := (hc2 w1.heap.size 6 (by first | (simp; done) | (simp; omega))).trans (by go_simp); have y7 : w2.cell? ⟨w1.heap.size, 7, none⟩ = some (.int .i64 (0)) := (hc2 w1.heap.size 7 (by first | (simp; done) | (simp; omega))).trans (by go_simp); have y8 : w2.cell? ⟨w1.heap.size, 8, none⟩ = some (.int .i64 (E)) := (hc2 w1.heap.size 8 (by first | (simp; done) | (simp; omega))).trans (by go_simp); have y9 : w2.cell? ⟨w1.heap.size, 9, none⟩ = some (.int .i64 (0)) := (hc2 w1.heap.size 9 (by first | (simp; done) | (simp; omega))).trans (by go_simp); have y10 : w2.cell? ⟨w1.heap.size, 10, none⟩ = some (.int .i64 (0)) := (hc2 w1.heap.size 10 (by first | (simp; done) | (simp; omega))).trans (by go_simp); have y11 : w2.cell? ⟨w1.heap.size, 11, none⟩ = some (.int .i64 (0)) := (hc2 w1.heap.size 11 (by first | (simp; done) | (simp; omega))).trans (by go_simp); have y12 : w2.cell? ⟨w1.heap.size, 12, none⟩ = some (.int .i64 (0)) := (hc2 w1.heap.size 12 (by first | (simp; done) | (simp; omega))).trans (by go_simp); have y13 : w2.cell? ⟨w1.heap.size, 13, none⟩ = some (.int .i64 (0)) := (hc2 w1.heap.size 13 (by first | (simp; done) | (simp; omega))).trans (by go_simp); have y14 : w2.cell? ⟨w1.heap.size, 14, none⟩ = some (.int .i64 (0)) := (hc2 w1.heap.size 14 (by first | (simp; done) | (simp; omega))).trans (by go_simp); have y15 : w2.cell? ⟨w1.heap.size, 15, none⟩ = some (.int .i64 (0)) := (hc2 w1.heap.size 15 (by first | (simp; done) | (simp; omega))).trans (by go_simp); have y16 : w2.cell? ⟨w1.heap.size, 16, none⟩ = some (.int .i64 (0)) := (hc2 w1.heap.size 16 (by first | (simp; done) | (simp; omega))).trans (by go_simp); have y17 : w2.cell? ⟨w1.heap.size, 17, none⟩ = some (.int .i64 (0)) := (hc2 w1.heap.size 17 (by first | (simp; done) | (simp; omega))).trans (by go_simp); have y18 : w2.cell? ⟨w1.heap.size, 18, none⟩ = some (.int .i64 (0)) := (hc2 w1.heap.size 18 (by first | (simp; done) | (simp; omega))).trans (by go_simp); have yw0 : w2.cell? ⟨w.heap.size, 0, none⟩ = some (.int .i64 (E)) := (hc2 w.heap.size 0 (by first | (simp; done) | (simp; omega))).trans (by go_simp); have yw1 : w2.cell? ⟨w.heap.size, 1, none⟩ = some (.int .i64 (P)) := (hc2 w.heap.size 1 (by first | (simp; done) | (simp; omega))).trans (by go_simp); have yf : ∀ o, w2.frozen? ⟨w1.heap.size, o, none⟩ = false := (fun o => (hf2 w1.heap.size o (by first | (simp; done) | (simp; omega))).trans (by go_simp)); have w12 : w1.heap.size < w2.heap.size := (by omega); clear hc2 hf2)
    | (go_at_call 44; (with_reducible refine (adv_any _ E P off 0 0 0 0 0 0 _ ?_ e1 e2 e3 (by omega) (by omega)).mono ?_); (focus (refine st_zero _ E P off _ e1 ?_ ?_ ?_ ?_ ?_ ?_ ?_ ?_ ?_ ?_ ?_ ?_ ?_ ?_ ?_ ?_ ?_ ?_ ?_ ?_ ?_ <;> first | (go_simp; done) | (intro o; go_simp; done) | (simp; omega))); rintro e w3 ⟨rfl, hsn, ho⟩; have HN := Lib.hid hsn; clear hsn))
  go_ret
  exact ⟨⟨w1.heap.size, by omega, rfl, HN.out⟩, bel_only (b := w1.heap.size) (by have s0_ := hb1.size; have s1_ := hb2.size; (try simp only [World.size_alloc, World.size_setCell, World.size_drew, sz_drewN] at s0_ s1_); repeat' (first | (with_reducible exact Below.refl _ _) | (with_reducible refine bel_call ?_ ?_ hb2) | (with_reducible refine bel_call ?_ ?_ hb1) | (with_reducible refine Below.alloc ?_ ?_ _) | (with_reducible refine below_drewN ?_ _) | (with_reducible refine Below.drew ?_) | (with_reducible refine Below.setCell ?_ ?_ _) | omega | (simp; omega) | (simp; done))) (by first | (simp; done) | (simp; omega) | omega) (by omega) ho⟩

set_option maxHeartbeats 3200000 in
theorem new_light (E P off : Int) (w : World) (e1 : 1 ≤ E) (e2 : E ≤ P) (e3 : P ≤ 1048576) (o0 : 0 ≤ off) (o1 : off ≤ 2305843009213693952) (c : P - E > E) :
    Calls Try.prog 35 #[.agg #[.int .i64 E, .int .i64 P], .int .i64 off] w fun e w' => (∃ b, w.heap.size ≤ b ∧ e = .returned (.pointer (some ⟨b, 0, none⟩)) ∧ Sn w' b E P off 1) ∧ Below w.heap.size w w' := by
  have hm : may E P = true := by simp [may, e1, e2, e3]
  have q3 : ¬ P - E ≤ E := by omega
  have z1 : glong E P = 0 := if_neg (by omega)
  have z2 : gpart E P = 0 := if_neg (by omega)
  have z3 : gof E P = 0 := if_neg (by omega)
  clear c
  have q1 : ¬ off < 0 := by omega
  have q2 : ¬ 2305843009213693952 < off := by omega
  have g1 : ¬ E = 0 := by omega
  have g2 : (E == 0) = false := by rw [beq_eq_false_iff_ne]; omega
  have t1 : P.tdiv E = P / E := Int.tdiv_eq_ediv_of_nonneg (by omega)
  have t2 : P.tmod E = P % E := Int.tmod_eq_emod_of_nonneg (by omega)
  have t3 : 0 ≤ P / E := Int.ediv_nonneg (by omega) (by omega)
  have t4 : P / E ≤ P := Int.ediv_le_self _ (by omega)
  have t5 : 0 ≤ P % E := Int.emod_nonneg _ (by omega)
  have t6 : P % E < E := Int.emod_lt_of_pos _ (by omega)
  have t7 : IntKind.i64.wrap (P / E) = P / E := IntWalk.i64_in _ (by omega)
  go_enter Try.func35, Try.ntmps35
  go_wp2_with (go_at_call 33; (with_reducible refine (check_any E P _).mono ?_); rintro e w1 ⟨rfl, hb1⟩; have s_w1 := hb1.size; (try simp only [World.size_alloc, World.size_setCell, World.size_drew, sz_drewN] at s_w1); have z_w1_0_0 : w.heap.size < w1.heap.size := (by omega); have z_w1_0_1 : w.heap.size < w1.heap.size + 1 := (by omega); have z_w1_0_2 : w.heap.size < w1.heap.size + 1 + 1 := (by omega); have q_w1_0_0 : w1.cell? ⟨w.heap.size, 0, none⟩ = some (.int .i64 E) := (hb1.cell (p := ⟨w.heap.size, 0, none⟩) (by first | (show w.heap.size < _; omega) | (show w.heap.size < _; simp; done) | (show w.heap.size < _; simp; omega))).trans (by first | assumption | (go_simp; done)); have q_w1_0_1 : w1.cell? ⟨w.heap.size, 1, none⟩ = some (.int .i64 P) := (hb1.cell (p := ⟨w.heap.size, 1, none⟩) (by first | (show w.heap.size < _; omega) | (show w.heap.size < _; simp; done) | (show w.heap.size < _; simp; omega))).trans (by first | assumption | (go_simp; done)))
  go_still_tail 16, (by kernel_rfl)
  change wpList _ _ _ _ _ w1.drew
  go_wp2_with (first
    | (go_at_call 43; (with_reducible refine (heavy_no E P _ e1 e2 e3 (by omega)).mono ?_); rintro e w2 ⟨rfl, hb2⟩; have s2 := hb2.size; (try simp only [World.size_alloc, World.size_setCell, World.size_drew, sz_drewN] at s2); obtain ⟨hc2, hf2⟩ := bcell hb2; have y0 : w2.cell? ⟨w1.heap.size, 0, none⟩ = some (.int .i64 (E)) := (hc2 w1.heap.size 0 (by first | (simp; done) | (simp; omega))).trans (by go_simp); have y1 : w2.cell? ⟨w1.heap.size, 1, none⟩ = some (.int .i64 (P)) := (hc2 w1.heap.size 1 (by first | (simp; done) | (simp; omega))).trans (by go_simp); have y2 : w2.cell? ⟨w1.heap.size, 2, none⟩ = some (.int .i64 (off)) := (hc2 w1.heap.size 2 (by first | (simp; done) | (simp; omega))).trans (by go_simp); have y3 : w2.cell? ⟨w1.heap.size, 3, none⟩ = some (.int .i64 (0)) := (hc2 w1.heap.size 3 (by first | (simp; done) | (simp; omega))).trans (by go_simp); have y4 : w2.cell? ⟨w1.heap.size, 4, none⟩ = some (.int .i64 (P / E)) := (hc2 w1.heap.size 4 (by first | (simp; done) | (simp; omega))).trans (by go_simp); have y5 : w2.cell? ⟨w1.heap.size, 5, none⟩ = some (.int .i64 (P % E)) := (hc2 w1.heap.size 5 (by first | (simp; done) | (simp; omega))).trans (by go_simp); have y6 : w2.cell? ⟨w1.heap.size, 6, none⟩ = some (.int .i64 (0)) := (hc2 w1.heap.size 6 (by first | (simp; done) | (simp; omega))).trans (by go_simp); have y7 : w2.cell? ⟨w1.heap.size, 7, none⟩ = some (.int .i64 (0)) := (hc2 w1.heap.size 7 (by first | (simp; done) | (simp; omega))).trans (by go_simp); have y8 : w2.cell? ⟨w1.heap.size, 8, none⟩ = some (.int .i64 (E)) := (hc2 w1.heap.size 8 (by first | (simp; done) | (simp; omega))).trans (by go_simp); have y9 : w2.cell? ⟨w1.heap.size, 9, none⟩ = some (.int .i64 (0)) := (hc2 w1.heap.size 9 (by first | (simp; done) | (simp; omega))).trans (by go_simp); have y10 : w2.cell? ⟨w1.heap.size, 10, none⟩ = some (.int .i64 (0)) := (hc2 w1.heap.size 10 (by first | (simp; done) | (simp; omega))).trans (by go_simp); have y11 : w2.cell? ⟨w1.heap.size, 11, none⟩ = some (.int .i64 (0)) := (hc2 w1.heap.size 11 (by first | (simp; done) | (simp; omega))).trans (by go_simp); have y12 : w2.cell? ⟨w1.heap.size, 12, none⟩ = some (.int .i64 (0)) := (hc2 w1.heap.size 12 (by first | (simp; done) | (simp; omega))).trans (by go_simp); have y13 : w2.cell? ⟨w1.heap.size, 13, none⟩ = some (.int .i64 (0)) := (hc2 w1.heap.size 13 (by first | (simp; done) | (simp; omega))).trans (by go_simp); have y14 : w2.cell? ⟨w1.heap.size, 14, none⟩ = some (.int .i64 (0)) := (hc2 w1.heap.size 14 (by first | (simp; done) | (simp; omega))).trans (by go_simp); have y15 : w2.cell? ⟨w1.heap.size, 15, none⟩ = some (.int .i64 (0)) := (hc2 w1.heap.size 15 (by first | (simp; done) | (simp; omega))).trans (by go_simp); have y16 : w2.cell? ⟨w1.heap.size, 16, none⟩ = some (.int .i64 (0)) := (hc2 w1.heap.size 16 (by first | (simp; done) | (simp; omega))).trans (by go_simp); have y17 : w2.cell? ⟨w1.heap.size, 17, none⟩ = some (.int .i64 (0)) := (hc2 w1.heap.size 17 (by first | (simp; done) | (simp; omega))).trans (by go_simp); have y18 : w2.cell? ⟨w1.heap.size, 18, none⟩ = some (.int .i64 (0)) := (hc2 w1.heap.size 18 (by first | (simp; done) | (simp; omega))).trans (by go_simp); have yw0 : w2.cell? ⟨w.heap.size, 0, none⟩ = some (.int .i64 (E)) := (hc2 w.heap.size 0 (by first | (simp; done) | (simp; omega))).trans (by go_simp); have yw1 : w2.cell? ⟨w.heap.size, 1, none⟩ = some (.int .i64 (P)) := (hc2 w.heap.size 1 (by first | (simp; done) | (simp; omega))).trans (by go_simp); have yf : ∀ o, w2.frozen? ⟨w1.heap.size, o, none⟩ = false := (fun o => (hf2 w1.heap.size o (by first | (simp; done) | (simp; omega))).trans (by go_simp)); have w12 : w1.heap.size < w2.heap.size := (by omega); clear hc2 hf2)
    | (go_at_call 44; (with_reducible refine (adv_any _ E P off 0 0 0 0 0 0 _ ?_ e1 e2 e3 (by omega) (by omega)).mono ?_); (focus (refine st_zero _ E P off _ e1 ?_ ?_ ?_ ?_ ?_ ?_ ?_ ?_ ?_ ?_ ?_ ?_ ?_ ?_ ?_ ?_ ?_ ?_ ?_ ?_ ?_ <;> first | (go_simp; done) | (intro o; go_simp; done) | (simp; omega))); rintro e w3 ⟨rfl, hsn, ho⟩; have HN := Lib.hid hsn; clear hsn))
  go_ret
  exact ⟨⟨w1.heap.size, by omega, rfl, HN.out⟩, bel_only (b := w1.heap.size) (by have s0_ := hb1.size; have s1_ := hb2.size; (try simp only [World.size_alloc, World.size_setCell, World.size_drew, sz_drewN] at s0_ s1_); repeat' (first | (with_reducible exact Below.refl _ _) | (with_reducible refine bel_call ?_ ?_ hb2) | (with_reducible refine bel_call ?_ ?_ hb1) | (with_reducible refine Below.alloc ?_ ?_ _) | (with_reducible refine below_drewN ?_ _) | (with_reducible refine Below.drew ?_) | (with_reducible refine Below.setCell ?_ ?_ _) | omega | (simp; omega) | (simp; done))) (by first | (simp; done) | (simp; omega) | omega) (by omega) ho⟩

set_option maxHeartbeats 3200000 in
theorem new_heavy (E P off : Int) (w : World) (e1 : 1 ≤ E) (e2 : E ≤ P) (e3 : P ≤ 1048576) (o0 : 0 ≤ off) (o1 : off ≤ 2305843009213693952) (c : E < P) (d : P - E ≤ E) :
    Calls Try.prog 35 #[.agg #[.int .i64 E, .int .i64 P], .int .i64 off] w fun e w' => (∃ b, w.heap.size ≤ b ∧ e = .returned (.pointer (some ⟨b, 0, none⟩)) ∧ Sn w' b E P off 1) ∧ Below w.heap.size w w' := by
  have hm : may E P = true := by simp [may, e1, e2, e3]
  have z1 : glong E P = P / (P - E) := if_pos ⟨c, d⟩
  have z2 : gpart E P = P % (P - E) := if_pos ⟨c, d⟩
  have z3 : gof E P = P - E := if_pos ⟨c, d⟩
  have v1 : P.tdiv (P - E) = P / (P - E) := Int.tdiv_eq_ediv_of_nonneg (by omega)
  have v2 : P.tmod (P - E) = P % (P - E) := Int.tmod_eq_emod_of_nonneg (by omega)
  have v3 : 0 ≤ P / (P - E) := Int.ediv_nonneg (by omega) (by omega)
  have v4 : P / (P - E) ≤ P := Int.ediv_le_self _ (by omega)
  have v5 : 0 ≤ P % (P - E) := Int.emod_nonneg _ (by omega)
  have v6 : P % (P - E) < P - E := Int.emod_lt_of_pos _ (by omega)
  have v7 : IntKind.i64.wrap (P / (P - E)) = P / (P - E) := IntWalk.i64_in _ (by omega)
  have v8 : ¬ P - E = 0 := by omega
  have v9 : (P - E == 0) = false := by rw [beq_eq_false_iff_ne]; omega
  have q1 : ¬ off < 0 := by omega
  have q2 : ¬ 2305843009213693952 < off := by omega
  have g1 : ¬ E = 0 := by omega
  have g2 : (E == 0) = false := by rw [beq_eq_false_iff_ne]; omega
  have t1 : P.tdiv E = P / E := Int.tdiv_eq_ediv_of_nonneg (by omega)
  have t2 : P.tmod E = P % E := Int.tmod_eq_emod_of_nonneg (by omega)
  have t3 : 0 ≤ P / E := Int.ediv_nonneg (by omega) (by omega)
  have t4 : P / E ≤ P := Int.ediv_le_self _ (by omega)
  have t5 : 0 ≤ P % E := Int.emod_nonneg _ (by omega)
  have t6 : P % E < E := Int.emod_lt_of_pos _ (by omega)
  have t7 : IntKind.i64.wrap (P / E) = P / E := IntWalk.i64_in _ (by omega)
  go_enter Try.func35, Try.ntmps35
  go_wp2_with (go_at_call 33; (with_reducible refine (check_any E P _).mono ?_); rintro e w1 ⟨rfl, hb1⟩; have s_w1 := hb1.size; (try simp only [World.size_alloc, World.size_setCell, World.size_drew, sz_drewN] at s_w1); have z_w1_0_0 : w.heap.size < w1.heap.size := (by omega); have z_w1_0_1 : w.heap.size < w1.heap.size + 1 := (by omega); have z_w1_0_2 : w.heap.size < w1.heap.size + 1 + 1 := (by omega); have q_w1_0_0 : w1.cell? ⟨w.heap.size, 0, none⟩ = some (.int .i64 E) := (hb1.cell (p := ⟨w.heap.size, 0, none⟩) (by first | (show w.heap.size < _; omega) | (show w.heap.size < _; simp; done) | (show w.heap.size < _; simp; omega))).trans (by first | assumption | (go_simp; done)); have q_w1_0_1 : w1.cell? ⟨w.heap.size, 1, none⟩ = some (.int .i64 P) := (hb1.cell (p := ⟨w.heap.size, 1, none⟩) (by first | (show w.heap.size < _; omega) | (show w.heap.size < _; simp; done) | (show w.heap.size < _; simp; omega))).trans (by first | assumption | (go_simp; done)))
  go_still_tail 16, (by kernel_rfl)
  change wpList _ _ _ _ _ w1.drew
  go_wp2_with (first
    | (go_at_call 43; (with_reducible refine (heavy_yes E P _ e1 e2 e3 d).mono ?_); rintro e w2 ⟨rfl, hb2⟩; have s2 := hb2.size; (try simp only [World.size_alloc, World.size_setCell, World.size_drew, sz_drewN] at s2); obtain ⟨hc2, hf2⟩ := bcell hb2; have y0 : w2.cell? ⟨w1.heap.size, 0, none⟩ = some (.int .i64 (E)) := (hc2 w1.heap.size 0 (by first | (simp; done) | (simp; omega))).trans (by go_simp); have y1 : w2.cell? ⟨w1.heap.size, 1, none⟩ = some (.int .i64 (P)) := (hc2 w1.heap.size 1 (by first | (simp; done) | (simp; omega))).trans (by go_simp); have y2 : w2.cell? ⟨w1.heap.size, 2, none⟩ = some (.int .i64 (off)) := (hc2 w1.heap.size 2 (by first | (simp; done) | (simp; omega))).trans (by go_simp); have y3 : w2.cell? ⟨w1.heap.size, 3, none⟩ = some (.int .i64 (0)) := (hc2 w1.heap.size 3 (by first | (simp; done) | (simp; omega))).trans (by go_simp); have y4 : w2.cell? ⟨w1.heap.size, 4, none⟩ = some (.int .i64 (P / E)) := (hc2 w1.heap.size 4 (by first | (simp; done) | (simp; omega))).trans (by go_simp); have y5 : w2.cell? ⟨w1.heap.size, 5, none⟩ = some (.int .i64 (P % E)) := (hc2 w1.heap.size 5 (by first | (simp; done) | (simp; omega))).trans (by go_simp); have y6 : w2.cell? ⟨w1.heap.size, 6, none⟩ = some (.int .i64 (0)) := (hc2 w1.heap.size 6 (by first | (simp; done) | (simp; omega))).trans (by go_simp); have y7 : w2.cell? ⟨w1.heap.size, 7, none⟩ = some (.int .i64 (0)) := (hc2 w1.heap.size 7 (by first | (simp; done) | (simp; omega))).trans (by go_simp); have y8 : w2.cell? ⟨w1.heap.size, 8, none⟩ = some (.int .i64 (E)) := (hc2 w1.heap.size 8 (by first | (simp; done) | (simp; omega))).trans (by go_simp); have y9 : w2.cell? ⟨w1.heap.size, 9, none⟩ = some (.int .i64 (0)) := (hc2 w1.heap.size 9 (by first | (simp; done) | (simp; omega))).trans (by go_simp); have y10 : w2.cell? ⟨w1.heap.size, 10, none⟩ = some (.int .i64 (0)) := (hc2 w1.heap.size 10 (by first | (simp; done) | (simp; omega))).trans (by go_simp); have y11 : w2.cell? ⟨w1.heap.size, 11, none⟩ = some (.int .i64 (0)) := (hc2 w1.heap.size 11 (by first | (simp; done) | (simp; omega))).trans (by go_simp); have y12 : w2.cell? ⟨w1.heap.size, 12, none⟩ = some (.int .i64 (0)) := (hc2 w1.heap.size 12 (by first | (simp; done) | (simp; omega))).trans (by go_simp); have y13 : w2.cell? ⟨w1.heap.size, 13, none⟩ = some (.int .i64 (0)) := (hc2 w1.heap.size 13 (by first | (simp; done) | (simp; omega))).trans (by go_simp); have y14 : w2.cell? ⟨w1.heap.size, 14, none⟩ = some (.int .i64 (0)) := (hc2 w1.heap.size 14 (by first | (simp; done) | (simp; omega))).trans (by go_simp); have y15 : w2.cell? ⟨w1.heap.size, 15, none⟩ = some (.int .i64 (0)) := (hc2 w1.heap.size 15 (by first | (simp; done) | (simp; omega))).trans (by go_simp); have y16 : w2.cell? ⟨w1.heap.size, 16, none⟩ = some (.int .i64 (0)) := (hc2 w1.heap.size 16 (by first | (simp; done) | (simp; omega))).trans (by go_simp); have y17 : w2.cell? ⟨w1.heap.size, 17, none⟩ = some (.int .i64 (0)) := (hc2 w1.heap.size 17 (by first | (simp; done) | (simp; omega))).trans (by go_simp); have y18 : w2.cell? ⟨w1.heap.size, 18, none⟩ = some (.int .i64 (0)) := (hc2 w1.heap.size 18 (by first | (simp; done) | (simp; omega))).trans (by go_simp); have yw0 : w2.cell? ⟨w.heap.size, 0, none⟩ = some (.int .i64 (E)) := (hc2 w.heap.size 0 (by first | (simp; done) | (simp; omega))).trans (by go_simp); have yw1 : w2.cell? ⟨w.heap.size, 1, none⟩ = some (.int .i64 (P)) := (hc2 w.heap.size 1 (by first | (simp; done) | (simp; omega))).trans (by go_simp); have yf : ∀ o, w2.frozen? ⟨w1.heap.size, o, none⟩ = false := (fun o => (hf2 w1.heap.size o (by first | (simp; done) | (simp; omega))).trans (by go_simp)); have w12 : w1.heap.size < w2.heap.size := (by omega); clear hc2 hf2)
    | (go_at_call 44; (with_reducible refine (adv_any _ E P off 0 0 0 0 0 0 _ ?_ e1 e2 e3 (by omega) (by omega)).mono ?_); (focus (refine st_zero _ E P off _ e1 ?_ ?_ ?_ ?_ ?_ ?_ ?_ ?_ ?_ ?_ ?_ ?_ ?_ ?_ ?_ ?_ ?_ ?_ ?_ ?_ ?_ <;> first | (go_simp; done) | (intro o; go_simp; done) | (simp; omega))); rintro e w3 ⟨rfl, hsn, ho⟩; have HN := Lib.hid hsn; clear hsn))
  go_big_region
  go_wp2_with (go_at_call 44; (with_reducible refine (adv_any _ E P off 0 0 0 0 0 0 _ ?_ e1 e2 e3 (by omega) (by omega)).mono ?_); (focus (refine st_zero _ E P off _ e1 ?_ ?_ ?_ ?_ ?_ ?_ ?_ ?_ ?_ ?_ ?_ ?_ ?_ ?_ ?_ ?_ ?_ ?_ ?_ ?_ ?_ <;> first | (go_simp; done) | (intro o; go_simp; done) | (simp; omega))); rintro e w3 ⟨rfl, hsn, ho⟩; have HN := Lib.hid hsn; clear hsn)
  go_ret
  exact ⟨⟨w1.heap.size, by omega, rfl, HN.out⟩, bel_only (b := w1.heap.size) (by have s0_ := hb1.size; have s1_ := hb2.size; (try simp only [World.size_alloc, World.size_setCell, World.size_drew, sz_drewN] at s0_ s1_); repeat' (first | (with_reducible exact Below.refl _ _) | (with_reducible refine bel_call ?_ ?_ hb2) | (with_reducible refine bel_call ?_ ?_ hb1) | (with_reducible refine Below.alloc ?_ ?_ _) | (with_reducible refine below_drewN ?_ _) | (with_reducible refine Below.drew ?_) | (with_reducible refine Below.setCell ?_ ?_ _) | omega | (simp; omega) | (simp; done))) (by first | (simp; done) | (simp; omega) | omega) (by omega) ho⟩

theorem new_yes (E P off : Int) (w : World) (e1 : 1 ≤ E) (e2 : E ≤ P) (e3 : P ≤ 1048576) (o0 : 0 ≤ off) (o1 : off ≤ 2305843009213693952) :
    Calls Try.prog 35 #[.agg #[.int .i64 E, .int .i64 P], .int .i64 off] w fun e w' => (∃ b, w.heap.size ≤ b ∧ e = .returned (.pointer (some ⟨b, 0, none⟩)) ∧ Sn w' b E P off 1) ∧ Below w.heap.size w w' := by
  by_cases c : E = P
  · exact new_full E P off w e1 e2 e3 o0 o1 c
  · by_cases d : P - E ≤ E
    · exact new_heavy E P off w e1 e2 e3 o0 o1 (by omega) d
    · exact new_light E P off w e1 e2 e3 o0 o1 (by omega)
end Go.Proofs.Ytkmgkggkdmlkeaa
