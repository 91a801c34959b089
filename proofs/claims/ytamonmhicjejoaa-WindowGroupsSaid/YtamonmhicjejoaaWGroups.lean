/- The walk of the law WindowGroups. -/
import Derived.Test.YtamonmhicjejoaaWc
import Derived.Lib.Hide
namespace Go.Proofs.Ytamonmhicjejoaa
open Go.RowKit
set_option linter.unusedVariables false
set_option linter.unusedSimpArgs false
theorem masked39 (x : Int) : ∃ n, bits .and .i64 x 549755813887 = n ∧ 0 ≤ n ∧ n ≤ 549755813887 := ⟨_, mask39 x, by omega, by omega⟩

set_option maxHeartbeats 3200000 in
theorem walk_WindowGroups (a00 a01 a1 : Int) (w : World) (_f00 : (Lit.int .i64 a00).wf = true) (_f01 : (Lit.int .i64 a01).wf = true) (_f1 : (Lit.int .i64 a1).wf = true) :
    Calls Try.prog 7 #[.agg #[.int .i64 a00, .int .i64 a01], .int .i64 a1] w fun e w' => e = .returned (.bool true) ∧ Below w.heap.size w w' := by
  obtain ⟨e3, p2⟩ := pOf_bd a01
  obtain ⟨e1, e2⟩ := eOf_bd a00 (pOf a01) e3
  have hm := fun w => made_any a00 a01 w
  generalize eOf a00 (pOf a01) = E at *
  generalize pOf a01 = P at *
  have HM := Lib.hid hm
  clear hm
  obtain ⟨n, hn, n0, n1⟩ := masked39 a1
  have i1 : 1 ≤ 1 + n := by omega
  have i2 : 1 + n ≤ 1099511627776 := by omega
  have j1 : 1 ≤ 1 + n + 1 := by omega
  have j2 : 1 + n + 1 ≤ 1099511627776 := by omega
  have hG := fun w => Group_any E P (1 + n) w e1 e2 p2 i1 i2
  have HG := Lib.hid hG
  clear hG
  have hK := fun w => Group_any E P (1 + n + 1) w e1 e2 p2 j1 j2
  have HK := Lib.hid hK
  clear hK
  have hD := fun w => Deadline_any E P (1 + n) w e1 e2 p2 i1 i2
  have HD := Lib.hid hD
  clear hD
  have W1 : 1 + n + 1 ≤ 9223372036854775807 := by omega
  by_cases c2 : P - E ≤ E
  · have hv := fun w => heavy_yes E P w e1 e2 p2 c2
    have HV := Lib.hid hv
    clear hv
    have g1 := Win.grp_ge E P (1 + n) (by omega) e2 (by omega)
    have g2 := Win.grp_near E P (1 + n) (by omega) e2 (by omega)
    have g3 := Win.grp_mono E P (1 + n) (by omega) e2 (by omega)
    have g4 : E = P → Win.grp E P (1 + n) = Win.dl E P (1 + n) := fun h => by unfold Win.grp; rw [if_neg (by omega), if_pos (by omega)]
    obtain ⟨d0, d1⟩ := grp_bds E P (1 + n) e1 e2 p2 i1 i2
    generalize Win.grp E P (1 + n) = g at *
    generalize Win.grp E P (1 + n + 1) = g' at *
    generalize Win.dl E P (1 + n) = d at *
    by_cases c1 : E = P
    · obtain rfl := g4 c1
      subst c1
      have c3 : (E != E) = false := by simp
      have c4 : (g == g) = true := by simp
      clear g4
      go_enter Try.func7, Try.ntmps7
      go_wp2_with (first
        | (go_at_call 24; refine (awake04 _).mono ?_; rintro e w1 ⟨rfl, hb1⟩; have s_w1 := hb1.size; (try simp only [World.size_alloc, World.size_setCell, World.size_drew, sz_drewN] at s_w1); have z_w1_0_0 : w.heap.size < w1.heap.size := (by omega); have z_w1_0_1 : w.heap.size < w1.heap.size + 1 := (by omega); have z_w1_0_2 : w.heap.size < w1.heap.size + 1 + 1 := (by omega); have q_w1_0_0 : w1.cell? ⟨w.heap.size, 0, none⟩ = some (.int .i64 a00) := (hb1.cell (p := ⟨w.heap.size, 0, none⟩) (by first | (show w.heap.size < _; omega) | (show w.heap.size < _; simp; done) | (show w.heap.size < _; simp; omega))).trans (by first | assumption | (go_simp; done)); have q_w1_0_1 : w1.cell? ⟨w.heap.size, 1, none⟩ = some (.int .i64 a01) := (hb1.cell (p := ⟨w.heap.size, 1, none⟩) (by first | (show w.heap.size < _; omega) | (show w.heap.size < _; simp; done) | (show w.heap.size < _; simp; omega))).trans (by first | assumption | (go_simp; done)))
        | (go_at_call 25; refine (HM.out _).mono ?_; rintro e w2 ⟨rfl, hb2⟩; have s_w2 := hb2.size; (try simp only [World.size_alloc, World.size_setCell, World.size_drew, sz_drewN] at s_w2))
        | (go_at_call 26; (with_reducible refine (HG.out _).mono ?_); rintro e w3 ⟨rfl, hb3⟩; have s_w3 := hb3.size; (try simp only [World.size_alloc, World.size_setCell, World.size_drew, sz_drewN] at s_w3); have z_w3_0_0 : w2.heap.size < w3.heap.size := (by omega); have z_w3_0_1 : w2.heap.size < w3.heap.size + 1 := (by omega); have z_w3_0_2 : w2.heap.size < w3.heap.size + 1 + 1 := (by omega); have q_w3_0_0 : w3.cell? ⟨w2.heap.size, 0, none⟩ = some (.int .i64 E) := (hb3.cell (p := ⟨w2.heap.size, 0, none⟩) (by first | (show w2.heap.size < _; omega) | (show w2.heap.size < _; simp; done) | (show w2.heap.size < _; simp; omega))).trans (by first | assumption | (go_simp; done)); have q_w3_0_1 : w3.cell? ⟨w2.heap.size, 1, none⟩ = some (.int .i64 E) := (hb3.cell (p := ⟨w2.heap.size, 1, none⟩) (by first | (show w2.heap.size < _; omega) | (show w2.heap.size < _; simp; done) | (show w2.heap.size < _; simp; omega))).trans (by first | assumption | (go_simp; done)))
        | (go_at_call 27; (with_reducible refine (HV.out _).mono ?_); rintro e w4 ⟨rfl, hb4⟩; have s_w4 := hb4.size; (try simp only [World.size_alloc, World.size_setCell, World.size_drew, sz_drewN] at s_w4); have z_w4_0_0 : w2.heap.size < w4.heap.size := (by omega); have z_w4_0_1 : w2.heap.size < w4.heap.size + 1 := (by omega); have z_w4_0_2 : w2.heap.size < w4.heap.size + 1 + 1 := (by omega); have q_w4_0_0 : w4.cell? ⟨w2.heap.size, 0, none⟩ = some (.int .i64 E) := (hb4.cell (p := ⟨w2.heap.size, 0, none⟩) (by first | (show w2.heap.size < _; omega) | (show w2.heap.size < _; simp; done) | (show w2.heap.size < _; simp; omega))).trans (by first | assumption | (go_simp; done)); have q_w4_0_1 : w4.cell? ⟨w2.heap.size, 1, none⟩ = some (.int .i64 E) := (hb4.cell (p := ⟨w2.heap.size, 1, none⟩) (by first | (show w2.heap.size < _; omega) | (show w2.heap.size < _; simp; done) | (show w2.heap.size < _; simp; omega))).trans (by first | assumption | (go_simp; done)))
        | (go_at_call 28; (with_reducible refine (HD.out _).mono ?_); rintro e w5 ⟨rfl, hb5⟩; have s_w5 := hb5.size; (try simp only [World.size_alloc, World.size_setCell, World.size_drew, sz_drewN] at s_w5); have z_w5_0_0 : w2.heap.size < w5.heap.size := (by omega); have z_w5_0_1 : w2.heap.size < w5.heap.size + 1 := (by omega); have z_w5_0_2 : w2.heap.size < w5.heap.size + 1 + 1 := (by omega); have q_w5_0_0 : w5.cell? ⟨w2.heap.size, 0, none⟩ = some (.int .i64 E) := (hb5.cell (p := ⟨w2.heap.size, 0, none⟩) (by first | (show w2.heap.size < _; omega) | (show w2.heap.size < _; simp; done) | (show w2.heap.size < _; simp; omega))).trans (by first | assumption | (go_simp; done)); have q_w5_0_1 : w5.cell? ⟨w2.heap.size, 1, none⟩ = some (.int .i64 E) := (hb5.cell (p := ⟨w2.heap.size, 1, none⟩) (by first | (show w2.heap.size < _; omega) | (show w2.heap.size < _; simp; done) | (show w2.heap.size < _; simp; omega))).trans (by first | assumption | (go_simp; done)))
        | (go_at_call 26; (with_reducible refine (HK.out _).mono ?_); rintro e w6 ⟨rfl, hb6⟩; have s_w6 := hb6.size; (try simp only [World.size_alloc, World.size_setCell, World.size_drew, sz_drewN] at s_w6); have z_w6_0_0 : w2.heap.size < w6.heap.size := (by omega); have z_w6_0_1 : w2.heap.size < w6.heap.size + 1 := (by omega); have z_w6_0_2 : w2.heap.size < w6.heap.size + 1 + 1 := (by omega); have q_w6_0_0 : w6.cell? ⟨w2.heap.size, 0, none⟩ = some (.int .i64 E) := (hb6.cell (p := ⟨w2.heap.size, 0, none⟩) (by first | (show w2.heap.size < _; omega) | (show w2.heap.size < _; simp; done) | (show w2.heap.size < _; simp; omega))).trans (by first | assumption | (go_simp; done)); have q_w6_0_1 : w6.cell? ⟨w2.heap.size, 1, none⟩ = some (.int .i64 E) := (hb6.cell (p := ⟨w2.heap.size, 1, none⟩) (by first | (show w2.heap.size < _; omega) | (show w2.heap.size < _; simp; done) | (show w2.heap.size < _; simp; omega))).trans (by first | assumption | (go_simp; done))))
      go_ret
      exact ⟨by first | rfl | simp [*], (by have s0_ := hb1.size; have s1_ := hb2.size; have s2_ := hb3.size; have s3_ := hb4.size; have s4_ := hb5.size; have s5_ := hb6.size; (try simp only [World.size_alloc, World.size_setCell, World.size_drew, sz_drewN] at s0_ s1_ s2_ s3_ s4_ s5_); repeat' (first | (with_reducible exact Below.refl _ _) | (with_reducible refine bel_call ?_ ?_ hb6) | (with_reducible refine bel_call ?_ ?_ hb5) | (with_reducible refine bel_call ?_ ?_ hb4) | (with_reducible refine bel_call ?_ ?_ hb3) | (with_reducible refine bel_call ?_ ?_ hb2) | (with_reducible refine bel_call ?_ ?_ hb1) | (with_reducible refine Below.alloc ?_ ?_ _) | (with_reducible refine below_drewN ?_ _) | (with_reducible refine Below.drew ?_) | (with_reducible refine Below.setCell ?_ ?_ _) | omega | (simp; omega) | (simp; done)))⟩
    · have c3 : (E != P) = true := by simp [c1]
      clear g4
      go_enter Try.func7, Try.ntmps7
      go_wp2_with (first
        | (go_at_call 24; refine (awake04 _).mono ?_; rintro e w1 ⟨rfl, hb1⟩; have s_w1 := hb1.size; (try simp only [World.size_alloc, World.size_setCell, World.size_drew, sz_drewN] at s_w1); have z_w1_0_0 : w.heap.size < w1.heap.size := (by omega); have z_w1_0_1 : w.heap.size < w1.heap.size + 1 := (by omega); have z_w1_0_2 : w.heap.size < w1.heap.size + 1 + 1 := (by omega); have q_w1_0_0 : w1.cell? ⟨w.heap.size, 0, none⟩ = some (.int .i64 a00) := (hb1.cell (p := ⟨w.heap.size, 0, none⟩) (by first | (show w.heap.size < _; omega) | (show w.heap.size < _; simp; done) | (show w.heap.size < _; simp; omega))).trans (by first | assumption | (go_simp; done)); have q_w1_0_1 : w1.cell? ⟨w.heap.size, 1, none⟩ = some (.int .i64 a01) := (hb1.cell (p := ⟨w.heap.size, 1, none⟩) (by first | (show w.heap.size < _; omega) | (show w.heap.size < _; simp; done) | (show w.heap.size < _; simp; omega))).trans (by first | assumption | (go_simp; done)))
        | (go_at_call 25; refine (HM.out _).mono ?_; rintro e w2 ⟨rfl, hb2⟩; have s_w2 := hb2.size; (try simp only [World.size_alloc, World.size_setCell, World.size_drew, sz_drewN] at s_w2))
        | (go_at_call 26; (with_reducible refine (HG.out _).mono ?_); rintro e w3 ⟨rfl, hb3⟩; have s_w3 := hb3.size; (try simp only [World.size_alloc, World.size_setCell, World.size_drew, sz_drewN] at s_w3); have z_w3_0_0 : w2.heap.size < w3.heap.size := (by omega); have z_w3_0_1 : w2.heap.size < w3.heap.size + 1 := (by omega); have z_w3_0_2 : w2.heap.size < w3.heap.size + 1 + 1 := (by omega); have q_w3_0_0 : w3.cell? ⟨w2.heap.size, 0, none⟩ = some (.int .i64 E) := (hb3.cell (p := ⟨w2.heap.size, 0, none⟩) (by first | (show w2.heap.size < _; omega) | (show w2.heap.size < _; simp; done) | (show w2.heap.size < _; simp; omega))).trans (by first | assumption | (go_simp; done)); have q_w3_0_1 : w3.cell? ⟨w2.heap.size, 1, none⟩ = some (.int .i64 P) := (hb3.cell (p := ⟨w2.heap.size, 1, none⟩) (by first | (show w2.heap.size < _; omega) | (show w2.heap.size < _; simp; done) | (show w2.heap.size < _; simp; omega))).trans (by first | assumption | (go_simp; done)))
        | (go_at_call 27; (with_reducible refine (HV.out _).mono ?_); rintro e w4 ⟨rfl, hb4⟩; have s_w4 := hb4.size; (try simp only [World.size_alloc, World.size_setCell, World.size_drew, sz_drewN] at s_w4); have z_w4_0_0 : w2.heap.size < w4.heap.size := (by omega); have z_w4_0_1 : w2.heap.size < w4.heap.size + 1 := (by omega); have z_w4_0_2 : w2.heap.size < w4.heap.size + 1 + 1 := (by omega); have q_w4_0_0 : w4.cell? ⟨w2.heap.size, 0, none⟩ = some (.int .i64 E) := (hb4.cell (p := ⟨w2.heap.size, 0, none⟩) (by first | (show w2.heap.size < _; omega) | (show w2.heap.size < _; simp; done) | (show w2.heap.size < _; simp; omega))).trans (by first | assumption | (go_simp; done)); have q_w4_0_1 : w4.cell? ⟨w2.heap.size, 1, none⟩ = some (.int .i64 P) := (hb4.cell (p := ⟨w2.heap.size, 1, none⟩) (by first | (show w2.heap.size < _; omega) | (show w2.heap.size < _; simp; done) | (show w2.heap.size < _; simp; omega))).trans (by first | assumption | (go_simp; done)))
        | (go_at_call 28; (with_reducible refine (HD.out _).mono ?_); rintro e w5 ⟨rfl, hb5⟩; have s_w5 := hb5.size; (try simp only [World.size_alloc, World.size_setCell, World.size_drew, sz_drewN] at s_w5); have z_w5_0_0 : w2.heap.size < w5.heap.size := (by omega); have z_w5_0_1 : w2.heap.size < w5.heap.size + 1 := (by omega); have z_w5_0_2 : w2.heap.size < w5.heap.size + 1 + 1 := (by omega); have q_w5_0_0 : w5.cell? ⟨w2.heap.size, 0, none⟩ = some (.int .i64 E) := (hb5.cell (p := ⟨w2.heap.size, 0, none⟩) (by first | (show w2.heap.size < _; omega) | (show w2.heap.size < _; simp; done) | (show w2.heap.size < _; simp; omega))).trans (by first | assumption | (go_simp; done)); have q_w5_0_1 : w5.cell? ⟨w2.heap.size, 1, none⟩ = some (.int .i64 P) := (hb5.cell (p := ⟨w2.heap.size, 1, none⟩) (by first | (show w2.heap.size < _; omega) | (show w2.heap.size < _; simp; done) | (show w2.heap.size < _; simp; omega))).trans (by first | assumption | (go_simp; done)))
        | (go_at_call 26; (with_reducible refine (HK.out _).mono ?_); rintro e w6 ⟨rfl, hb6⟩; have s_w6 := hb6.size; (try simp only [World.size_alloc, World.size_setCell, World.size_drew, sz_drewN] at s_w6); have z_w6_0_0 : w2.heap.size < w6.heap.size := (by omega); have z_w6_0_1 : w2.heap.size < w6.heap.size + 1 := (by omega); have z_w6_0_2 : w2.heap.size < w6.heap.size + 1 + 1 := (by omega); have q_w6_0_0 : w6.cell? ⟨w2.heap.size, 0, none⟩ = some (.int .i64 E) := (hb6.cell (p := ⟨w2.heap.size, 0, none⟩) (by first | (show w2.heap.size < _; omega) | (show w2.heap.size < _; simp; done) | (show w2.heap.size < _; simp; omega))).trans (by first | assumption | (go_simp; done)); have q_w6_0_1 : w6.cell? ⟨w2.heap.size, 1, none⟩ = some (.int .i64 P) := (hb6.cell (p := ⟨w2.heap.size, 1, none⟩) (by first | (show w2.heap.size < _; omega) | (show w2.heap.size < _; simp; done) | (show w2.heap.size < _; simp; omega))).trans (by first | assumption | (go_simp; done))))
      go_ret
      exact ⟨by first | rfl | simp [*], (by have s0_ := hb1.size; have s1_ := hb2.size; have s2_ := hb3.size; have s3_ := hb4.size; have s4_ := hb5.size; have s5_ := hb6.size; (try simp only [World.size_alloc, World.size_setCell, World.size_drew, sz_drewN] at s0_ s1_ s2_ s3_ s4_ s5_); repeat' (first | (with_reducible exact Below.refl _ _) | (with_reducible refine bel_call ?_ ?_ hb6) | (with_reducible refine bel_call ?_ ?_ hb5) | (with_reducible refine bel_call ?_ ?_ hb4) | (with_reducible refine bel_call ?_ ?_ hb3) | (with_reducible refine bel_call ?_ ?_ hb2) | (with_reducible refine bel_call ?_ ?_ hb1) | (with_reducible refine Below.alloc ?_ ?_ _) | (with_reducible refine below_drewN ?_ _) | (with_reducible refine Below.drew ?_) | (with_reducible refine Below.setCell ?_ ?_ _) | omega | (simp; omega) | (simp; done)))⟩
  · have hv := fun w => heavy_no E P w e1 e2 p2 c2
    have HV := Lib.hid hv
    clear hv
    have g0 : Win.grp E P (1 + n) = 0 := by unfold Win.grp; rw [if_pos (by omega)]
    rw [g0] at HG
    clear g0
    go_enter Try.func7, Try.ntmps7
    go_wp2_with (first
      | (go_at_call 24; refine (awake04 _).mono ?_; rintro e w1 ⟨rfl, hb1⟩; have s_w1 := hb1.size; (try simp only [World.size_alloc, World.size_setCell, World.size_drew, sz_drewN] at s_w1); have z_w1_0_0 : w.heap.size < w1.heap.size := (by omega); have z_w1_0_1 : w.heap.size < w1.heap.size + 1 := (by omega); have z_w1_0_2 : w.heap.size < w1.heap.size + 1 + 1 := (by omega); have q_w1_0_0 : w1.cell? ⟨w.heap.size, 0, none⟩ = some (.int .i64 a00) := (hb1.cell (p := ⟨w.heap.size, 0, none⟩) (by first | (show w.heap.size < _; omega) | (show w.heap.size < _; simp; done) | (show w.heap.size < _; simp; omega))).trans (by first | assumption | (go_simp; done)); have q_w1_0_1 : w1.cell? ⟨w.heap.size, 1, none⟩ = some (.int .i64 a01) := (hb1.cell (p := ⟨w.heap.size, 1, none⟩) (by first | (show w.heap.size < _; omega) | (show w.heap.size < _; simp; done) | (show w.heap.size < _; simp; omega))).trans (by first | assumption | (go_simp; done)))
      | (go_at_call 25; refine (HM.out _).mono ?_; rintro e w2 ⟨rfl, hb2⟩; have s_w2 := hb2.size; (try simp only [World.size_alloc, World.size_setCell, World.size_drew, sz_drewN] at s_w2))
      | (go_at_call 26; (with_reducible refine (HG.out _).mono ?_); rintro e w3 ⟨rfl, hb3⟩; have s_w3 := hb3.size; (try simp only [World.size_alloc, World.size_setCell, World.size_drew, sz_drewN] at s_w3); have z_w3_0_0 : w2.heap.size < w3.heap.size := (by omega); have z_w3_0_1 : w2.heap.size < w3.heap.size + 1 := (by omega); have z_w3_0_2 : w2.heap.size < w3.heap.size + 1 + 1 := (by omega); have q_w3_0_0 : w3.cell? ⟨w2.heap.size, 0, none⟩ = some (.int .i64 E) := (hb3.cell (p := ⟨w2.heap.size, 0, none⟩) (by first | (show w2.heap.size < _; omega) | (show w2.heap.size < _; simp; done) | (show w2.heap.size < _; simp; omega))).trans (by first | assumption | (go_simp; done)); have q_w3_0_1 : w3.cell? ⟨w2.heap.size, 1, none⟩ = some (.int .i64 P) := (hb3.cell (p := ⟨w2.heap.size, 1, none⟩) (by first | (show w2.heap.size < _; omega) | (show w2.heap.size < _; simp; done) | (show w2.heap.size < _; simp; omega))).trans (by first | assumption | (go_simp; done)))
      | (go_at_call 27; (with_reducible refine (HV.out _).mono ?_); rintro e w4 ⟨rfl, hb4⟩))
    go_ret
    exact ⟨by first | rfl | simp [*], (by have s0_ := hb1.size; have s1_ := hb2.size; have s2_ := hb3.size; have s3_ := hb4.size; (try simp only [World.size_alloc, World.size_setCell, World.size_drew, sz_drewN] at s0_ s1_ s2_ s3_); repeat' (first | (with_reducible exact Below.refl _ _) | (with_reducible refine bel_call ?_ ?_ hb4) | (with_reducible refine bel_call ?_ ?_ hb3) | (with_reducible refine bel_call ?_ ?_ hb2) | (with_reducible refine bel_call ?_ ?_ hb1) | (with_reducible refine Below.alloc ?_ ?_ _) | (with_reducible refine below_drewN ?_ _) | (with_reducible refine Below.drew ?_) | (with_reducible refine Below.setCell ?_ ?_ _) | omega | (simp; omega) | (simp; done)))⟩
end Go.Proofs.Ytamonmhicjejoaa
