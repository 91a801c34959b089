/- Contract of the stepper's 'advance': the case 'light'. Written by genadv.py. -/
import Derived.Test.YtkmgkggkdmlkeaaAdv
import Derived.Deep.DeepCutAuto
namespace Go.Proofs.Ytkmgkggkdmlkeaa
open Go.RowKit
set_option linter.unusedVariables false
set_option linter.unusedSimpArgs false

set_option maxHeartbeats 3200000 in
theorem adv_light (b : Nat) (E P off n x0 x1 x2 x3 x4 : Int) (w : World) (h : St w b E P off n x0 x1 x2 x3 x4) (e1 : 1 ≤ E) (e2 : E ≤ P) (e4 : P - E > E) (e3 : P ≤ 1048576) (n0 : 0 ≤ n) (n1 : n + 1 ≤ 1099511627776) :
    Calls Try.prog 44 #[.pointer (some ⟨b, 0, none⟩)] w fun e w' => e = .returned (.tuple #[]) ∧ Sn w' b E P off (n + 1) ∧ Only b w w' := by
  obtain ⟨h0, h1, h2, h3, h4, h5, h6, h7, h8, h9, h10, h11, h12, h13, h14, h15, h16, h17, h18, hf, hs⟩ := h
  have hn : ¬ 1099511627776 < n + 1 := by omega
  have m0 : 0 ≤ n * P := Int.mul_nonneg n0 (by omega)
  have q1 : (n + 1) * P = n * P + P := by rw [Int.add_mul, Int.one_mul]
  have m1 := (mul_bd (i := n + 1) (P := P) (by omega) (by omega) (by omega) (by omega)).2
  rw [q1] at m1
  have m2 : (n * P + P) / E ≤ 1152921504606846976 := Int.le_trans (Int.ediv_le_self _ (by omega)) m1
  have m3 : 0 ≤ (n * P + P) / E := Int.ediv_nonneg (by omega) (by omega)
  have m4 : 0 ≤ (n * P + P) % E := Int.emod_nonneg _ (by omega)
  have m5 : 0 ≤ Win.up (n * P + P) E := Win.up_nonneg (by omega) (by omega)
  have m6 : Win.up (n * P + P) E ≤ 1152921504606846976 := Win.up_le (by omega) (by
    have := Int.mul_le_mul_of_nonneg_left e1 (show (0 : Int) ≤ 1152921504606846976 by omega)
    omega)
  have r1 : Hid (Win.rel E P (n + 1) = n * P / E) := by
    show _ = _
    unfold Win.rel
    rw [show n + 1 - 1 = n by omega]
  have r2 : Hid (Win.dl E P (n + 1) = Win.up (n * P + P) E) := by
    show _ = _
    unfold Win.dl
    rw [q1]
  have r3 : Hid (Win.bit E P (n + 1) = Win.up (n * P + P) E - (n * P + P) / E) := by
    show _ = _
    rw [← Win.bit_eq E P (n + 1) (by omega), ← q1]
    rfl
  have Q1 := Lib.hid q1
  clear q1
  have RG : Hid (Win.grp E P (n + 1) = 0) := if_pos e4
  have G1 : ∀ k, gwh E P k = 0 := fun k => if_neg (by omega)
  have G2 : ∀ k, glf E P k = 0 := fun k => if_neg (by omega)
  have G3 : gof E P = 0 := if_neg (by omega)
  have T : (E == P) = false := by rw [beq_eq_false_iff_ne]; omega
  go_enter Try.func44, Try.ntmps44
  go_wp2
  go_big_region
  go_upto_region 4 with fail
  refine gen_world (F := fun W => W.cell? ⟨b, 0, none⟩ = some (.int .i64 (E)) ∧ W.cell? ⟨b, 1, none⟩ = some (.int .i64 (P)) ∧ W.cell? ⟨b, 2, none⟩ = some (.int .i64 (off)) ∧ W.cell? ⟨b, 3, none⟩ = some (.int .i64 (n + 1)) ∧ W.cell? ⟨b, 4, none⟩ = some (.int .i64 (P / E)) ∧ W.cell? ⟨b, 5, none⟩ = some (.int .i64 (P % E)) ∧ W.cell? ⟨b, 6, none⟩ = some (.int .i64 (n * P / E)) ∧ W.cell? ⟨b, 7, none⟩ = some (.int .i64 (n * P % E)) ∧ W.cell? ⟨b, 8, none⟩ = some (.int .i64 (E)) ∧ W.cell? ⟨b, 9, none⟩ = some (.int .i64 (glong E P)) ∧ W.cell? ⟨b, 10, none⟩ = some (.int .i64 (gpart E P)) ∧ W.cell? ⟨b, 11, none⟩ = some (.int .i64 (gwh E P (Win.kk E P n))) ∧ W.cell? ⟨b, 12, none⟩ = some (.int .i64 (glf E P (Win.kk E P n))) ∧ W.cell? ⟨b, 13, none⟩ = some (.int .i64 (gof E P)) ∧ W.cell? ⟨b, 14, none⟩ = some (.int .i64 (x0)) ∧ W.cell? ⟨b, 15, none⟩ = some (.int .i64 (x1)) ∧ W.cell? ⟨b, 16, none⟩ = some (.int .i64 (x2)) ∧ W.cell? ⟨b, 17, none⟩ = some (.int .i64 (x3)) ∧ W.cell? ⟨b, 18, none⟩ = some (.int .i64 (x4)) ∧ W.cell? ⟨w.heap.size, 0, none⟩ = some (.int .i64 (n + 1)) ∧ W.cell? ⟨w.heap.size, 1, none⟩ = some (.int .i64 (n * P / E)) ∧ W.cell? ⟨w.heap.size, 2, none⟩ = some (.int .i64 (0)) ∧ W.cell? ⟨w.heap.size, 3, none⟩ = some (.int .i64 (0)) ∧ W.cell? ⟨w.heap.size, 4, none⟩ = some (.int .i64 (0)) ∧ (∀ o, W.frozen? ⟨b, o, none⟩ = false) ∧ (∀ o, W.frozen? ⟨w.heap.size, o, none⟩ = false) ∧ Only b w W ∧ w.heap.size < W.heap.size) ⟨?_, ?_, ?_, ?_, ?_, ?_, ?_, ?_, ?_, ?_, ?_, ?_, ?_, ?_, ?_, ?_, ?_, ?_, ?_, ?_, ?_, ?_, ?_, ?_, ?_, ?_, ?_, ?_⟩ ?_
  iterate 26 (focus (first | (go_simp; done) | (intro o; go_simp; done)))
  · exact (by repeat' (first | (with_reducible exact Only.refl _ _) | (with_reducible refine Only.alloc ?_ _) | (with_reducible refine only_drewN ?_ _) | (with_reducible refine Only.drew ?_) | (with_reducible refine Only.setCell ?_ ?_ _) | (exact Or.inl rfl) | (right; first | omega | (simp; done) | (simp; omega)) | omega | (simp; omega) | (simp; done)))
  · simp
  clear h0 h1 h2 h3 h4 h5 h6 h7 h8 h9 h10 h11 h12 h13 h14 h15 h16 h17 h18 hf
  rintro W ⟨h0, h1, h2, h3, h4, h5, h6, h7, h8, h9, h10, h11, h12, h13, h14, h15, h16, h17, h18, hl0, hl1, hl2, hl3, hl4, hf, hlf, hoW, hs2⟩
  go_still_tail 11, (by kernel_rfl)
  change wpList _ _ _ _ _ W.drew
  go_wp2_with (first
    | (go_at_call 47; (with_reducible refine (step_any b 6 (n * P) P E _ ?_ ?_ ?_ ?_ ?_ ?_ ?_ ?_ ?_ ?_).mono ?_); (focus (go_simp)); (focus (go_simp)); (focus (go_simp)); (focus (go_simp)); (focus (go_simp)); (focus (omega)); (focus (omega)); (focus (omega)); (focus (omega)); (focus (omega)); rintro e w2 ⟨rfl, d6, d7, co, cf, ho⟩; have d7 : w2.cell? ⟨b, 7, none⟩ = _ := d7; have d0 : w2.cell? ⟨b, 0, none⟩ = _ := (co 0 (by decide) (by decide)).trans h0; have d1 : w2.cell? ⟨b, 1, none⟩ = _ := (co 1 (by decide) (by decide)).trans h1; have d2 : w2.cell? ⟨b, 2, none⟩ = _ := (co 2 (by decide) (by decide)).trans h2; have d3 : w2.cell? ⟨b, 3, none⟩ = _ := (co 3 (by decide) (by decide)).trans h3; have d4 : w2.cell? ⟨b, 4, none⟩ = _ := (co 4 (by decide) (by decide)).trans h4; have d5 : w2.cell? ⟨b, 5, none⟩ = _ := (co 5 (by decide) (by decide)).trans h5; have d8 : w2.cell? ⟨b, 8, none⟩ = _ := (co 8 (by decide) (by decide)).trans h8; have d9 : w2.cell? ⟨b, 9, none⟩ = _ := (co 9 (by decide) (by decide)).trans h9; have d10 : w2.cell? ⟨b, 10, none⟩ = _ := (co 10 (by decide) (by decide)).trans h10; have d11 : w2.cell? ⟨b, 11, none⟩ = _ := (co 11 (by decide) (by decide)).trans h11; have d12 : w2.cell? ⟨b, 12, none⟩ = _ := (co 12 (by decide) (by decide)).trans h12; have d13 : w2.cell? ⟨b, 13, none⟩ = _ := (co 13 (by decide) (by decide)).trans h13; have d14 : w2.cell? ⟨b, 14, none⟩ = _ := (co 14 (by decide) (by decide)).trans h14; have d15 : w2.cell? ⟨b, 15, none⟩ = _ := (co 15 (by decide) (by decide)).trans h15; have d16 : w2.cell? ⟨b, 16, none⟩ = _ := (co 16 (by decide) (by decide)).trans h16; have d17 : w2.cell? ⟨b, 17, none⟩ = _ := (co 17 (by decide) (by decide)).trans h17; have d18 : w2.cell? ⟨b, 18, none⟩ = _ := (co 18 (by decide) (by decide)).trans h18; have df : ∀ o, w2.frozen? ⟨b, o, none⟩ = false := fun o => (cf o).trans (hf o); have dl0 : w2.cell? ⟨w.heap.size, 0, none⟩ = _ := (ho.cell (p := ⟨w.heap.size, 0, none⟩) hs2 (by first | (simp; done) | (simp; omega))).trans hl0; have dl1 : w2.cell? ⟨w.heap.size, 1, none⟩ = _ := (ho.cell (p := ⟨w.heap.size, 1, none⟩) hs2 (by first | (simp; done) | (simp; omega))).trans hl1; have dl2 : w2.cell? ⟨w.heap.size, 2, none⟩ = _ := (ho.cell (p := ⟨w.heap.size, 2, none⟩) hs2 (by first | (simp; done) | (simp; omega))).trans hl2; have dl3 : w2.cell? ⟨w.heap.size, 3, none⟩ = _ := (ho.cell (p := ⟨w.heap.size, 3, none⟩) hs2 (by first | (simp; done) | (simp; omega))).trans hl3; have dl4 : w2.cell? ⟨w.heap.size, 4, none⟩ = _ := (ho.cell (p := ⟨w.heap.size, 4, none⟩) hs2 (by first | (simp; done) | (simp; omega))).trans hl4; have dlf : ∀ o, w2.frozen? ⟨w.heap.size, o, none⟩ = false := fun o => (ho.frozen (p := ⟨w.heap.size, o, none⟩) hs2 (by first | (simp; done) | (simp; omega))).trans (hlf o); have s2 : W.heap.size ≤ w2.heap.size := ho.size; clear co cf h0 h1 h2 h3 h4 h5 h6 h7 h8 h9 h10 h11 h12 h13 h14 h15 h16 h17 h18 hl0 hl1 hl2 hl3 hl4 hf hlf)
    | (go_at_call 48; (with_reducible refine (up_any (n * P + P) E _ ?_ ?_ ?_).mono ?_); (focus (omega)); (focus (omega)); (focus (omega)); rintro e w3 ⟨rfl, hb3⟩; have s3 := hb3.size; (try simp only [World.size_setCell, World.size_alloc, World.size_drew] at s3); have bs3 : b < w3.heap.size := (by omega); have ws3 : w.heap.size < w3.heap.size := (by omega); have k0 : w3.cell? ⟨b, 0, none⟩ = _ := (hb3.cell (p := ⟨b, 0, none⟩) (by first | (simp; done) | (simp; omega))).trans d0; have k1 : w3.cell? ⟨b, 1, none⟩ = _ := (hb3.cell (p := ⟨b, 1, none⟩) (by first | (simp; done) | (simp; omega))).trans d1; have k2 : w3.cell? ⟨b, 2, none⟩ = _ := (hb3.cell (p := ⟨b, 2, none⟩) (by first | (simp; done) | (simp; omega))).trans d2; have k3 : w3.cell? ⟨b, 3, none⟩ = _ := (hb3.cell (p := ⟨b, 3, none⟩) (by first | (simp; done) | (simp; omega))).trans d3; have k4 : w3.cell? ⟨b, 4, none⟩ = _ := (hb3.cell (p := ⟨b, 4, none⟩) (by first | (simp; done) | (simp; omega))).trans d4; have k5 : w3.cell? ⟨b, 5, none⟩ = _ := (hb3.cell (p := ⟨b, 5, none⟩) (by first | (simp; done) | (simp; omega))).trans d5; have k6 : w3.cell? ⟨b, 6, none⟩ = _ := (hb3.cell (p := ⟨b, 6, none⟩) (by first | (simp; done) | (simp; omega))).trans d6; have k7 : w3.cell? ⟨b, 7, none⟩ = _ := (hb3.cell (p := ⟨b, 7, none⟩) (by first | (simp; done) | (simp; omega))).trans d7; have k8 : w3.cell? ⟨b, 8, none⟩ = _ := (hb3.cell (p := ⟨b, 8, none⟩) (by first | (simp; done) | (simp; omega))).trans d8; have k9 : w3.cell? ⟨b, 9, none⟩ = _ := (hb3.cell (p := ⟨b, 9, none⟩) (by first | (simp; done) | (simp; omega))).trans d9; have k10 : w3.cell? ⟨b, 10, none⟩ = _ := (hb3.cell (p := ⟨b, 10, none⟩) (by first | (simp; done) | (simp; omega))).trans d10; have k11 : w3.cell? ⟨b, 11, none⟩ = _ := (hb3.cell (p := ⟨b, 11, none⟩) (by first | (simp; done) | (simp; omega))).trans d11; have k12 : w3.cell? ⟨b, 12, none⟩ = _ := (hb3.cell (p := ⟨b, 12, none⟩) (by first | (simp; done) | (simp; omega))).trans d12; have k13 : w3.cell? ⟨b, 13, none⟩ = _ := (hb3.cell (p := ⟨b, 13, none⟩) (by first | (simp; done) | (simp; omega))).trans d13; have k14 : w3.cell? ⟨b, 14, none⟩ = _ := (hb3.cell (p := ⟨b, 14, none⟩) (by first | (simp; done) | (simp; omega))).trans d14; have k15 : w3.cell? ⟨b, 15, none⟩ = _ := (hb3.cell (p := ⟨b, 15, none⟩) (by first | (simp; done) | (simp; omega))).trans d15; have k16 : w3.cell? ⟨b, 16, none⟩ = _ := (hb3.cell (p := ⟨b, 16, none⟩) (by first | (simp; done) | (simp; omega))).trans d16; have k17 : w3.cell? ⟨b, 17, none⟩ = _ := (hb3.cell (p := ⟨b, 17, none⟩) (by first | (simp; done) | (simp; omega))).trans d17; have k18 : w3.cell? ⟨b, 18, none⟩ = _ := (hb3.cell (p := ⟨b, 18, none⟩) (by first | (simp; done) | (simp; omega))).trans d18; have kf : ∀ o, w3.frozen? ⟨b, o, none⟩ = false := fun o => (hb3.frozen (p := ⟨b, o, none⟩) (by first | (simp; done) | (simp; omega))).trans (df o); have kl0 : w3.cell? ⟨w.heap.size, 0, none⟩ = _ := (hb3.cell (p := ⟨w.heap.size, 0, none⟩) (by first | (simp; done) | (simp; omega))).trans dl0; have kl1 : w3.cell? ⟨w.heap.size, 1, none⟩ = _ := (hb3.cell (p := ⟨w.heap.size, 1, none⟩) (by first | (simp; done) | (simp; omega))).trans dl1; have kl2 : w3.cell? ⟨w.heap.size, 2, none⟩ = _ := (hb3.cell (p := ⟨w.heap.size, 2, none⟩) (by first | (simp; done) | (simp; omega))).trans dl2; have kl3 : w3.cell? ⟨w.heap.size, 3, none⟩ = _ := (hb3.cell (p := ⟨w.heap.size, 3, none⟩) (by first | (simp; done) | (simp; omega))).trans dl3; have kl4 : w3.cell? ⟨w.heap.size, 4, none⟩ = _ := (hb3.cell (p := ⟨w.heap.size, 4, none⟩) (by first | (simp; done) | (simp; omega))).trans dl4; have klf : ∀ o, w3.frozen? ⟨w.heap.size, o, none⟩ = false := fun o => (hb3.frozen (p := ⟨w.heap.size, o, none⟩) (by first | (simp; done) | (simp; omega))).trans (dlf o); clear d0 d1 d2 d3 d4 d5 d6 d7 d8 d9 d10 d11 d12 d13 d14 d15 d16 d17 d18 dl0 dl1 dl2 dl3 dl4 df dlf))
  go_big_region
  go_wp2
  go_quiet (fail)
  go_wp2
  go_quiet (fail)
  go_upto_region 14 with fail
  refine gen_world (F := fun V => V.cell? ⟨b, 0, none⟩ = some (.int .i64 (E)) ∧ V.cell? ⟨b, 1, none⟩ = some (.int .i64 (P)) ∧ V.cell? ⟨b, 2, none⟩ = some (.int .i64 (off)) ∧ V.cell? ⟨b, 3, none⟩ = some (.int .i64 (n + 1)) ∧ V.cell? ⟨b, 4, none⟩ = some (.int .i64 (P / E)) ∧ V.cell? ⟨b, 5, none⟩ = some (.int .i64 (P % E)) ∧ V.cell? ⟨b, 6, none⟩ = some (.int .i64 ((n * P + P) / E)) ∧ V.cell? ⟨b, 7, none⟩ = some (.int .i64 ((n * P + P) % E)) ∧ V.cell? ⟨b, 8, none⟩ = some (.int .i64 (E)) ∧ V.cell? ⟨b, 9, none⟩ = some (.int .i64 (glong E P)) ∧ V.cell? ⟨b, 10, none⟩ = some (.int .i64 (gpart E P)) ∧ V.cell? ⟨b, 11, none⟩ = some (.int .i64 (gwh E P (Win.kk E P n))) ∧ V.cell? ⟨b, 12, none⟩ = some (.int .i64 (glf E P (Win.kk E P n))) ∧ V.cell? ⟨b, 13, none⟩ = some (.int .i64 (gof E P)) ∧ V.cell? ⟨b, 14, none⟩ = some (.int .i64 (x0)) ∧ V.cell? ⟨b, 15, none⟩ = some (.int .i64 (x1)) ∧ V.cell? ⟨b, 16, none⟩ = some (.int .i64 (x2)) ∧ V.cell? ⟨b, 17, none⟩ = some (.int .i64 (x3)) ∧ V.cell? ⟨b, 18, none⟩ = some (.int .i64 (x4)) ∧ V.cell? ⟨w.heap.size, 0, none⟩ = some (.int .i64 (n + 1)) ∧ V.cell? ⟨w.heap.size, 1, none⟩ = some (.int .i64 (n * P / E)) ∧ V.cell? ⟨w.heap.size, 2, none⟩ = some (.int .i64 (Win.up (n * P + P) E)) ∧ V.cell? ⟨w.heap.size, 3, none⟩ = some (.int .i64 (Win.up (n * P + P) E - (n * P + P) / E)) ∧ V.cell? ⟨w.heap.size, 4, none⟩ = some (.int .i64 (0)) ∧ (∀ o, V.frozen? ⟨b, o, none⟩ = false) ∧ (∀ o, V.frozen? ⟨w.heap.size, o, none⟩ = false) ∧ Only b w V ∧ w.heap.size < V.heap.size) ⟨?_, ?_, ?_, ?_, ?_, ?_, ?_, ?_, ?_, ?_, ?_, ?_, ?_, ?_, ?_, ?_, ?_, ?_, ?_, ?_, ?_, ?_, ?_, ?_, ?_, ?_, ?_, ?_⟩ ?_
  iterate 26 (focus (first | (go_simp; done) | (intro o; go_simp; done)))
  · exact (by repeat' (first | (with_reducible exact Only.refl _ _) | (with_reducible refine only_call ?_ hb3) | (with_reducible refine Only.trans ?_ hb3) | (with_reducible refine only_call ?_ ho) | (with_reducible refine Only.trans ?_ ho) | (with_reducible refine only_call ?_ hoW) | (with_reducible refine Only.trans ?_ hoW) | (with_reducible refine Only.alloc ?_ _) | (with_reducible refine only_drewN ?_ _) | (with_reducible refine Only.drew ?_) | (with_reducible refine Only.setCell ?_ ?_ _) | (exact Or.inl rfl) | (right; first | omega | (simp; done) | (simp; omega)) | omega | (simp; omega) | (simp; done)))
  · first | (simp; done) | (simp; omega)
  clear k0 k1 k2 k3 k4 k5 k6 k7 k8 k9 k10 k11 k12 k13 k14 k15 k16 k17 k18 kf kl0 kl1 kl2 kl3 kl4 klf
  rintro V ⟨v0, v1, v2, v3, v4, v5, v6, v7, v8, v9, v10, v11, v12, v13, v14, v15, v16, v17, v18, vl0, vl1, vl2, vl3, vl4, vf, vlf, voV, vs⟩
  have bsv : b < V.heap.size := by omega
  clear hb3 ho hoW
  go_wp2
  go_end0
  refine ⟨rfl, ?_, (by repeat' (first | (with_reducible exact Only.refl _ _) | (with_reducible refine only_call ?_ voV) | (with_reducible refine Only.trans ?_ voV) | (with_reducible refine Only.alloc ?_ _) | (with_reducible refine only_drewN ?_ _) | (with_reducible refine Only.drew ?_) | (with_reducible refine Only.setCell ?_ ?_ _) | (exact Or.inl rfl) | (right; first | omega | (simp; done) | (simp; omega)) | omega | (simp; omega) | (simp; done)))⟩
  unfold Sn St
  rw [r1.out, r2.out, r3.out, Q1.out, RG.out]
  refine ⟨?_, ?_, ?_, ?_, ?_, ?_, ?_, ?_, ?_, ?_, ?_, ?_, ?_, ?_, ?_, ?_, ?_, ?_, ?_, ?_, ?_⟩ <;> first | (go_simp; done) | (intro o; go_simp; done) | (simp; omega)

end Go.Proofs.Ytkmgkggkdmlkeaa
