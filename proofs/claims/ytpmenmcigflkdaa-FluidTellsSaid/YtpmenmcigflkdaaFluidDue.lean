/- The walk of the law FluidDue. -/
import Derived.Test.YtpmenmcigflkdaaRef
namespace Go.Proofs.Ytpmenmcigflkdaa
open Go.RowKit
set_option linter.unusedVariables false
set_option linter.unusedSimpArgs false

theorem mayn_b (n : Int) (w : World) (h0 : 0 ≤ n) (h1 : n ≤ 1099511627776) : Calls Try.prog 50 #[.int .i64 n] w fun e w' => e = .returned (.bool true) ∧ Below w.heap.size w w' :=
  (mayn_yes n w h0 h1).mono fun _ _ h => ⟨h.1, by rw [← h.2]; exact Below.refl _ _⟩

set_option maxHeartbeats 3200000 in
theorem due_yes (E P s : Int) (w : World) (e1 : 1 ≤ E) (e2 : E ≤ P) (e3 : P ≤ 1048576) (s0 : 0 ≤ s) (s1 : s ≤ 1099511627775) :
    Calls Try.prog 33 #[.agg #[.int .i64 E, .int .i64 P], .int .i64 s] w fun e w' => e = .returned (.bool (decide (E * s / P < E * (s + 1) / P))) ∧ Below w.heap.size w w' := by
  have h1 := fun w => low_yes E P s w e1 e2 e3 s0 (by omega)
  have h2 := fun w => low_yes E P (s + 1) w e1 e2 e3 (by omega) (by omega)
  generalize E * s / P = L at *
  generalize E * (s + 1) / P = M at *
  have m1 := fun w => mayn_b s w s0 (by omega)
  have m2 := fun w => mayn_b (s + 1) w (by omega) (by omega)
  have H1 := Lib.hid h1
  have H2 := Lib.hid h2
  have M1 := Lib.hid m1
  have M2 := Lib.hid m2
  clear h1 h2 m1 m2
  have W1 : IntKind.i64.wrap (s + 1) = s + 1 := wrap_in _ (by omega) (by omega)
  go_enter Try.func33, Try.ntmps33
  go_wp2_with fail
  go_region_held3 (fun x => Below (w.alloc (.cells #[.int .i64 E, .int .i64 P] 36)).heap.size (w.alloc (.cells #[.int .i64 E, .int .i64 P] 36)) x ∧ (∀ b o, b < (w.alloc (.cells #[.int .i64 E, .int .i64 P] 36)).heap.size → x.cell? ⟨b, o, none⟩ = (w.alloc (.cells #[.int .i64 E, .int .i64 P] 36)).cell? ⟨b, o, none⟩) ∧ (∀ b o, b < (w.alloc (.cells #[.int .i64 E, .int .i64 P] 36)).heap.size → x.frozen? ⟨b, o, none⟩ = (w.alloc (.cells #[.int .i64 E, .int .i64 P] 36)).frozen? ⟨b, o, none⟩)) ((first | (simp only [mark_set]; refine held_of ?_; repeat' (first | (with_reducible exact (by with_reducible assumption : Below _ _ _ ∧ _).1) | (with_reducible refine below_setc ?_ ?_) | omega | (simp; done) | (simp; omega))) | (with_reducible exact held_of ((by with_reducible assumption : Below _ _ _ ∧ _).1.trans (hb.mono (by with_reducible assumption : Below _ _ _ ∧ _).1.size))) | (with_reducible exact held_of (Below.drew (Below.refl _ _))) | (with_reducible exact held_of ((by with_reducible assumption : Below _ _ _ ∧ _).1.alloc (by with_reducible assumption : Below _ _ _ ∧ _).1.size _)) | (with_reducible exact held_of (below_realloc hz (by with_reducible assumption : Below _ _ (World.alloc _ _) ∧ _).1)))) (first
    | (go_at_call 50; (first | (with_reducible refine (M1.out _).mono ?_) | (with_reducible refine (M2.out _).mono ?_)); rintro e w1 ⟨rfl, hb⟩)
    | (go_at_call 27; (first | (with_reducible refine (H1.out _).mono ?_) | (with_reducible refine (H2.out _).mono ?_)); rintro e w1 ⟨rfl, hb⟩))
  clear W1
  go_wp2
  go_ret
  exact ⟨rfl, bel_call (w := w.alloc (.cells #[.int .i64 E, .int .i64 P] 36)) (by repeat' (first | (with_reducible exact Below.refl _ _) | (with_reducible refine Below.alloc ?_ ?_ _) | (with_reducible refine below_drewN ?_ _) | (with_reducible refine Below.drew ?_) | (with_reducible refine Below.setCell ?_ ?_ _) | omega | (simp; omega) | (simp; done))) (by simp) (by assumption : Below _ _ _ ∧ _).1⟩

theorem due_of (E P t : Int) (e1 : 1 ≤ E) (e2 : E ≤ P) (p2 : P ≤ 1048576) (t0 : 0 ≤ t) (t1 : t ≤ 1073741823) :
    ∃ L M D H K : Int, E * t / P = L ∧ E * (t + 1) / P = M ∧ Win.dl E P (L + 1) = D ∧ Win.up (E * t) P = H ∧ Win.up (E * (t + 1)) P = K ∧ 0 ≤ L ∧ L ≤ 1073741823 ∧ L ≤ M ∧ M ≤ L + 1 ∧ H ≤ K ∧ (decide (L < M) = (D == t + 1)) ∧ 0 ≤ H ∧ K ≤ 1073741824 := by
  obtain ⟨x0, x1⟩ := prod_bd (x := E) (y := t) (by omega) (by omega) t0 (by omega)
  have hE : E * t ≤ t * P := by rw [Int.mul_comm t P]; exact Int.mul_le_mul_of_nonneg_right e2 t0
  have en : E * (t + 1) = E * t + E := by rw [Int.mul_add, Int.mul_one]
  have ec : E * t = t * E := Int.mul_comm _ _
  have l1 := Win.fl_le (E * t) P (by omega)
  have l2 := Win.lt_fl (E * t) P (by omega)
  have m1 := Win.fl_le (E * t + E) P (by omega)
  have m2 := Win.lt_fl (E * t + E) P (by omega)
  have lm : E * t / P ≤ (E * t + E) / P := Win.le_fl (by omega) (by omega)
  have ml : (E * t + E) / P < E * t / P + 2 := Win.fl_lt (by omega) (by rw [Int.add_mul]; omega)
  have hn := Win.lag_next E P t (by omega) (by omega)
  rw [← ec] at hn
  rw [en]
  have hk : Win.up (E * t) P ≤ Win.up (E * t + E) P := Win.up_mono (by omega) (by omega)
  have hk2 : Win.up (E * t + E) P ≤ t + 1 := Win.up_le (by omega) (by rw [Int.add_mul, Int.one_mul]; omega)
  have ll : E * t / P ≤ t := Win.le_of_mul (b := P) (by omega) (by omega)
  refine ⟨_, _, _, _, _, rfl, rfl, rfl, rfl, rfl, Int.ediv_nonneg x0 (by omega), by omega, lm, by omega, hk, ?_, Win.up_nonneg (by omega) x0, by omega⟩
  rw [Bool.eq_iff_iff]
  simp only [decide_eq_true_eq, beq_iff_eq]
  constructor
  · intro h
    have hM : (E * t + E) / P = E * t / P + 1 := by omega
    have : Win.dl E P (E * t / P + 1) ≤ t + 1 := Win.up_le (by omega) (by rw [hM] at m1; rw [Int.add_mul t, Int.one_mul]; omega)
    omega
  · intro h
    have d1 := Win.up_ge ((E * t / P + 1) * P) E (by omega)
    unfold Win.dl at h
    rw [h, Int.add_mul t, Int.one_mul] at d1
    have : E * t / P + 1 ≤ (E * t + E) / P := Win.le_fl (by omega) (by omega)
    omega


set_option maxHeartbeats 6400000 in
theorem walk_FluidDue (a00 a01 a1 : Int) (w : World) (_f00 : (Lit.int .i64 a00).wf = true) (_f01 : (Lit.int .i64 a01).wf = true) (_f1 : (Lit.int .i64 a1).wf = true) :
    Calls Try.prog 10 #[.agg #[.int .i64 a00, .int .i64 a01], .int .i64 a1] w fun e w' => e = .returned (.bool true) ∧ Below w.heap.size w w' := by
  obtain ⟨e3, p2⟩ := pOf_bd a01
  obtain ⟨e1, e2⟩ := eOf_bd a00 (pOf a01) e3
  have hm := fun w => made_any a00 a01 w
  generalize eOf a00 (pOf a01) = E at *
  generalize pOf a01 = P at *
  obtain ⟨t, ht, t0, t1⟩ := masked30 a1
  obtain ⟨L, M, D, H, K, k1, k2, k3, k4, k5, l0, l1, c1, c2, c3, F1, h0, k6⟩ := due_of E P t e1 e2 p2 t0 t1
  have hl := fun w => low_yes E P t w e1 e2 p2 t0 (by omega)
  have hl2 := fun w => low_yes E P (t + 1) w e1 e2 p2 (by omega) (by omega)
  have hh := fun w => high_yes E P t w e1 e2 p2 t0 (by omega)
  have hh2 := fun w => high_yes E P (t + 1) w e1 e2 p2 (by omega) (by omega)
  have hd := fun w => rdeadline_yes E P (L + 1) w e1 e2 p2 (by omega) (by omega)
  have hu := fun w => due_yes E P t w e1 e2 p2 t0 (by omega)
  rw [k1] at hl; rw [k2] at hl2; rw [k4] at hh; rw [k5] at hh2; rw [k3] at hd; rw [k1, k2, F1] at hu
  have W1 : Hid (IntKind.i64.wrap (t + 1) = t + 1) := wrap_in _ (by omega) (by omega)
  have W2 : Hid (IntKind.i64.wrap (M - L) = M - L) := wrap_in _ (by omega) (by omega)
  have G1 : M - L ≤ 1 := by omega
  have G2 : ((D == t + 1) == (D == t + 1)) = true := by simp
  have HM := Lib.hid hm
  have H1 := Lib.hid hl
  have H2 := Lib.hid hl2
  have H3 := Lib.hid hh
  have H4 := Lib.hid hh2
  have H5 := Lib.hid hd
  have H6 := Lib.hid hu
  clear k1 k2 k3 k4 k5 hm hl hl2 hh hh2 hd hu F1
  go_enter Try.func10, Try.ntmps10
  go_wp2_with (first
    | (go_at_call 25; refine (awake09 _).mono ?_; rintro e w1 ⟨rfl, hb1⟩; have s_w1 := hb1.size; (try simp only [World.size_alloc, World.size_setCell, World.size_drew, sz_drewN] at s_w1); have z_w1_0_0 : w.heap.size < w1.heap.size := (by omega); have z_w1_0_1 : w.heap.size < w1.heap.size + 1 := (by omega); have z_w1_0_2 : w.heap.size < w1.heap.size + 1 + 1 := (by omega); have q_w1_0_0 : w1.cell? ⟨w.heap.size, 0, none⟩ = some (.int .i64 a00) := (hb1.cell (p := ⟨w.heap.size, 0, none⟩) (by first | (show w.heap.size < _; omega) | (show w.heap.size < _; simp; done) | (show w.heap.size < _; simp; omega))).trans (by first | assumption | (go_simp; done)); have q_w1_0_1 : w1.cell? ⟨w.heap.size, 1, none⟩ = some (.int .i64 a01) := (hb1.cell (p := ⟨w.heap.size, 1, none⟩) (by first | (show w.heap.size < _; omega) | (show w.heap.size < _; simp; done) | (show w.heap.size < _; simp; omega))).trans (by first | assumption | (go_simp; done)))
    | (go_at_call 26; refine (HM.out _).mono ?_; rintro e w2 ⟨rfl, hb2⟩; have s_w2 := hb2.size; (try simp only [World.size_alloc, World.size_setCell, World.size_drew, sz_drewN] at s_w2))
    | (go_at_call 27; (with_reducible refine (H1.out _).mono ?_); rintro e w3 ⟨rfl, hb3⟩; have s_w3 := hb3.size; (try simp only [World.size_alloc, World.size_setCell, World.size_drew, sz_drewN] at s_w3); have z_w3_0_0 : w2.heap.size < w3.heap.size := (by omega); have z_w3_0_1 : w2.heap.size < w3.heap.size + 1 := (by omega); have z_w3_0_2 : w2.heap.size < w3.heap.size + 1 + 1 := (by omega); have q_w3_0_0 : w3.cell? ⟨w2.heap.size, 0, none⟩ = some (.int .i64 E) := (hb3.cell (p := ⟨w2.heap.size, 0, none⟩) (by first | (show w2.heap.size < _; omega) | (show w2.heap.size < _; simp; done) | (show w2.heap.size < _; simp; omega))).trans (by first | assumption | (go_simp; done)); have q_w3_0_1 : w3.cell? ⟨w2.heap.size, 1, none⟩ = some (.int .i64 P) := (hb3.cell (p := ⟨w2.heap.size, 1, none⟩) (by first | (show w2.heap.size < _; omega) | (show w2.heap.size < _; simp; done) | (show w2.heap.size < _; simp; omega))).trans (by first | assumption | (go_simp; done)))
    | (go_at_call 30; (with_reducible refine (H5.out _).mono ?_); rintro e w4 ⟨rfl, hb4⟩; have s_w4 := hb4.size; (try simp only [World.size_alloc, World.size_setCell, World.size_drew, sz_drewN] at s_w4); have z_w4_0_0 : w2.heap.size < w4.heap.size := (by omega); have z_w4_0_1 : w2.heap.size < w4.heap.size + 1 := (by omega); have z_w4_0_2 : w2.heap.size < w4.heap.size + 1 + 1 := (by omega); have q_w4_0_0 : w4.cell? ⟨w2.heap.size, 0, none⟩ = some (.int .i64 E) := (hb4.cell (p := ⟨w2.heap.size, 0, none⟩) (by first | (show w2.heap.size < _; omega) | (show w2.heap.size < _; simp; done) | (show w2.heap.size < _; simp; omega))).trans (by first | assumption | (go_simp; done)); have q_w4_0_1 : w4.cell? ⟨w2.heap.size, 1, none⟩ = some (.int .i64 P) := (hb4.cell (p := ⟨w2.heap.size, 1, none⟩) (by first | (show w2.heap.size < _; omega) | (show w2.heap.size < _; simp; done) | (show w2.heap.size < _; simp; omega))).trans (by first | assumption | (go_simp; done))))
  have W1' := W1.out
  have W2' := W2.out
  go_region_held3 (fun x => Below (w4).heap.size (w4) x ∧ (∀ b o, b < (w4).heap.size → x.cell? ⟨b, o, none⟩ = (w4).cell? ⟨b, o, none⟩) ∧ (∀ b o, b < (w4).heap.size → x.frozen? ⟨b, o, none⟩ = (w4).frozen? ⟨b, o, none⟩)) ((first | (simp only [mark_set]; refine held_of ?_; repeat' (first | (with_reducible exact (by with_reducible assumption : Below _ _ _ ∧ _).1) | (with_reducible refine below_setc ?_ ?_) | omega | (simp; done) | (simp; omega))) | (with_reducible exact held_of ((by with_reducible assumption : Below _ _ _ ∧ _).1.trans (hb.mono (by with_reducible assumption : Below _ _ _ ∧ _).1.size))) | (with_reducible exact held_of (Below.drew (Below.refl _ _))) | (with_reducible exact held_of ((by with_reducible assumption : Below _ _ _ ∧ _).1.alloc (by with_reducible assumption : Below _ _ _ ∧ _).1.size _)) | (with_reducible exact held_of (below_realloc hz (by with_reducible assumption : Below _ _ (World.alloc _ _) ∧ _).1)))) (first
    | (go_at_call 33; (with_reducible refine (H6.out _).mono ?_); rintro e w1 ⟨rfl, hb⟩)
    | (go_at_call 27; (with_reducible refine (H2.out _).mono ?_); rintro e w1 ⟨rfl, hb⟩)
    | (go_at_call 28; (first | (with_reducible refine (H3.out _).mono ?_) | (with_reducible refine (H4.out _).mono ?_)); rintro e w1 ⟨rfl, hb⟩))
  clear W1' W2'
  go_wp2
  go_ret
  exact ⟨by first | rfl | simp [*], bel_call (w := w4) (by have s0_ := hb1.size; have s1_ := hb2.size; have s2_ := hb3.size; have s3_ := hb4.size; (try simp only [World.size_alloc, World.size_setCell, World.size_drew, sz_drewN] at s0_ s1_ s2_ s3_); repeat' (first | (with_reducible exact Below.refl _ _) | (with_reducible refine bel_call ?_ ?_ hb4) | (with_reducible refine bel_call ?_ ?_ hb3) | (with_reducible refine bel_call ?_ ?_ hb2) | (with_reducible refine bel_call ?_ ?_ hb1) | (with_reducible refine Below.alloc ?_ ?_ _) | (with_reducible refine below_drewN ?_ _) | (with_reducible refine Below.drew ?_) | (with_reducible refine Below.setCell ?_ ?_ _) | omega | (simp; omega) | (simp; done))) (by omega) (by assumption : Below _ _ _ ∧ _).1⟩
end Go.Proofs.Ytpmenmcigflkdaa
