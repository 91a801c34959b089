/- Contracts of the stepper's New, Next. -/
import Derived.Test.YtkmgkggkdmlkeaaAdvF
import Derived.Test.YtkmgkggkdmlkeaaAdvL
import Derived.Test.YtkmgkggkdmlkeaaAdvH
import Derived.Test.YtkmgkggkdmlkeaaPk
namespace Go.Proofs.Ytkmgkggkdmlkeaa
open Go.RowKit
set_option linter.unusedVariables false
set_option linter.unusedSimpArgs false

theorem bel_chain0 {B : Nat} {a w w1 : World} (h : Below B a w) (hb : Below B w w1) : Below B a w1 := h.trans hb

theorem adv_any (b : Nat) (E P off n x0 x1 x2 x3 x4 : Int) (w : World) (h : St w b E P off n x0 x1 x2 x3 x4) (e1 : 1 ≤ E) (e2 : E ≤ P) (e3 : P ≤ 1048576) (n0 : 0 ≤ n) (n1 : n + 1 ≤ 1099511627776) :
    Calls Try.prog 44 #[.pointer (some ⟨b, 0, none⟩)] w fun e w' => e = .returned (.tuple #[]) ∧ Sn w' b E P off (n + 1) ∧ Only b w w' := by
  by_cases c : E = P
  · exact adv_full b E P off n x0 x1 x2 x3 x4 w h e1 e2 c e3 n0 n1
  · by_cases d : P - E > E
    · exact adv_light b E P off n x0 x1 x2 x3 x4 w h e1 e2 d e3 n0 n1
    · exact adv_heavy b E P off n x0 x1 x2 x3 x4 w h e1 (by omega) d e3 n0 n1

theorem sn_bd (E P n : Int) (e1 : 1 ≤ E) (e2 : E ≤ P) (e3 : P ≤ 1048576) (n0 : 1 ≤ n) (n1 : n ≤ 1099511627776) :
    0 ≤ Win.rel E P n ∧ Win.rel E P n ≤ 1152921504606846976 ∧ 0 ≤ Win.dl E P n ∧ Win.dl E P n ≤ 1152921504606846976 ∧ 0 ≤ Win.grp E P n ∧ Win.grp E P n ≤ 2305843009213693952 := by
  obtain ⟨a1, a2, a3⟩ := long_bd E P n e1 e2 e3 n0 n1
  obtain ⟨g0, g1⟩ : 0 ≤ Win.grp E P n ∧ Win.grp E P n ≤ 1152921504606846976 + P := by
    by_cases h : P - E > E
    · have : Win.grp E P n = 0 := by unfold Win.grp; rw [if_pos h]
      omega
    · have a := Win.grp_ge E P n (by omega) e2 h
      have b := Win.grp_near E P n (by omega) e2 h
      omega
  exact ⟨a1, by omega, by omega, a3, g0, by omega⟩

theorem peek_any (b : Nat) (E P off n : Int) (w : World) (h : Sn w b E P off n) (e1 : 1 ≤ E) (e2 : E ≤ P) (e3 : P ≤ 1048576) (n0 : 1 ≤ n) (n1 : n ≤ 1099511627776) (o0 : 0 ≤ off) (o1 : off ≤ 2305843009213693952) :
    Calls Try.prog 37 #[.pointer (some ⟨b, 0, none⟩)] w fun e w' => e = .returned (.agg #[.int .i64 n, .int .i64 (Win.rel E P n + off), .int .i64 (Win.dl E P n + off), .int .i64 (Win.bit E P n), .int .i64 (shG off (Win.grp E P n))]) ∧ Below w.heap.size w w' := by
  obtain ⟨a1, a2, a3, a4, a5, a6⟩ := sn_bd E P n e1 e2 e3 n0 n1
  exact peek_st b E P off n n _ _ _ _ w h n0 a1 (by omega) a3 (by omega) a5 a6 o0 o1

set_option maxHeartbeats 3200000 in
theorem next_any (b : Nat) (E P off n : Int) (w : World) (h : Sn w b E P off n) (e1 : 1 ≤ E) (e2 : E ≤ P) (e3 : P ≤ 1048576) (n0 : 1 ≤ n) (n1 : n + 1 ≤ 1099511627776) (o0 : 0 ≤ off) (o1 : off ≤ 2305843009213693952) :
    Calls Try.prog 39 #[.pointer (some ⟨b, 0, none⟩)] w fun e w' => e = .returned (.agg #[.int .i64 n, .int .i64 (Win.rel E P n + off), .int .i64 (Win.dl E P n + off), .int .i64 (Win.bit E P n), .int .i64 (shG off (Win.grp E P n))]) ∧ Sn w' b E P off (n + 1) ∧ Only b w w' := by
  have hs : b < w.heap.size := h.2.2.2.2.2.2.2.2.2.2.2.2.2.2.2.2.2.2.2.2
  have HS := Lib.hid h
  clear h
  have T : 0 < n := by omega
  have hp := Lib.hid (fun w h => peek_any b E P off n w h e1 e2 e3 n0 (by omega) o0 o1)
  generalize Win.rel E P n + off = R at *
  generalize Win.dl E P n + off = D at *
  generalize Win.bit E P n = B at *
  generalize shG off (Win.grp E P n) = G at *
  go_enter Try.func39, Try.ntmps39
  go_wp2_with (first
    | (go_at_call 37; (with_reducible refine (hp.out _ ?_).mono ?_); (focus (exact HS.out.keepb (by repeat' (first | (with_reducible exact Below.refl _ _) | (with_reducible refine Below.alloc ?_ ?_ _) | (with_reducible refine below_drewN ?_ _) | (with_reducible refine Below.drew ?_) | (with_reducible refine Below.setCell ?_ ?_ _) | omega | (simp; omega) | (simp; done))))); rintro e w1 ⟨rfl, hb1⟩; have s_w1 := hb1.size; (try simp only [World.size_alloc, World.size_setCell, World.size_drew, sz_drewN] at s_w1); have z_w1_0_0 : w.heap.size < w1.heap.size := (by omega); have z_w1_0_1 : w.heap.size < w1.heap.size + 1 := (by omega); have z_w1_0_2 : w.heap.size < w1.heap.size + 1 + 1 := (by omega); have q_w1_0_0 : w1.cell? ⟨w.heap.size, 0, none⟩ = some (.int .i64 0) := (hb1.cell (p := ⟨w.heap.size, 0, none⟩) (by first | (show w.heap.size < _; omega) | (show w.heap.size < _; simp; done) | (show w.heap.size < _; simp; omega))).trans (by first | assumption | (go_simp; done)); have q_w1_0_1 : w1.cell? ⟨w.heap.size, 1, none⟩ = some (.int .i64 0) := (hb1.cell (p := ⟨w.heap.size, 1, none⟩) (by first | (show w.heap.size < _; omega) | (show w.heap.size < _; simp; done) | (show w.heap.size < _; simp; omega))).trans (by first | assumption | (go_simp; done)); have q_w1_0_2 : w1.cell? ⟨w.heap.size, 2, none⟩ = some (.int .i64 0) := (hb1.cell (p := ⟨w.heap.size, 2, none⟩) (by first | (show w.heap.size < _; omega) | (show w.heap.size < _; simp; done) | (show w.heap.size < _; simp; omega))).trans (by first | assumption | (go_simp; done)); have q_w1_0_3 : w1.cell? ⟨w.heap.size, 3, none⟩ = some (.int .i64 0) := (hb1.cell (p := ⟨w.heap.size, 3, none⟩) (by first | (show w.heap.size < _; omega) | (show w.heap.size < _; simp; done) | (show w.heap.size < _; simp; omega))).trans (by first | assumption | (go_simp; done)); have q_w1_0_4 : w1.cell? ⟨w.heap.size, 4, none⟩ = some (.int .i64 0) := (hb1.cell (p := ⟨w.heap.size, 4, none⟩) (by first | (show w.heap.size < _; omega) | (show w.heap.size < _; simp; done) | (show w.heap.size < _; simp; omega))).trans (by first | assumption | (go_simp; done)); have wf : ∀ o, w1.frozen? ⟨w.heap.size, o, none⟩ = false := (fun o => (hb1.frozen (p := ⟨w.heap.size, o, none⟩) (by simp)).trans (by go_simp)))
    | (go_at_call 44; (with_reducible refine (adv_any b E P off n n (Win.rel E P n) (Win.dl E P n) (Win.bit E P n) (Win.grp E P n) _ ?_ e1 e2 e3 (by omega) n1).mono ?_); (focus (exact HS.out.keepb (by have s0_ := hb1.size; (try simp only [World.size_alloc, World.size_setCell, World.size_drew, sz_drewN] at s0_); repeat' (first | (with_reducible exact Below.refl _ _) | (with_reducible refine bel_call ?_ ?_ hb1) | (with_reducible refine Below.alloc ?_ ?_ _) | (with_reducible refine below_drewN ?_ _) | (with_reducible refine Below.drew ?_) | (with_reducible refine Below.setCell ?_ ?_ _) | omega | (simp; omega) | (simp; done))))); rintro e w2 ⟨rfl, hsn, ho⟩; have HN := Lib.hid hsn; clear hsn; have s2 := ho.size; (try simp only [World.size_alloc, World.size_setCell, World.size_drew, sz_drewN] at s2);
       have r0 : w2.cell? ⟨w.heap.size, 0, none⟩ = some (.int .i64 0) := (ho.cell (p := ⟨w.heap.size, 0, none⟩) (by first | (simp; done) | (simp; omega)) (by simp; omega)).trans (by go_simp);
       have r1 : w2.cell? ⟨w.heap.size, 1, none⟩ = some (.int .i64 0) := (ho.cell (p := ⟨w.heap.size, 1, none⟩) (by first | (simp; done) | (simp; omega)) (by simp; omega)).trans (by go_simp);
       have r2 : w2.cell? ⟨w.heap.size, 2, none⟩ = some (.int .i64 0) := (ho.cell (p := ⟨w.heap.size, 2, none⟩) (by first | (simp; done) | (simp; omega)) (by simp; omega)).trans (by go_simp);
       have r3 : w2.cell? ⟨w.heap.size, 3, none⟩ = some (.int .i64 0) := (ho.cell (p := ⟨w.heap.size, 3, none⟩) (by first | (simp; done) | (simp; omega)) (by simp; omega)).trans (by go_simp);
       have r4 : w2.cell? ⟨w.heap.size, 4, none⟩ = some (.int .i64 0) := (ho.cell (p := ⟨w.heap.size, 4, none⟩) (by first | (simp; done) | (simp; omega)) (by simp; omega)).trans (by go_simp);
       have x0 : w2.cell? ⟨w1.heap.size, 0, none⟩ = some (.int .i64 n) := (ho.cell (p := ⟨w1.heap.size, 0, none⟩) (by first | (simp; done) | (simp; omega)) (by simp; omega)).trans (by go_simp);
       have x1 : w2.cell? ⟨w1.heap.size, 1, none⟩ = some (.int .i64 R) := (ho.cell (p := ⟨w1.heap.size, 1, none⟩) (by first | (simp; done) | (simp; omega)) (by simp; omega)).trans (by go_simp);
       have x2 : w2.cell? ⟨w1.heap.size, 2, none⟩ = some (.int .i64 D) := (ho.cell (p := ⟨w1.heap.size, 2, none⟩) (by first | (simp; done) | (simp; omega)) (by simp; omega)).trans (by go_simp);
       have x3 : w2.cell? ⟨w1.heap.size, 3, none⟩ = some (.int .i64 B) := (ho.cell (p := ⟨w1.heap.size, 3, none⟩) (by first | (simp; done) | (simp; omega)) (by simp; omega)).trans (by go_simp);
       have x4 : w2.cell? ⟨w1.heap.size, 4, none⟩ = some (.int .i64 G) := (ho.cell (p := ⟨w1.heap.size, 4, none⟩) (by first | (simp; done) | (simp; omega)) (by simp; omega)).trans (by go_simp);
       have rf : ∀ o, w2.frozen? ⟨w.heap.size, o, none⟩ = false := (fun o => (ho.frozen (p := ⟨w.heap.size, o, none⟩) (by first | (simp; done) | (simp; omega)) (by simp; omega)).trans (by go_simp))))
  exact bodyPost_ret (v := .agg #[.int .i64 n, .int .i64 R, .int .i64 D, .int .i64 B, .int .i64 G]) (by simp only [results, Try.results39]; go_simp) rfl ⟨rfl, HN.out.keep (c := w.heap.size) (by repeat' (first | (with_reducible exact Only.refl _ _) | (with_reducible refine Only.alloc ?_ _) | (with_reducible refine only_drewN ?_ _) | (with_reducible refine Only.drew ?_) | (with_reducible refine Only.setCell ?_ ?_ _) | (exact Or.inl rfl) | (right; first | omega | (simp; done) | (simp; omega)) | omega | (simp; omega) | (simp; done))) (by omega), (by repeat' (first | (with_reducible exact Only.refl _ _) | (with_reducible refine only_call ?_ ho) | (with_reducible refine Only.trans ?_ ho) | (with_reducible refine only_call ?_ hb1) | (with_reducible refine Only.trans ?_ hb1) | (with_reducible refine Only.alloc ?_ _) | (with_reducible refine only_drewN ?_ _) | (with_reducible refine Only.drew ?_) | (with_reducible refine Only.setCell ?_ ?_ _) | (exact Or.inl rfl) | (right; first | omega | (simp; done) | (simp; omega)) | omega | (simp; omega) | (simp; done)))⟩

set_option maxHeartbeats 1600000 in
theorem next_stop (p : Option Addr) (x0 x1 x2 x3 x4 : Int) (w : World) (hx : ¬ 0 < x0) (hp : Hid (∀ w1, Below w.heap.size w w1 → Calls Try.prog 37 #[.pointer p] w1 fun e w' => e = .returned (.agg #[.int .i64 x0, .int .i64 x1, .int .i64 x2, .int .i64 x3, .int .i64 x4]) ∧ Below w1.heap.size w1 w')) :
    Calls Try.prog 39 #[.pointer p] w fun e w' => e = .returned (.agg #[.int .i64 x0, .int .i64 x1, .int .i64 x2, .int .i64 x3, .int .i64 x4]) ∧ Below w.heap.size w w' := by
  go_enter Try.func39, Try.ntmps39
  go_upto_region 4 with (go_at_call 37; (with_reducible refine (hp.out _ ?_).mono ?_); (focus (exact (by repeat' (first | (with_reducible exact Below.refl _ _) | (with_reducible refine Below.alloc ?_ ?_ _) | (with_reducible refine below_drewN ?_ _) | (with_reducible refine Below.drew ?_) | (with_reducible refine Below.setCell ?_ ?_ _) | omega | (simp; omega) | (simp; done))))); rintro e w1 ⟨rfl, hb1⟩; have s_w1 := hb1.size; (try simp only [World.size_alloc, World.size_setCell, World.size_drew, sz_drewN] at s_w1); have z_w1_0_0 : w.heap.size < w1.heap.size := (by omega); have z_w1_0_1 : w.heap.size < w1.heap.size + 1 := (by omega); have z_w1_0_2 : w.heap.size < w1.heap.size + 1 + 1 := (by omega); have q_w1_0_0 : w1.cell? ⟨w.heap.size, 0, none⟩ = some (.int .i64 0) := (hb1.cell (p := ⟨w.heap.size, 0, none⟩) (by first | (show w.heap.size < _; omega) | (show w.heap.size < _; simp; done) | (show w.heap.size < _; simp; omega))).trans (by first | assumption | (go_simp; done)); have q_w1_0_1 : w1.cell? ⟨w.heap.size, 1, none⟩ = some (.int .i64 0) := (hb1.cell (p := ⟨w.heap.size, 1, none⟩) (by first | (show w.heap.size < _; omega) | (show w.heap.size < _; simp; done) | (show w.heap.size < _; simp; omega))).trans (by first | assumption | (go_simp; done)); have q_w1_0_2 : w1.cell? ⟨w.heap.size, 2, none⟩ = some (.int .i64 0) := (hb1.cell (p := ⟨w.heap.size, 2, none⟩) (by first | (show w.heap.size < _; omega) | (show w.heap.size < _; simp; done) | (show w.heap.size < _; simp; omega))).trans (by first | assumption | (go_simp; done)); have q_w1_0_3 : w1.cell? ⟨w.heap.size, 3, none⟩ = some (.int .i64 0) := (hb1.cell (p := ⟨w.heap.size, 3, none⟩) (by first | (show w.heap.size < _; omega) | (show w.heap.size < _; simp; done) | (show w.heap.size < _; simp; omega))).trans (by first | assumption | (go_simp; done)); have q_w1_0_4 : w1.cell? ⟨w.heap.size, 4, none⟩ = some (.int .i64 0) := (hb1.cell (p := ⟨w.heap.size, 4, none⟩) (by first | (show w.heap.size < _; omega) | (show w.heap.size < _; simp; done) | (show w.heap.size < _; simp; omega))).trans (by first | assumption | (go_simp; done)); have wf : ∀ o, w1.frozen? ⟨w.heap.size, o, none⟩ = false := (fun o => (hb1.frozen (p := ⟨w.heap.size, o, none⟩) (by simp)).trans (by go_simp)))
  refine gen_world (F := fun V => V.cell? ⟨w.heap.size, 0, none⟩ = some (.int .i64 0) ∧ V.cell? ⟨w.heap.size, 1, none⟩ = some (.int .i64 0) ∧ V.cell? ⟨w.heap.size, 2, none⟩ = some (.int .i64 0) ∧ V.cell? ⟨w.heap.size, 3, none⟩ = some (.int .i64 0) ∧ V.cell? ⟨w.heap.size, 4, none⟩ = some (.int .i64 0) ∧ V.cell? ⟨w1.heap.size, 0, none⟩ = some (.int .i64 x0) ∧ V.cell? ⟨w1.heap.size, 1, none⟩ = some (.int .i64 x1) ∧ V.cell? ⟨w1.heap.size, 2, none⟩ = some (.int .i64 x2) ∧ V.cell? ⟨w1.heap.size, 3, none⟩ = some (.int .i64 x3) ∧ V.cell? ⟨w1.heap.size, 4, none⟩ = some (.int .i64 x4) ∧ (∀ o, V.frozen? ⟨w.heap.size, o, none⟩ = false) ∧ Below w.heap.size w V) ⟨?_, ?_, ?_, ?_, ?_, ?_, ?_, ?_, ?_, ?_, ?_, ?_⟩ ?_
  iterate 5 (focus (go_simp; done))
  iterate 5 (focus (go_simp; done))
  · intro o; go_simp
  · exact (by have s0_ := hb1.size; (try simp only [World.size_alloc, World.size_setCell, World.size_drew, sz_drewN] at s0_); repeat' (first | (with_reducible exact Below.refl _ _) | (with_reducible refine bel_call ?_ ?_ hb1) | (with_reducible refine Below.alloc ?_ ?_ _) | (with_reducible refine below_drewN ?_ _) | (with_reducible refine Below.drew ?_) | (with_reducible refine Below.setCell ?_ ?_ _) | omega | (simp; omega) | (simp; done)))
  clear hb1 s_w1 z_w1_0_1 z_w1_0_2 q_w1_0_0 q_w1_0_1 q_w1_0_2 q_w1_0_3 q_w1_0_4 wf hp
  rintro V ⟨v0, v1, v2, v3, v4, u0, u1, u2, u3, u4, vf, vb⟩
  go_wp2
  exact bodyPost_ret (v := .agg #[.int .i64 x0, .int .i64 x1, .int .i64 x2, .int .i64 x3, .int .i64 x4]) (by simp only [results, Try.results39]; go_simp) rfl ⟨rfl, bel_chain0 vb (by repeat' (first | (with_reducible exact Below.refl _ _) | (with_reducible refine Below.alloc ?_ ?_ _) | (with_reducible refine below_drewN ?_ _) | (with_reducible refine Below.drew ?_) | (with_reducible refine Below.setCell ?_ ?_ _) | omega | (simp; omega) | (simp; done)))⟩

theorem next_nil (w : World) : Calls Try.prog 39 #[.pointer none] w fun e w' => e = .returned (.agg #[.int .i64 0, .int .i64 0, .int .i64 0, .int .i64 0, .int .i64 0]) ∧ Below w.heap.size w w' :=
  next_stop none 0 0 0 0 0 w (by omega) (fun w1 _ => peek_nil w1)

theorem next_zero (b : Nat) (w : World) (h : w.cell? ⟨b, 14, none⟩ = some (.int .i64 0)) (hb : b < w.heap.size) : Calls Try.prog 39 #[.pointer (some ⟨b, 0, none⟩)] w fun e w' => e = .returned (.agg #[.int .i64 0, .int .i64 0, .int .i64 0, .int .i64 0, .int .i64 0]) ∧ Below w.heap.size w w' :=
  next_stop (some ⟨b, 0, none⟩) 0 0 0 0 0 w (by omega) (fun w1 h1 => peek_zero b w1 ((h1.cell (p := ⟨b, 14, none⟩) hb).trans h) (Nat.lt_of_lt_of_le hb h1.size))
end Go.Proofs.Ytkmgkggkdmlkeaa
