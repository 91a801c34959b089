/- Contracts of the task's Waits, Head, Run. -/
import Derived.Test.YtkmgkggkdmlkeaaTk
namespace Go.Proofs.Ytkmgkggkdmlkeaa
open Go.RowKit
set_option linter.unusedVariables false
set_option linter.unusedSimpArgs false

set_option maxHeartbeats 400000 in
theorem waits_any (t : Nat) (p : Option Addr) (len cap : Nat) (w : World) (h : w.cell? ⟨t, 5, none⟩ = some (.slice p len cap)) : Calls Try.prog 13 #[.pointer (some ⟨t, 0, none⟩)] w fun e w' => e = .returned (.int .i64 len) ∧ Below w.heap.size w w' := by
  go_enter Try.func13, Try.ntmps13
  go_wp2
  go_ret
  exact ⟨rfl, (by repeat' (first | (with_reducible exact Below.refl _ _) | (with_reducible refine Below.alloc ?_ ?_ _) | (with_reducible refine below_drewN ?_ _) | (with_reducible refine Below.drew ?_) | (with_reducible refine Below.setCell ?_ ?_ _) | omega | (simp; omega) | (simp; done)))⟩

set_option maxHeartbeats 1600000 in
theorem head_some (t g o len cap : Nat) (x0 x1 x2 x3 x4 : Int) (w : World) (h : w.cell? ⟨t, 5, none⟩ = some (.slice (some ⟨g, o, none⟩) len cap)) (ht : t < w.heap.size) (hl : 1 ≤ len)
    (c0 : w.cell? ⟨g, o, none⟩ = some (.int .i64 x0)) (c1 : w.cell? ⟨g, o + 1, none⟩ = some (.int .i64 x1)) (c2 : w.cell? ⟨g, o + 2, none⟩ = some (.int .i64 x2)) (c3 : w.cell? ⟨g, o + 3, none⟩ = some (.int .i64 x3)) (c4 : w.cell? ⟨g, o + 4, none⟩ = some (.int .i64 x4)) (hg : g < w.heap.size) :
    Calls Try.prog 29 #[.pointer (some ⟨t, 0, none⟩)] w fun e w' => e = .returned (.tuple #[.agg #[.int .i64 x0, .int .i64 x1, .int .i64 x2, .int .i64 x3, .int .i64 x4], .bool true]) ∧ Below w.heap.size w w' := by
  have hw := fun w1 (hb : Below w.heap.size w w1) => waits_any t (some ⟨g, o, none⟩) len cap w1 ((hb.cell (p := ⟨t, 5, none⟩) ht).trans h)
  have HW := Lib.hid hw
  clear hw
  have n1 : ((len : Int) == 0) = false := by rw [beq_eq_false_iff_ne]; omega
  go_enter Try.func29, Try.ntmps29
  go_upto_region 2 with (go_at_call 13; (with_reducible refine (HW.out _ ?_).mono ?_); (focus (exact (by repeat' (first | (with_reducible exact Below.refl _ _) | (with_reducible refine Below.alloc ?_ ?_ _) | (with_reducible refine below_drewN ?_ _) | (with_reducible refine Below.drew ?_) | (with_reducible refine Below.setCell ?_ ?_ _) | omega | (simp; omega) | (simp; done))))); rintro e w1 ⟨rfl, hb1⟩; have s_w1 := hb1.size; (try simp only [World.size_alloc, World.size_setCell, World.size_drew, sz_drewN] at s_w1); have z_w1_0_0 : w.heap.size < w1.heap.size := (by omega); have z_w1_0_1 : w.heap.size < w1.heap.size + 1 := (by omega); have z_w1_0_2 : w.heap.size < w1.heap.size + 1 + 1 := (by omega); have q_w1_0_0 : w1.cell? ⟨w.heap.size, 0, none⟩ = some (.int .i64 0) := (hb1.cell (p := ⟨w.heap.size, 0, none⟩) (by first | (show w.heap.size < _; omega) | (show w.heap.size < _; simp; done) | (show w.heap.size < _; simp; omega))).trans (by first | assumption | (go_simp; done)); have q_w1_0_1 : w1.cell? ⟨w.heap.size, 1, none⟩ = some (.int .i64 0) := (hb1.cell (p := ⟨w.heap.size, 1, none⟩) (by first | (show w.heap.size < _; omega) | (show w.heap.size < _; simp; done) | (show w.heap.size < _; simp; omega))).trans (by first | assumption | (go_simp; done)); have q_w1_0_2 : w1.cell? ⟨w.heap.size, 2, none⟩ = some (.int .i64 0) := (hb1.cell (p := ⟨w.heap.size, 2, none⟩) (by first | (show w.heap.size < _; omega) | (show w.heap.size < _; simp; done) | (show w.heap.size < _; simp; omega))).trans (by first | assumption | (go_simp; done)); have q_w1_0_3 : w1.cell? ⟨w.heap.size, 3, none⟩ = some (.int .i64 0) := (hb1.cell (p := ⟨w.heap.size, 3, none⟩) (by first | (show w.heap.size < _; omega) | (show w.heap.size < _; simp; done) | (show w.heap.size < _; simp; omega))).trans (by first | assumption | (go_simp; done)); have q_w1_0_4 : w1.cell? ⟨w.heap.size, 4, none⟩ = some (.int .i64 0) := (hb1.cell (p := ⟨w.heap.size, 4, none⟩) (by first | (show w.heap.size < _; omega) | (show w.heap.size < _; simp; done) | (show w.heap.size < _; simp; omega))).trans (by first | assumption | (go_simp; done)); have wf : ∀ o, w1.frozen? ⟨w.heap.size, o, none⟩ = false := (fun o => (hb1.frozen (p := ⟨w.heap.size, o, none⟩) (by simp)).trans (by go_simp)); have y5 : w1.cell? ⟨t, 5, none⟩ = some (.slice (some ⟨g, o, none⟩) len cap) := (hb1.cell (p := ⟨t, 5, none⟩) (by simp; omega)).trans (by go_simp); have yc : ∀ j v, w.cell? ⟨g, j, none⟩ = some v → w1.cell? ⟨g, j, none⟩ = some v := (fun j v hv => (hb1.cell (p := ⟨g, j, none⟩) (by simp; omega)).trans (by go_simp)))
  exact bodyPost_ret (v := .tuple #[.agg #[.int .i64 x0, .int .i64 x1, .int .i64 x2, .int .i64 x3, .int .i64 x4], .bool true]) (by simp only [results, Try.results29]; go_simp) rfl ⟨rfl, (by have s0_ := hb1.size; (try simp only [World.size_alloc, World.size_setCell, World.size_drew, sz_drewN] at s0_); repeat' (first | (with_reducible exact Below.refl _ _) | (with_reducible refine bel_call ?_ ?_ hb1) | (with_reducible refine Below.alloc ?_ ?_ _) | (with_reducible refine below_drewN ?_ _) | (with_reducible refine Below.drew ?_) | (with_reducible refine Below.setCell ?_ ?_ _) | omega | (simp; omega) | (simp; done)))⟩

theorem only_above {t c : Nat} {w V : World} {v0 v1 v2 v3 v4 : Value} (h : Only t w V) (hc : w.heap.size ≤ c) :
    Only t w (((((V.setCell ⟨c, 0, none⟩ v0).setCell ⟨c, 1, none⟩ v1).setCell ⟨c, 2, none⟩ v2).setCell ⟨c, 3, none⟩ v3).setCell ⟨c, 4, none⟩ v4) :=
  ((((h.setCell (.inr hc) _).setCell (.inr hc) _).setCell (.inr hc) _).setCell (.inr hc) _).setCell (.inr hc) _

set_option maxHeartbeats 3200000 in
theorem run_more (t g o cap len s : Nat) (E P : Int) (early cut : Bool) (r0 r1 r2 r3 r4 done : Int) (x0 x1 x2 x3 x4 : Int) (w : World) (hT : TC w t E P early cut s (.slice (some ⟨g, o, none⟩) len cap) r0 r1 r2 r3 r4 done) (hl : 2 ≤ len) (hl' : len ≤ 64) (hcap : len ≤ cap) (hgt : g ≠ t) (d0 : 0 ≤ done) (d1 : done ≤ 1000000000)
    (c0 : w.cell? ⟨g, o, none⟩ = some (.int .i64 x0)) (c1 : w.cell? ⟨g, o + 1, none⟩ = some (.int .i64 x1)) (c2 : w.cell? ⟨g, o + 2, none⟩ = some (.int .i64 x2)) (c3 : w.cell? ⟨g, o + 3, none⟩ = some (.int .i64 x3)) (c4 : w.cell? ⟨g, o + 4, none⟩ = some (.int .i64 x4)) (hg : g < w.heap.size) :
    Calls Try.prog 14 #[.pointer (some ⟨t, 0, none⟩)] w fun e w' => e = .returned (.tuple #[.agg #[.int .i64 x0, .int .i64 x1, .int .i64 x2, .int .i64 x3, .int .i64 x4], .bool true]) ∧ TC w' t E P early cut s (.slice (some ⟨g, o + 5, none⟩) (len - 1) (len - 1)) x0 x1 x2 x3 x4 (done + 1) ∧ Only t w w' := by
  have tsz := tc_size hT
  have h5 := hT.2.2.2.2.2.1
  have hh := fun w1 (hb : Below w.heap.size w w1) => head_some t g o len cap x0 x1 x2 x3 x4 w1 ((hb.cell (p := ⟨t, 5, none⟩) tsz).trans h5) (Nat.lt_of_lt_of_le tsz hb.size) (by omega) ((hb.cell (p := ⟨g, o, none⟩) hg).trans c0) ((hb.cell (p := ⟨g, o + 1, none⟩) hg).trans c1) ((hb.cell (p := ⟨g, o + 2, none⟩) hg).trans c2) ((hb.cell (p := ⟨g, o + 3, none⟩) hg).trans c3) ((hb.cell (p := ⟨g, o + 4, none⟩) hg).trans c4) (Nat.lt_of_lt_of_le hg hb.size)
  have HH := Lib.hid hh
  have HT := Lib.hid hT
  clear hh hT h5 c0 c1 c2 c3 c4
  go_enter Try.func14, Try.ntmps14
  go_upto_region 4 with (go_at_call 29; (with_reducible refine (HH.out _ ?_).mono ?_); (focus (exact (by repeat' (first | (with_reducible exact Below.refl _ _) | (with_reducible refine Below.alloc ?_ ?_ _) | (with_reducible refine below_drewN ?_ _) | (with_reducible refine Below.drew ?_) | (with_reducible refine Below.setCell ?_ ?_ _) | omega | (simp; omega) | (simp; done))))); rintro e w1 ⟨rfl, hb1⟩; have s_w1 := hb1.size; (try simp only [World.size_alloc, World.size_setCell, World.size_drew, sz_drewN] at s_w1); have z_w1_0_0 : w.heap.size < w1.heap.size := (by omega); have z_w1_0_1 : w.heap.size < w1.heap.size + 1 := (by omega); have z_w1_0_2 : w.heap.size < w1.heap.size + 1 + 1 := (by omega); have q_w1_0_0 : w1.cell? ⟨w.heap.size, 0, none⟩ = some (.int .i64 0) := (hb1.cell (p := ⟨w.heap.size, 0, none⟩) (by first | (show w.heap.size < _; omega) | (show w.heap.size < _; simp; done) | (show w.heap.size < _; simp; omega))).trans (by first | assumption | (go_simp; done)); have q_w1_0_1 : w1.cell? ⟨w.heap.size, 1, none⟩ = some (.int .i64 0) := (hb1.cell (p := ⟨w.heap.size, 1, none⟩) (by first | (show w.heap.size < _; omega) | (show w.heap.size < _; simp; done) | (show w.heap.size < _; simp; omega))).trans (by first | assumption | (go_simp; done)); have q_w1_0_2 : w1.cell? ⟨w.heap.size, 2, none⟩ = some (.int .i64 0) := (hb1.cell (p := ⟨w.heap.size, 2, none⟩) (by first | (show w.heap.size < _; omega) | (show w.heap.size < _; simp; done) | (show w.heap.size < _; simp; omega))).trans (by first | assumption | (go_simp; done)); have q_w1_0_3 : w1.cell? ⟨w.heap.size, 3, none⟩ = some (.int .i64 0) := (hb1.cell (p := ⟨w.heap.size, 3, none⟩) (by first | (show w.heap.size < _; omega) | (show w.heap.size < _; simp; done) | (show w.heap.size < _; simp; omega))).trans (by first | assumption | (go_simp; done)); have q_w1_0_4 : w1.cell? ⟨w.heap.size, 4, none⟩ = some (.int .i64 0) := (hb1.cell (p := ⟨w.heap.size, 4, none⟩) (by first | (show w.heap.size < _; omega) | (show w.heap.size < _; simp; done) | (show w.heap.size < _; simp; omega))).trans (by first | assumption | (go_simp; done)); have wf : ∀ o, w1.frozen? ⟨w.heap.size, o, none⟩ = false := (fun o => (hb1.frozen (p := ⟨w.heap.size, o, none⟩) (by simp)).trans (by go_simp)))
  refine gen_world (F := fun V => TC V t E P early cut s (.slice (some ⟨g, o, none⟩) len cap) r0 r1 r2 r3 r4 done ∧ V.cell? ⟨w.heap.size, 0, none⟩ = some (.int .i64 (0)) ∧ V.cell? ⟨w.heap.size, 1, none⟩ = some (.int .i64 (0)) ∧ V.cell? ⟨w.heap.size, 2, none⟩ = some (.int .i64 (0)) ∧ V.cell? ⟨w.heap.size, 3, none⟩ = some (.int .i64 (0)) ∧ V.cell? ⟨w.heap.size, 4, none⟩ = some (.int .i64 (0)) ∧ (∀ o, V.frozen? ⟨w.heap.size, o, none⟩ = false) ∧ w.heap.size < V.heap.size ∧ V.cell? ⟨w1.heap.size, 0, none⟩ = some (.int .i64 (x0)) ∧ V.cell? ⟨w1.heap.size, 1, none⟩ = some (.int .i64 (x1)) ∧ V.cell? ⟨w1.heap.size, 2, none⟩ = some (.int .i64 (x2)) ∧ V.cell? ⟨w1.heap.size, 3, none⟩ = some (.int .i64 (x3)) ∧ V.cell? ⟨w1.heap.size, 4, none⟩ = some (.int .i64 (x4)) ∧ (∀ o, V.frozen? ⟨w1.heap.size, o, none⟩ = false) ∧ w1.heap.size < V.heap.size ∧ Only t w V) ⟨HT.out.keepb (by have s0_ := hb1.size; (try simp only [World.size_alloc, World.size_setCell, World.size_drew, sz_drewN] at s0_); repeat' (first | (with_reducible exact Below.refl _ _) | (with_reducible refine bel_call ?_ ?_ hb1) | (with_reducible refine Below.alloc ?_ ?_ _) | (with_reducible refine below_drewN ?_ _) | (with_reducible refine Below.drew ?_) | (with_reducible refine Below.setCell ?_ ?_ _) | omega | (simp; omega) | (simp; done))), ?_, ?_, ?_, ?_, ?_, ?_, ?_, ?_, ?_, ?_, ?_, ?_, ?_, ?_, (by repeat' (first | (with_reducible exact Only.refl _ _) | (with_reducible refine only_call ?_ hb1) | (with_reducible refine Only.trans ?_ hb1) | (with_reducible refine Only.alloc ?_ _) | (with_reducible refine only_drewN ?_ _) | (with_reducible refine Only.drew ?_) | (with_reducible refine Only.setCell ?_ ?_ _) | (exact Or.inl rfl) | (right; first | omega | (simp; done) | (simp; omega)) | omega | (simp; omega) | (simp; done)))⟩ ?_
  iterate 5 (focus (go_simp; done))
  · intro o; go_simp
  · simp; omega
  iterate 5 (focus (go_simp; done))
  · intro o; go_simp
  · simp
  have hX : w.heap.size < w1.heap.size := by omega
  generalize w1.heap.size = X at *
  clear hb1 wf s_w1 q_w1_0_0 q_w1_0_1 q_w1_0_2 q_w1_0_3 q_w1_0_4 HT HH
  rintro V ⟨hT, l0, l1, l2, l3, l4, lf, ls, y0, y1, y2, y3, y4, yf, ys, vo⟩
  obtain ⟨h0, h1, h2, h3, h4, h5, h6, h7, h8, h9, h10, h11, hf, hs⟩ := hT
  have VO := Lib.hid vo
  clear vo
  go_big_region
  go_upto_region 7 with fail
  refine gen_world (F := fun V2 => TC V2 t E P early cut s (.slice (some ⟨g, o + 5, none⟩) (len - 1) (len - 1)) x0 x1 x2 x3 x4 (done + 1) ∧ V2.cell? ⟨w.heap.size, 0, none⟩ = some (.int .i64 (0)) ∧ V2.cell? ⟨w.heap.size, 1, none⟩ = some (.int .i64 (0)) ∧ V2.cell? ⟨w.heap.size, 2, none⟩ = some (.int .i64 (0)) ∧ V2.cell? ⟨w.heap.size, 3, none⟩ = some (.int .i64 (0)) ∧ V2.cell? ⟨w.heap.size, 4, none⟩ = some (.int .i64 (0)) ∧ (∀ o, V2.frozen? ⟨w.heap.size, o, none⟩ = false) ∧ w.heap.size < V2.heap.size ∧ V2.cell? ⟨X, 0, none⟩ = some (.int .i64 (x0)) ∧ V2.cell? ⟨X, 1, none⟩ = some (.int .i64 (x1)) ∧ V2.cell? ⟨X, 2, none⟩ = some (.int .i64 (x2)) ∧ V2.cell? ⟨X, 3, none⟩ = some (.int .i64 (x3)) ∧ V2.cell? ⟨X, 4, none⟩ = some (.int .i64 (x4)) ∧ (∀ o, V2.frozen? ⟨X, o, none⟩ = false) ∧ X < V2.heap.size ∧ Only t w V2) ⟨⟨?_, ?_, ?_, ?_, ?_, ?_, ?_, ?_, ?_, ?_, ?_, ?_, ?_, ?_⟩, ?_, ?_, ?_, ?_, ?_, ?_, ?_, ?_, ?_, ?_, ?_, ?_, ?_, ?_, ?_⟩ ?_
  iterate 12 (focus (go_simp; done))
  · intro o; go_simp
  · simp; omega
  iterate 5 (focus (go_simp; done))
  · intro o; go_simp
  · simp; omega
  iterate 5 (focus (go_simp; done))
  · intro o; go_simp
  · simp; omega
  · exact Only.trans VO.out (by repeat' (first | (with_reducible exact Only.refl _ _) | (with_reducible refine Only.alloc ?_ _) | (with_reducible refine only_drewN ?_ _) | (with_reducible refine Only.drew ?_) | (with_reducible refine Only.setCell ?_ ?_ _) | (exact Or.inl rfl) | (right; first | omega | (simp; done) | (simp; omega)) | omega | (simp; omega) | (simp; done)))
  clear l0 l1 l2 l3 l4 lf ls y0 y1 y2 y3 y4 yf ys h0 h1 h2 h3 h4 h5 h6 h7 h8 h9 h10 h11 hf hs VO
  rintro V2 ⟨hT, l0, l1, l2, l3, l4, lf, ls, y0, y1, y2, y3, y4, yf, ys, vo⟩
  have HT2 := Lib.hid hT
  have VO := Lib.hid vo
  clear hT vo
  go_wp2
  exact bodyPost_ret (v := .tuple #[.agg #[.int .i64 x0, .int .i64 x1, .int .i64 x2, .int .i64 x3, .int .i64 x4], .bool true]) (by simp only [results, Try.results14]; go_simp) rfl ⟨rfl, HT2.out.keep (c := w.heap.size) (by repeat' (first | (with_reducible exact Only.refl _ _) | (with_reducible refine Only.alloc ?_ _) | (with_reducible refine only_drewN ?_ _) | (with_reducible refine Only.drew ?_) | (with_reducible refine Only.setCell ?_ ?_ _) | (exact Or.inl rfl) | (right; first | omega | (simp; done) | (simp; omega)) | omega | (simp; omega) | (simp; done))) (by omega), only_above VO.out (by omega)⟩

set_option maxHeartbeats 3200000 in
theorem run_last (t g o cap s : Nat) (E P : Int) (early cut : Bool) (r0 r1 r2 r3 r4 done : Int) (x0 x1 x2 x3 x4 : Int) (w : World) (hT : TC w t E P early cut s (.slice (some ⟨g, o, none⟩) 1 cap) r0 r1 r2 r3 r4 done) (hcap : 1 ≤ cap) (hgt : g ≠ t) (d0 : 0 ≤ done) (d1 : done ≤ 1000000000)
    (c0 : w.cell? ⟨g, o, none⟩ = some (.int .i64 x0)) (c1 : w.cell? ⟨g, o + 1, none⟩ = some (.int .i64 x1)) (c2 : w.cell? ⟨g, o + 2, none⟩ = some (.int .i64 x2)) (c3 : w.cell? ⟨g, o + 3, none⟩ = some (.int .i64 x3)) (c4 : w.cell? ⟨g, o + 4, none⟩ = some (.int .i64 x4)) (hg : g < w.heap.size) :
    Calls Try.prog 14 #[.pointer (some ⟨t, 0, none⟩)] w fun e w' => e = .returned (.tuple #[.agg #[.int .i64 x0, .int .i64 x1, .int .i64 x2, .int .i64 x3, .int .i64 x4], .bool true]) ∧ TC w' t E P early cut s (.slice (some ⟨g, o, none⟩) 0 0) x0 x1 x2 x3 x4 (done + 1) ∧ Only t w w' := by
  have tsz := tc_size hT
  have h5 := hT.2.2.2.2.2.1
  have hh := fun w1 (hb : Below w.heap.size w w1) => head_some t g o 1 cap x0 x1 x2 x3 x4 w1 ((hb.cell (p := ⟨t, 5, none⟩) tsz).trans h5) (Nat.lt_of_lt_of_le tsz hb.size) (by omega) ((hb.cell (p := ⟨g, o, none⟩) hg).trans c0) ((hb.cell (p := ⟨g, o + 1, none⟩) hg).trans c1) ((hb.cell (p := ⟨g, o + 2, none⟩) hg).trans c2) ((hb.cell (p := ⟨g, o + 3, none⟩) hg).trans c3) ((hb.cell (p := ⟨g, o + 4, none⟩) hg).trans c4) (Nat.lt_of_lt_of_le hg hb.size)
  have HH := Lib.hid hh
  have HT := Lib.hid hT
  clear hh hT h5 c0 c1 c2 c3 c4
  go_enter Try.func14, Try.ntmps14
  go_upto_region 4 with (go_at_call 29; (with_reducible refine (HH.out _ ?_).mono ?_); (focus (exact (by repeat' (first | (with_reducible exact Below.refl _ _) | (with_reducible refine Below.alloc ?_ ?_ _) | (with_reducible refine below_drewN ?_ _) | (with_reducible refine Below.drew ?_) | (with_reducible refine Below.setCell ?_ ?_ _) | omega | (simp; omega) | (simp; done))))); rintro e w1 ⟨rfl, hb1⟩; have s_w1 := hb1.size; (try simp only [World.size_alloc, World.size_setCell, World.size_drew, sz_drewN] at s_w1); have z_w1_0_0 : w.heap.size < w1.heap.size := (by omega); have z_w1_0_1 : w.heap.size < w1.heap.size + 1 := (by omega); have z_w1_0_2 : w.heap.size < w1.heap.size + 1 + 1 := (by omega); have q_w1_0_0 : w1.cell? ⟨w.heap.size, 0, none⟩ = some (.int .i64 0) := (hb1.cell (p := ⟨w.heap.size, 0, none⟩) (by first | (show w.heap.size < _; omega) | (show w.heap.size < _; simp; done) | (show w.heap.size < _; simp; omega))).trans (by first | assumption | (go_simp; done)); have q_w1_0_1 : w1.cell? ⟨w.heap.size, 1, none⟩ = some (.int .i64 0) := (hb1.cell (p := ⟨w.heap.size, 1, none⟩) (by first | (show w.heap.size < _; omega) | (show w.heap.size < _; simp; done) | (show w.heap.size < _; simp; omega))).trans (by first | assumption | (go_simp; done)); have q_w1_0_2 : w1.cell? ⟨w.heap.size, 2, none⟩ = some (.int .i64 0) := (hb1.cell (p := ⟨w.heap.size, 2, none⟩) (by first | (show w.heap.size < _; omega) | (show w.heap.size < _; simp; done) | (show w.heap.size < _; simp; omega))).trans (by first | assumption | (go_simp; done)); have q_w1_0_3 : w1.cell? ⟨w.heap.size, 3, none⟩ = some (.int .i64 0) := (hb1.cell (p := ⟨w.heap.size, 3, none⟩) (by first | (show w.heap.size < _; omega) | (show w.heap.size < _; simp; done) | (show w.heap.size < _; simp; omega))).trans (by first | assumption | (go_simp; done)); have q_w1_0_4 : w1.cell? ⟨w.heap.size, 4, none⟩ = some (.int .i64 0) := (hb1.cell (p := ⟨w.heap.size, 4, none⟩) (by first | (show w.heap.size < _; omega) | (show w.heap.size < _; simp; done) | (show w.heap.size < _; simp; omega))).trans (by first | assumption | (go_simp; done)); have wf : ∀ o, w1.frozen? ⟨w.heap.size, o, none⟩ = false := (fun o => (hb1.frozen (p := ⟨w.heap.size, o, none⟩) (by simp)).trans (by go_simp)))
  refine gen_world (F := fun V => TC V t E P early cut s (.slice (some ⟨g, o, none⟩) 1 cap) r0 r1 r2 r3 r4 done ∧ V.cell? ⟨w.heap.size, 0, none⟩ = some (.int .i64 (0)) ∧ V.cell? ⟨w.heap.size, 1, none⟩ = some (.int .i64 (0)) ∧ V.cell? ⟨w.heap.size, 2, none⟩ = some (.int .i64 (0)) ∧ V.cell? ⟨w.heap.size, 3, none⟩ = some (.int .i64 (0)) ∧ V.cell? ⟨w.heap.size, 4, none⟩ = some (.int .i64 (0)) ∧ (∀ o, V.frozen? ⟨w.heap.size, o, none⟩ = false) ∧ w.heap.size < V.heap.size ∧ V.cell? ⟨w1.heap.size, 0, none⟩ = some (.int .i64 (x0)) ∧ V.cell? ⟨w1.heap.size, 1, none⟩ = some (.int .i64 (x1)) ∧ V.cell? ⟨w1.heap.size, 2, none⟩ = some (.int .i64 (x2)) ∧ V.cell? ⟨w1.heap.size, 3, none⟩ = some (.int .i64 (x3)) ∧ V.cell? ⟨w1.heap.size, 4, none⟩ = some (.int .i64 (x4)) ∧ (∀ o, V.frozen? ⟨w1.heap.size, o, none⟩ = false) ∧ w1.heap.size < V.heap.size ∧ Only t w V) ⟨HT.out.keepb (by have s0_ := hb1.size; (try simp only [World.size_alloc, World.size_setCell, World.size_drew, sz_drewN] at s0_); repeat' (first | (with_reducible exact Below.refl _ _) | (with_reducible refine bel_call ?_ ?_ hb1) | (with_reducible refine Below.alloc ?_ ?_ _) | (with_reducible refine below_drewN ?_ _) | (with_reducible refine Below.drew ?_) | (with_reducible refine Below.setCell ?_ ?_ _) | omega | (simp; omega) | (simp; done))), ?_, ?_, ?_, ?_, ?_, ?_, ?_, ?_, ?_, ?_, ?_, ?_, ?_, ?_, (by repeat' (first | (with_reducible exact Only.refl _ _) | (with_reducible refine only_call ?_ hb1) | (with_reducible refine Only.trans ?_ hb1) | (with_reducible refine Only.alloc ?_ _) | (with_reducible refine only_drewN ?_ _) | (with_reducible refine Only.drew ?_) | (with_reducible refine Only.setCell ?_ ?_ _) | (exact Or.inl rfl) | (right; first | omega | (simp; done) | (simp; omega)) | omega | (simp; omega) | (simp; done)))⟩ ?_
  iterate 5 (focus (go_simp; done))
  · intro o; go_simp
  · simp; omega
  iterate 5 (focus (go_simp; done))
  · intro o; go_simp
  · simp
  have hX : w.heap.size < w1.heap.size := by omega
  generalize w1.heap.size = X at *
  clear hb1 wf s_w1 q_w1_0_0 q_w1_0_1 q_w1_0_2 q_w1_0_3 q_w1_0_4 HT HH
  rintro V ⟨hT, l0, l1, l2, l3, l4, lf, ls, y0, y1, y2, y3, y4, yf, ys, vo⟩
  obtain ⟨h0, h1, h2, h3, h4, h5, h6, h7, h8, h9, h10, h11, hf, hs⟩ := hT
  have VO := Lib.hid vo
  clear vo
  go_big_region
  go_upto_region 7 with fail
  refine gen_world (F := fun V2 => TC V2 t E P early cut s (.slice (some ⟨g, o, none⟩) 0 0) x0 x1 x2 x3 x4 (done + 1) ∧ V2.cell? ⟨w.heap.size, 0, none⟩ = some (.int .i64 (0)) ∧ V2.cell? ⟨w.heap.size, 1, none⟩ = some (.int .i64 (0)) ∧ V2.cell? ⟨w.heap.size, 2, none⟩ = some (.int .i64 (0)) ∧ V2.cell? ⟨w.heap.size, 3, none⟩ = some (.int .i64 (0)) ∧ V2.cell? ⟨w.heap.size, 4, none⟩ = some (.int .i64 (0)) ∧ (∀ o, V2.frozen? ⟨w.heap.size, o, none⟩ = false) ∧ w.heap.size < V2.heap.size ∧ V2.cell? ⟨X, 0, none⟩ = some (.int .i64 (x0)) ∧ V2.cell? ⟨X, 1, none⟩ = some (.int .i64 (x1)) ∧ V2.cell? ⟨X, 2, none⟩ = some (.int .i64 (x2)) ∧ V2.cell? ⟨X, 3, none⟩ = some (.int .i64 (x3)) ∧ V2.cell? ⟨X, 4, none⟩ = some (.int .i64 (x4)) ∧ (∀ o, V2.frozen? ⟨X, o, none⟩ = false) ∧ X < V2.heap.size ∧ Only t w V2) ⟨⟨?_, ?_, ?_, ?_, ?_, ?_, ?_, ?_, ?_, ?_, ?_, ?_, ?_, ?_⟩, ?_, ?_, ?_, ?_, ?_, ?_, ?_, ?_, ?_, ?_, ?_, ?_, ?_, ?_, ?_⟩ ?_
  iterate 12 (focus (go_simp; done))
  · intro o; go_simp
  · simp; omega
  iterate 5 (focus (go_simp; done))
  · intro o; go_simp
  · simp; omega
  iterate 5 (focus (go_simp; done))
  · intro o; go_simp
  · simp; omega
  · exact Only.trans VO.out (by repeat' (first | (with_reducible exact Only.refl _ _) | (with_reducible refine Only.alloc ?_ _) | (with_reducible refine only_drewN ?_ _) | (with_reducible refine Only.drew ?_) | (with_reducible refine Only.setCell ?_ ?_ _) | (exact Or.inl rfl) | (right; first | omega | (simp; done) | (simp; omega)) | omega | (simp; omega) | (simp; done)))
  clear l0 l1 l2 l3 l4 lf ls y0 y1 y2 y3 y4 yf ys h0 h1 h2 h3 h4 h5 h6 h7 h8 h9 h10 h11 hf hs VO
  rintro V2 ⟨hT, l0, l1, l2, l3, l4, lf, ls, y0, y1, y2, y3, y4, yf, ys, vo⟩
  have HT2 := Lib.hid hT
  have VO := Lib.hid vo
  clear hT vo
  go_wp2
  exact bodyPost_ret (v := .tuple #[.agg #[.int .i64 x0, .int .i64 x1, .int .i64 x2, .int .i64 x3, .int .i64 x4], .bool true]) (by simp only [results, Try.results14]; go_simp) rfl ⟨rfl, HT2.out.keep (c := w.heap.size) (by repeat' (first | (with_reducible exact Only.refl _ _) | (with_reducible refine Only.alloc ?_ _) | (with_reducible refine only_drewN ?_ _) | (with_reducible refine Only.drew ?_) | (with_reducible refine Only.setCell ?_ ?_ _) | (exact Or.inl rfl) | (right; first | omega | (simp; done) | (simp; omega)) | omega | (simp; omega) | (simp; done))) (by omega), only_above VO.out (by omega)⟩
end Go.Proofs.Ytkmgkggkdmlkeaa
