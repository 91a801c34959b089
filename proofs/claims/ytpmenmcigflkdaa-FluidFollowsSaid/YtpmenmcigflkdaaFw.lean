/- The walk of FluidFollows. Written by genfw.py. -/
import Derived.Test.YtpmenmcigflkdaaFf
import Derived.Test.YtpmenmcigflkdaaRfo
import Derived.Test.YtpmenmcigflkdaaFrame
import Derived.Laws.MakeOwn
import Derived.Deep.DeepCutAuto
namespace Go.Proofs.Ytpmenmcigflkdaa
open Go.RowKit
set_option linter.unusedVariables false
set_option linter.unusedSimpArgs false

theorem add_block (x : Addr) (k : Nat) : (x.add k).block = x.block := by unfold Addr.add; split <;> rfl
theorem Bools.wide {n₀ m : Nat} {W : World} {sv : Value} {zs : List Bool} (h : n₀ ≤ m) : Bools n₀ W sv zs → Bools m W sv zs
  | .inl e => .inl e
  | .inr ⟨b, off, cap, e, hb, hl, hc⟩ => .inr ⟨b, off, cap, e, by omega, hl, hc⟩
theorem bits_bool : ∃ i, Try.prog.info? 4 = some i ∧ i.bytes = 1 ∧ i.size = 1 ∧ i.zero = some (.bool false) := by
  have h : (Try.prog.info? 4).map (fun i => (i.bytes, i.size, i.zero)) = some (1, 1, some (.bool false)) := by kernel_rfl
  obtain ⟨i, hi, hb⟩ := Option.map_eq_some_iff.1 h
  injection hb with h1 h2
  injection h2 with h2 h3
  exact ⟨i, hi, h1, h2, h3⟩
theorem mk_bools : ∃ M : Array Value, M.size = 1400 ∧ (∀ j, j < 1400 → M[j]? = some (.bool false)) ∧ ∀ w, (Instr.makeSlice 47 (.int .i64 1400) (.int .i64 1400)).run Try.prog w = .ok (.slice (some ⟨w.heap.size, 0, none⟩) 1400 1400) (w.alloc (.cells M 4)) := by
  obtain ⟨i, hi, hb, hs, hz⟩ := bits_bool
  refine ⟨madeCells #[.bool false] 1400, by simp [madeCells], fun j hj => by simp [madeCells, hj, Nat.mod_one], fun w => ?_⟩
  have := run_make (P := Try.prog) w 47 4 i (.bool false) Try.underlying47 hi hz .i64 .i64 1400 1400 (by omega) (Int.le_refl _) (by rw [hb]; omega) (by omega)
  rw [hs] at this
  exact this
/-- The row's cells. -/
def RB (W : World) (g : Nat) (bs : List Bool) : Prop := g < W.heap.size ∧ ∀ j, j < 1400 → W.cell? ⟨g, j, none⟩ = some (.bool (bs[j]?.getD false)) ∧ W.frozen? ⟨g, j, none⟩ = false
theorem RB.block {w w' : World} {g : Nat} {bs : List Bool} (h : RB w g bs) (hs : w.heap.size ≤ w'.heap.size) (k : w'.heap[g]? = w.heap[g]?) : RB w' g bs :=
  ⟨Nat.lt_of_lt_of_le h.1 hs, fun c hc => ⟨(World.cell?_of_block (w := w) (a := ⟨g, c, none⟩) k).trans (h.2 c hc).1, (World.frozen?_of_block (w := w) (a := ⟨g, c, none⟩) k).trans (h.2 c hc).2⟩⟩
theorem cell_other (w : World) (b o j : Nat) (v : Value) (h : j ≠ o) : (w.setCell ⟨b, o, none⟩ v).cell? ⟨b, j, none⟩ = w.cell? ⟨b, j, none⟩ := by
  go_simp
theorem RB.set {w : World} {g t : Nat} {bs : List Bool} (h : RB w g bs) (hl : bs.length = 1400) (ht : t < 1400) : RB (w.setCell ⟨g, t, none⟩ (.bool true)) g (bs.set t true) := by
  refine ⟨by simpa [World.setCell] using h.1, fun j hj => ⟨?_, by rw [World.frozen?_setCell]; exact (h.2 j hj).2⟩⟩
  by_cases e : j = t
  · subst e
    rw [List.getElem?_set_self (by omega)]
    exact World.cell?_setCell_same' _ _ _ (by rw [(h.2 j hj).1]; rfl)
  · rw [List.getElem?_set_ne (by omega), cell_other _ _ _ _ _ e]
    exact (h.2 j hj).1
theorem RB.bools {w : World} {g n₀ : Nat} {bs : List Bool} (h : RB w g bs) (hn : g < n₀) (hl : bs.length = 1400) (en : Nat) (he : en ≤ 1400) : Bools n₀ w (.slice (some ⟨g, 0, none⟩) en 1400) (bs.take en) := by
  have e : (bs.take en).length = en := by rw [List.length_take]; omega
  refine .inr ⟨g, 0, 1400, by rw [e], hn, by omega, fun j hj => ?_⟩
  rw [e] at hj
  rw [List.getElem?_take_of_lt hj, Nat.zero_add]
  exact (h.2 j (by omega)).1

set_option maxRecDepth 8000 in
set_option maxHeartbeats 12800000 in
theorem walk_FluidFollows (a00 a01 : Int) (a1 : Option Addr) (len1 cap1 : Nat) (z1 : List Int) (a20 a21 : Int) (w : World) (_f00 : (Lit.int .i64 a00).wf = true) (_f01 : (Lit.int .i64 a01).wf = true) (f1 : IsRow .i64 w a1 len1 cap1 z1) (_f20 : (Lit.int .i64 a20).wf = true) (_f21 : (Lit.int .i64 a21).wf = true) :
    Calls Try.prog 13 #[.agg #[.int .i64 a00, .int .i64 a01], .slice a1 len1 cap1, .agg #[.int .i64 a20, .int .i64 a21]] w fun e w' => e = .returned (.bool true) ∧ Below w.heap.size w w' := by
  have hat : Hid (∀ i, i < len1 → ∃ x, a1 = some x ∧ w.cell? (x.add i) = some (.int .i64 (z1.getD i 0)) ∧ x.block < w.heap.size) := by
    intro i hi
    rcases f1 with ⟨_, h, _⟩ | ⟨x, h1, h2, h3, h4, h5, h6, h7⟩
    · omega
    · exact ⟨x, h1, h5 i (by omega), h7 (by omega)⟩
  have hlen : (len1 : Int) ≤ 9223372036854775807 := by
    rcases f1 with ⟨_, h, _⟩ | ⟨x, h1, h2, h3, h4, h5, h6, h7⟩
    · omega
    · have h3' : cap1 ≤ 9223372036854775807 := h3
      omega
  clear f1
  obtain ⟨y0, y1⟩ := tmod_bd a01 40 (by omega)
  obtain ⟨y2, y3⟩ := tmod2_bd a01 40 (by omega)
  obtain ⟨r, hr⟩ : ∃ r, (a01.tmod 40 + 40).tmod 40 = r := ⟨_, rfl⟩
  rw [hr] at y2 y3
  obtain ⟨P, hP⟩ : ∃ P, 1 + r = P := ⟨_, rfl⟩
  have k1 : IntKind.i64.wrap (a01.tmod 40) = a01.tmod 40 := wrap_in _ (by omega) (by omega)
  have k2 : IntKind.i64.wrap (a01.tmod 40 + 40) = a01.tmod 40 + 40 := wrap_in _ (by omega) (by omega)
  have k3 : IntKind.i64.wrap r = r := wrap_in _ (by omega) (by omega)
  have k4 : IntKind.i64.wrap (1 + r) = P := by rw [hP]; exact wrap_in _ (by omega) (by omega)
  have p1 : 1 ≤ P := by omega
  have p2 : P ≤ 40 := by omega
  obtain ⟨y4, y5⟩ := tmod_bd a00 P (by omega)
  obtain ⟨y6, y7⟩ := tmod2_bd a00 P (by omega)
  obtain ⟨s, hs⟩ : ∃ s, (a00.tmod P + P).tmod P = s := ⟨_, rfl⟩
  rw [hs] at y6 y7
  obtain ⟨E, hE⟩ : ∃ E, 1 + s = E := ⟨_, rfl⟩
  have k5 : IntKind.i64.wrap (a00.tmod P) = a00.tmod P := wrap_in _ (by omega) (by omega)
  have k6 : IntKind.i64.wrap (a00.tmod P + P) = a00.tmod P + P := wrap_in _ (by omega) (by omega)
  have k7 : IntKind.i64.wrap s = s := wrap_in _ (by omega) (by omega)
  have k8 : IntKind.i64.wrap (1 + s) = E := by rw [hE]; exact wrap_in _ (by omega) (by omega)
  have k9 : ¬ P = 0 := by omega
  have e1 : 1 ≤ E := by omega
  have e2 : E ≤ P := by omega
  obtain ⟨M, hMs, hM, hmk⟩ := mk_bools
  go_enter Try.func13, Try.ntmps13
  go_upto_region 5 with (go_at_call 25; refine (awake09 _).mono ?_; rintro e w1 ⟨rfl, hb1⟩; have s_w1 := hb1.size; (try simp only [World.size_alloc, World.size_setCell, World.size_drew, sz_drewN] at s_w1); have z_w1_0_0 : w.heap.size < w1.heap.size := (by omega); have z_w1_0_1 : w.heap.size < w1.heap.size + 1 := (by omega); have z_w1_0_2 : w.heap.size < w1.heap.size + 1 + 1 := (by omega); have q_w1_0_0 : w1.cell? ⟨w.heap.size, 0, none⟩ = some (.int .i64 a00) := (hb1.cell (p := ⟨w.heap.size, 0, none⟩) (by first | (show w.heap.size < _; omega) | (show w.heap.size < _; simp; done) | (show w.heap.size < _; simp; omega))).trans (by first | assumption | (go_simp; done)); have q_w1_0_1 : w1.cell? ⟨w.heap.size, 1, none⟩ = some (.int .i64 a01) := (hb1.cell (p := ⟨w.heap.size, 1, none⟩) (by first | (show w.heap.size < _; omega) | (show w.heap.size < _; simp; done) | (show w.heap.size < _; simp; omega))).trans (by first | assumption | (go_simp; done)); have z_w1_1_0 : w.heap.size + 1 < w1.heap.size := (by omega); have z_w1_1_1 : w.heap.size + 1 < w1.heap.size + 1 := (by omega); have z_w1_1_2 : w.heap.size + 1 < w1.heap.size + 1 + 1 := (by omega); have q_w1_1_0 : w1.cell? ⟨w.heap.size + 1, 0, none⟩ = some (.int .i64 a20) := (hb1.cell (p := ⟨w.heap.size + 1, 0, none⟩) (by first | (show w.heap.size + 1 < _; omega) | (show w.heap.size + 1 < _; simp; done) | (show w.heap.size + 1 < _; simp; omega))).trans (by first | assumption | (go_simp; done)); have q_w1_1_1 : w1.cell? ⟨w.heap.size + 1, 1, none⟩ = some (.int .i64 a21) := (hb1.cell (p := ⟨w.heap.size + 1, 1, none⟩) (by first | (show w.heap.size + 1 < _; omega) | (show w.heap.size + 1 < _; simp; done) | (show w.heap.size + 1 < _; simp; omega))).trans (by first | assumption | (go_simp; done)))
  obtain ⟨B, hB⟩ : ∃ B, w1.heap.size = B := ⟨_, rfl⟩
  have hBw : w.heap.size + 1 < B := by omega
  refine gen_world (F := fun V => V.cell? ⟨B, 0, none⟩ = some (.int .i64 E) ∧ V.cell? ⟨B, 1, none⟩ = some (.int .i64 P) ∧ V.cell? ⟨w.heap.size + 1, 0, none⟩ = some (.int .i64 a20) ∧ V.cell? ⟨w.heap.size + 1, 1, none⟩ = some (.int .i64 a21) ∧ RB V (B + 1) (List.replicate 1400 false) ∧ Below w.heap.size w V) ⟨?_, ?_, ?_, ?_, ?_, (by have s0_ := hb1.size; (try simp only [World.size_alloc, World.size_setCell, World.size_drew, sz_drewN] at s0_); repeat' (first | (with_reducible exact Below.refl _ _) | (with_reducible refine bel_call ?_ ?_ hb1) | (with_reducible refine Below.alloc ?_ ?_ _) | (with_reducible refine below_drewN ?_ _) | (with_reducible refine Below.drew ?_) | (with_reducible refine Below.setCell ?_ ?_ _) | omega | (simp; omega) | (simp; done)))⟩ ?_
  iterate 4 (focus ((try rw [← hB]); clear hB; go_simp; done))
  · rw [← hB]
    clear hB
    refine ⟨by simp, fun c hc => ⟨?_, by go_simp⟩⟩
    refine (World.cell?_alloc_at _ _ _ _ (by simp)).trans ?_
    rw [hM c hc, List.getElem?_replicate]
    split <;> rfl
  simp only [hB]
  rintro V ⟨d0, d1, d2, d3, hrb, hbv⟩
  clear k1 k2 k3 k4 k5 k6 k7 k8 k9 y0 y1 y2 y3 y4 y5 y6 y7 hr hs hP hE hmk hMs hM hb1 s_w1 q_w1_0_0 q_w1_0_1 q_w1_1_0 q_w1_1_1 z_w1_0_0 z_w1_0_1 z_w1_0_2 z_w1_1_0 z_w1_1_1 z_w1_1_2 hB
  have e3 : P ≤ 1048576 := by omega
  have HRB0 := Lib.hid hrb
  have HFL0 := Lib.hid (Fol.start E P)
  have d00 : Hid (Win.dl E P (0 : Nat) = 0) := by
    show _ = _
    exact Win.up_unique (by omega) (by simp) (by simp; omega)
  clear hrb
  go_wp2
  go_loopw [11, 12, 13, 14] (fun s11 s12 s13 s14 wr => ∃ (k : Nat) (last en : Int) (bs : List Bool), s11 = .int .i64 last ∧ s12 = .int .i64 en ∧ s13 = .int .i64 k ∧ s14 = .int .i64 k ∧ k ≤ len1 ∧ k ≤ 30 ∧ en = Win.dl E P k ∧ Fol E P k last bs ∧ RB wr (B + 1) bs ∧ Below w.heap.size w wr ∧ wr.cell? ⟨B, 0, none⟩ = some (.int .i64 E) ∧ wr.cell? ⟨B, 1, none⟩ = some (.int .i64 P) ∧ wr.cell? ⟨w.heap.size + 1, 0, none⟩ = some (.int .i64 a20) ∧ wr.cell? ⟨w.heap.size + 1, 1, none⟩ = some (.int .i64 a21)) (fun _ _ _ s14 _ => 31 - (intOf s14).toNat)
  case atStart => exact ⟨0, -1, 0, _, rfl, rfl, rfl, rfl, by omega, by omega, d00.out.symm, HFL0.out, HRB0.out, hbv, d0, d1, d2, d3⟩
  case round =>
    clear HRB0 HFL0 hbv d0 d1 d2 d3
    obtain ⟨k, last, en, bs, rfl, rfl, rfl, rfl, hk1, hk2, hen, hF, hrb, hbv, d0, d1, d2, d3⟩ := hrel
    have HRB := Lib.hid hrb
    have hgz := hrb.1
    have hvz := hbv.size
    have hup := hF.up
    have hlo := hF.lo
    have hF := Lib.hid hF
    clear hrb
    by_cases hgo : k < len1 ∧ k < 30
    · obtain ⟨g1, g2⟩ := hgo
      have g3 : (k : Int) < len1 := by omega
      have g4 : (k : Int) < 30 := by omega
      obtain ⟨x, rfl, zc, zb⟩ := hat.out k g1
      have zc : wr.cell? (x.add k) = some (.int .i64 (z1.getD k 0)) := (hbv.cell (p := x.add k) (by rw [add_block]; exact zb)).trans zc
      obtain ⟨zk, hzk⟩ : ∃ zk, z1.getD k 0 = zk := ⟨_, rfl⟩
      rw [hzk] at zc
      clear hzk
      obtain ⟨rm1, rm2⟩ := hF.out.room e1 e2
      obtain ⟨db0, db1⟩ := dl_bd e1 e2 p2 (k := k + 1) (by omega) (by omega)
      have rb0 := rel_bd e1 e2 (k := (k : Int) + 1) (by omega)
      have ho := fun w => rof_yes E P (k + 1) 0 w e1 e2 e3 (by omega) (by omega) (by omega) (by omega)
      simp only [Int.add_zero] at ho
      have HR0 : Hid (Win.rel E P ((k : Int) + 1) = Win.rel E P ((k : Int) + 1)) := rfl
      obtain ⟨R, hR⟩ : ∃ R, Win.rel E P ((k : Int) + 1) = R := ⟨_, rfl⟩
      obtain ⟨D, hD⟩ : ∃ D, Win.dl E P ((k : Int) + 1) = D := ⟨_, rfl⟩
      rw [hR, hD] at ho
      rw [hR] at rm2 rb0
      rw [hD] at rm1 rm2 db0 db1
      clear HR0
      have HR0 := Lib.hid hR
      have HD0 := Lib.hid hD
      have HO := Lib.hid ho
      clear ho hR hD hen
      have k0 : IntKind.i64.wrap ((k : Int) + 1) = (k : Int) + 1 := wrap_in _ (by omega) (by omega)
      by_cases hrl : R ≤ last
      · have hrl' := hrl
        obtain ⟨rm, hrm⟩ : ∃ rm, D - (last + 1) = rm := ⟨_, rfl⟩
        obtain ⟨x2, x3⟩ := tmod_bd zk rm (by omega)
        obtain ⟨x0, x1⟩ := tmod2_bd zk rm (by omega)
        obtain ⟨u, hu⟩ : ∃ u, zk.tmod rm = u := ⟨_, rfl⟩
        rw [hu] at x0 x1 x2 x3
        obtain ⟨u2, hu2⟩ : ∃ u2, (u + rm).tmod rm = u2 := ⟨_, rfl⟩
        rw [hu2] at x0 x1
        obtain ⟨tn, htn⟩ : ∃ tn : Nat, (last + 1) + u2 = (tn : Int) := ⟨((last + 1) + u2).toNat, by omega⟩
        have hnx := Lib.hid (hF.out.next tn (by omega) (by rw [HR0.out]; omega) (by rw [HD0.out]; omega) (by omega))
        have v0 : IntKind.i64.wrap (D - (last + 1)) = rm := by rw [hrm]; exact wrap_in _ (by omega) (by omega)
        have v1 : IntKind.i64.wrap u = u := wrap_in _ (by omega) (by omega)
        have v2 : IntKind.i64.wrap (u + rm) = u + rm := wrap_in _ (by omega) (by omega)
        have v3 : IntKind.i64.wrap u2 = u2 := wrap_in _ (by omega) (by omega)
        have v4 : IntKind.i64.wrap ((last + 1) + u2) = tn := by rw [htn]; exact wrap_in _ (by omega) (by omega)
        have v5 : IntKind.i64.wrap ((last : Int) + 1) = last + 1 := wrap_in _ (by omega) (by omega)
        have v6 : ¬ rm = 0 := by omega
        have v7 : ¬ D ≤ (last + 1) := by omega
        have v8 : ¬ (1400 : Int) ≤ D := by omega
        have v9 : tn < 1400 := by omega
        have v10 : (tn : Int) < 1400 := by omega
        go_wp2_with (go_at_call 39; (with_reducible refine (HO.out _).mono ?_); rintro e w4 ⟨rfl, hb4⟩; have s_w4 := hb4.size; (try simp only [World.size_alloc, World.size_setCell, World.size_drew, sz_drewN] at s_w4); have z_w4_0_0 : B < w4.heap.size := (by omega); have z_w4_0_1 : B < w4.heap.size + 1 := (by omega); have z_w4_0_2 : B < w4.heap.size + 1 + 1 := (by omega); have q_w4_0_0 : w4.cell? ⟨B, 0, none⟩ = some (.int .i64 E) := (hb4.cell (p := ⟨B, 0, none⟩) (by first | (show B < _; omega) | (show B < _; simp; done) | (show B < _; simp; omega))).trans (by first | assumption | (go_simp; done)); have q_w4_0_1 : w4.cell? ⟨B, 1, none⟩ = some (.int .i64 P) := (hb4.cell (p := ⟨B, 1, none⟩) (by first | (show B < _; omega) | (show B < _; simp; done) | (show B < _; simp; omega))).trans (by first | assumption | (go_simp; done)); have z_w4_1_0 : w.heap.size + 1 < w4.heap.size := (by omega); have z_w4_1_1 : w.heap.size + 1 < w4.heap.size + 1 := (by omega); have z_w4_1_2 : w.heap.size + 1 < w4.heap.size + 1 + 1 := (by omega); have q_w4_1_0 : w4.cell? ⟨w.heap.size + 1, 0, none⟩ = some (.int .i64 a20) := (hb4.cell (p := ⟨w.heap.size + 1, 0, none⟩) (by first | (show w.heap.size + 1 < _; omega) | (show w.heap.size + 1 < _; simp; done) | (show w.heap.size + 1 < _; simp; omega))).trans (by first | assumption | (go_simp; done)); have q_w4_1_1 : w4.cell? ⟨w.heap.size + 1, 1, none⟩ = some (.int .i64 a21) := (hb4.cell (p := ⟨w.heap.size + 1, 1, none⟩) (by first | (show w.heap.size + 1 < _; omega) | (show w.heap.size + 1 < _; simp; done) | (show w.heap.size + 1 < _; simp; omega))).trans (by first | assumption | (go_simp; done)); have q_z : w4.cell? (x.add k) = some (.int .i64 (zk)) := (hb4.cell (p := x.add k) (by rw [add_block]; omega)).trans zc; have q_b : (x.add k).block < w4.heap.size := (by rw [add_block]; omega); have HRB4 := Lib.hid (HRB.out.block (by omega) (hb4.block _ HRB.out.1)); have rb4 := (HRB4.out.2 tn v9).1; have rb5 := (HRB4.out.2 tn v9).2; have hg4 := HRB4.out.1)
        go_roundw
        case rel => exact ⟨k + 1, tn, D, bs.set tn true, by go_num, by go_num, by go_num, by go_num, by omega, by omega, by rw [← HD0.out]; simp, hnx.out, (RB.set HRB4.out hF.out.len v9).block (by simp) (Below.heap_alloc _ _ _ (by simp [World.setCell]; omega)), (by have s0_ := hbv.size; have s1_ := hb4.size; (try simp only [World.size_alloc, World.size_setCell, World.size_drew, sz_drewN] at s0_ s1_); repeat' (first | (with_reducible exact Below.refl _ _) | (with_reducible refine bel_call ?_ ?_ hb4) | (with_reducible refine bel_call ?_ ?_ hbv) | (with_reducible refine Below.alloc ?_ ?_ _) | (with_reducible refine below_drewN ?_ _) | (with_reducible refine Below.drew ?_) | (with_reducible refine Below.setCell ?_ ?_ _) | omega | (simp; omega) | (simp; done))), by go_simp, by go_simp, by go_simp, by go_simp⟩
        case measure => simp [intOf]; omega
      · have hrl' : last < R := by omega
        obtain ⟨rm, hrm⟩ : ∃ rm, D - R = rm := ⟨_, rfl⟩
        obtain ⟨x2, x3⟩ := tmod_bd zk rm (by omega)
        obtain ⟨x0, x1⟩ := tmod2_bd zk rm (by omega)
        obtain ⟨u, hu⟩ : ∃ u, zk.tmod rm = u := ⟨_, rfl⟩
        rw [hu] at x0 x1 x2 x3
        obtain ⟨u2, hu2⟩ : ∃ u2, (u + rm).tmod rm = u2 := ⟨_, rfl⟩
        rw [hu2] at x0 x1
        obtain ⟨tn, htn⟩ : ∃ tn : Nat, R + u2 = (tn : Int) := ⟨(R + u2).toNat, by omega⟩
        have hnx := Lib.hid (hF.out.next tn (by omega) (by rw [HR0.out]; omega) (by rw [HD0.out]; omega) (by omega))
        have v0 : IntKind.i64.wrap (D - R) = rm := by rw [hrm]; exact wrap_in _ (by omega) (by omega)
        have v1 : IntKind.i64.wrap u = u := wrap_in _ (by omega) (by omega)
        have v2 : IntKind.i64.wrap (u + rm) = u + rm := wrap_in _ (by omega) (by omega)
        have v3 : IntKind.i64.wrap u2 = u2 := wrap_in _ (by omega) (by omega)
        have v4 : IntKind.i64.wrap (R + u2) = tn := by rw [htn]; exact wrap_in _ (by omega) (by omega)
        have v5 : IntKind.i64.wrap ((last : Int) + 1) = last + 1 := wrap_in _ (by omega) (by omega)
        have v6 : ¬ rm = 0 := by omega
        have v7 : ¬ D ≤ R := by omega
        have v8 : ¬ (1400 : Int) ≤ D := by omega
        have v9 : tn < 1400 := by omega
        have v10 : (tn : Int) < 1400 := by omega
        go_wp2_with (go_at_call 39; (with_reducible refine (HO.out _).mono ?_); rintro e w4 ⟨rfl, hb4⟩; have s_w4 := hb4.size; (try simp only [World.size_alloc, World.size_setCell, World.size_drew, sz_drewN] at s_w4); have z_w4_0_0 : B < w4.heap.size := (by omega); have z_w4_0_1 : B < w4.heap.size + 1 := (by omega); have z_w4_0_2 : B < w4.heap.size + 1 + 1 := (by omega); have q_w4_0_0 : w4.cell? ⟨B, 0, none⟩ = some (.int .i64 E) := (hb4.cell (p := ⟨B, 0, none⟩) (by first | (show B < _; omega) | (show B < _; simp; done) | (show B < _; simp; omega))).trans (by first | assumption | (go_simp; done)); have q_w4_0_1 : w4.cell? ⟨B, 1, none⟩ = some (.int .i64 P) := (hb4.cell (p := ⟨B, 1, none⟩) (by first | (show B < _; omega) | (show B < _; simp; done) | (show B < _; simp; omega))).trans (by first | assumption | (go_simp; done)); have z_w4_1_0 : w.heap.size + 1 < w4.heap.size := (by omega); have z_w4_1_1 : w.heap.size + 1 < w4.heap.size + 1 := (by omega); have z_w4_1_2 : w.heap.size + 1 < w4.heap.size + 1 + 1 := (by omega); have q_w4_1_0 : w4.cell? ⟨w.heap.size + 1, 0, none⟩ = some (.int .i64 a20) := (hb4.cell (p := ⟨w.heap.size + 1, 0, none⟩) (by first | (show w.heap.size + 1 < _; omega) | (show w.heap.size + 1 < _; simp; done) | (show w.heap.size + 1 < _; simp; omega))).trans (by first | assumption | (go_simp; done)); have q_w4_1_1 : w4.cell? ⟨w.heap.size + 1, 1, none⟩ = some (.int .i64 a21) := (hb4.cell (p := ⟨w.heap.size + 1, 1, none⟩) (by first | (show w.heap.size + 1 < _; omega) | (show w.heap.size + 1 < _; simp; done) | (show w.heap.size + 1 < _; simp; omega))).trans (by first | assumption | (go_simp; done)); have q_z : w4.cell? (x.add k) = some (.int .i64 (zk)) := (hb4.cell (p := x.add k) (by rw [add_block]; omega)).trans zc; have q_b : (x.add k).block < w4.heap.size := (by rw [add_block]; omega); have HRB4 := Lib.hid (HRB.out.block (by omega) (hb4.block _ HRB.out.1)); have rb4 := (HRB4.out.2 tn v9).1; have rb5 := (HRB4.out.2 tn v9).2; have hg4 := HRB4.out.1)
        go_roundw
        case rel => exact ⟨k + 1, tn, D, bs.set tn true, by go_num, by go_num, by go_num, by go_num, by omega, by omega, by rw [← HD0.out]; simp, hnx.out, (RB.set HRB4.out hF.out.len v9).block (by simp) (Below.heap_alloc _ _ _ (by simp [World.setCell]; omega)), (by have s0_ := hbv.size; have s1_ := hb4.size; (try simp only [World.size_alloc, World.size_setCell, World.size_drew, sz_drewN] at s0_ s1_); repeat' (first | (with_reducible exact Below.refl _ _) | (with_reducible refine bel_call ?_ ?_ hb4) | (with_reducible refine bel_call ?_ ?_ hbv) | (with_reducible refine Below.alloc ?_ ?_ _) | (with_reducible refine below_drewN ?_ _) | (with_reducible refine Below.drew ?_) | (with_reducible refine Below.setCell ?_ ?_ _) | omega | (simp; omega) | (simp; done))), by go_simp, by go_simp, by go_simp, by go_simp⟩
        case measure => simp [intOf]; omega
    · have hen' := hen.symm
      have hex : ¬ (k : Int) < len1 ∨ ((k : Int) < len1 ∧ ¬ (k : Int) < 30) := by omega
      clear hgo
      rcases hex with g3 | ⟨g3, g4⟩
      · by_cases hk0 : k = 0
        · have T0 : ((k : Int) == 0) = true := by simp [hk0]
          have hfn : folB (fairV E P) [] = true := by
            have := hF.out.follows e1 e2 p2 hk2 0 (by rw [hk0, d00.out]; rfl)
            simpa using this
          have hfo := fun w1 => follows_any E P (fairV E P) (fun i q W => fair_any E P i q W) none 0 0 [] (by simp) w1 (.inl ⟨rfl, rfl⟩)
          rw [hfn] at hfo
          have HFO := Lib.hid hfo
          clear hfo hfn
          go_wp2_with (go_at_call 40; (with_reducible refine (HFO.out _).mono ?_); rintro e w4 ⟨rfl, hb4⟩)
          go_ret
          exact ⟨by first | rfl | (simp; done), (by have s0_ := hbv.size; have s1_ := hb4.size; (try simp only [World.size_alloc, World.size_setCell, World.size_drew, sz_drewN] at s0_ s1_); repeat' (first | (with_reducible exact Below.refl _ _) | (with_reducible refine bel_call ?_ ?_ hb4) | (with_reducible refine bel_call ?_ ?_ hbv) | (with_reducible refine Below.alloc ?_ ?_ _) | (with_reducible refine below_drewN ?_ _) | (with_reducible refine Below.drew ?_) | (with_reducible refine Below.setCell ?_ ?_ _) | omega | (simp; omega) | (simp; done)))⟩
        · have T0 : ((k : Int) == 0) = false := by simp [hk0]
          have zk : ¬ (k : Int) = 0 := by omega
          obtain ⟨db0, db1⟩ := dl_bd e1 e2 p2 (k := k) (by omega) (by omega)
          obtain ⟨m, hm⟩ : ∃ m : Nat, en = (m : Int) := ⟨en.toNat, by omega⟩
          have m1 : m ≤ 1400 := by omega
          have m2 : (m : Int) ≤ 1400 := by omega
          have hfl := hF.out.follows e1 e2 p2 hk2 m (by omega)
          have hru := hF.out.runs e1 e2 p2 hk2 (by omega) m (by omega)
          have htl : (bs.take m).length ≤ 4611686018427387904 := by rw [List.length_take]; omega
          have HBO : Hid (Bools wr.heap.size wr (.slice (some ⟨B + 1, 0, none⟩) m 1400) (bs.take m)) := HRB.out.bools hgz hF.out.len m m1
          have hfo := fun (w1 : World) (h : Bools wr.heap.size w1 (.slice (some ⟨B + 1, 0, none⟩) m 1400) (bs.take m)) (hw : wr.heap.size ≤ w1.heap.size) => follows_any E P (fairV E P) (fun i q W => fair_any E P i q W) (some ⟨B + 1, 0, none⟩) m 1400 (bs.take m) htl w1 (h.wide hw)
          have hrs := fun (w1 : World) (h : Bools wr.heap.size w1 (.slice (some ⟨B + 1, 0, none⟩) m 1400) (bs.take m)) => runs_any (some ⟨B + 1, 0, none⟩) m 1400 (bs.take m) htl w1 h
          rw [hfl] at hfo
          rw [hru] at hrs
          have HFO := Lib.hid hfo
          have HRU := Lib.hid hrs
          obtain ⟨x0, x1⟩ := tmod2_bd a20 k (by omega)
          obtain ⟨x2, x3⟩ := tmod_bd a20 k (by omega)
          obtain ⟨s2, hs2⟩ : ∃ s2, (a20.tmod k + k).tmod k = s2 := ⟨_, rfl⟩
          rw [hs2] at x0 x1
          obtain ⟨q, hq⟩ : ∃ q, 1 + s2 = q := ⟨_, rfl⟩
          have v1 : IntKind.i64.wrap (a20.tmod k) = a20.tmod k := wrap_in _ (by omega) (by omega)
          have v2 : IntKind.i64.wrap (a20.tmod k + k) = a20.tmod k + k := wrap_in _ (by omega) (by omega)
          have v3 : IntKind.i64.wrap s2 = s2 := wrap_in _ (by omega) (by omega)
          have v4 : IntKind.i64.wrap (1 + s2) = q := by rw [hq]; exact wrap_in _ (by omega) (by omega)
          have v5 : IntKind.i64.wrap (q - 1) = q - 1 := wrap_in _ (by omega) (by omega)
          have ho := fun w => rof_yes E P q 0 w e1 e2 e3 (by omega) (by omega) (by omega) (by omega)
          simp only [Int.add_zero] at ho
          have hf1 := fun w => fair_any E P (Win.dl E P q) (q - 1) w
          have hf2 := fun w => fair_any E P (Win.rel E P q) q w
          rw [late_no e1 e2] at hf1
          rw [early_no e1 e2] at hf2
          have HO := Lib.hid ho
          have HF1 := Lib.hid hf1
          have HF2 := Lib.hid hf2
          clear ho hf1 hf2 hfo hrs hfl hru htl hF HRB hen hen' db0 db1 hat hlen
          generalize Win.rel E P q = R at *
          generalize Win.dl E P q = D at *
          subst hm
          have dz := hgz
          go_upto_region 25 with fail
          try simp only [List.append]
          refine wp_region_held_drew (S := (fun x => x.cell? ⟨B, 0, none⟩ = some (.int .i64 E) ∧ x.cell? ⟨B, 1, none⟩ = some (.int .i64 P) ∧ x.cell? ⟨w.heap.size + 1, 0, none⟩ = some (.int .i64 a20) ∧ x.cell? ⟨w.heap.size + 1, 1, none⟩ = some (.int .i64 a21) ∧ B + 1 < x.heap.size)) (by kernel_rfl) ?_ (fun hHeld => ?_)
          focus (exact ⟨by simpa using d0, by simpa using d1, by simpa using d2, by simpa using d3, by simpa using dz⟩)
          (refine wpAnyH_take (i := 0) (v := ?_) rfl (by kernel_rfl) (by kernel_rfl) (by kernel_rfl) (fun _ _ _ h => h) (Or.inl ⟨by kernel_rfl, ?_⟩) (by assumption) ?_; rotate_left; (focus (intro w hSw; (try dsimp only at hSw); go_simp; (try with_reducible rfl); done)); (try simp only [List.getElem_toArray, List.getElem_cons_succ, List.getElem_cons_zero, Act.put, List.setIfInBounds_toArray, List.set_cons_zero, List.set_cons_succ]))
          (refine wpAnyH_take (i := 1) (v := ?_) rfl (by kernel_rfl) (by kernel_rfl) (by kernel_rfl) (fun _ _ _ h => h) (Or.inl ⟨by kernel_rfl, ?_⟩) (by assumption) ?_; rotate_left; (focus (intro w hSw; (try dsimp only at hSw); go_simp; (try with_reducible rfl); done)); (try simp only [List.getElem_toArray, List.getElem_cons_succ, List.getElem_cons_zero, Act.put, List.setIfInBounds_toArray, List.set_cons_zero, List.set_cons_succ]))
          (refine wpAnyH_take (i := 2) (v := ?_) rfl (by kernel_rfl) (by kernel_rfl) (by kernel_rfl) (fun _ _ _ h => h) (Or.inl ⟨by kernel_rfl, ?_⟩) (by assumption) ?_; rotate_left; (focus (intro w hSw; (try dsimp only at hSw); go_simp; (try with_reducible rfl); done)); (try simp only [List.getElem_toArray, List.getElem_cons_succ, List.getElem_cons_zero, Act.put, List.setIfInBounds_toArray, List.set_cons_zero, List.set_cons_succ]))
          (refine wpAnyH_take (i := 3) (v := ?_) rfl (by kernel_rfl) (by kernel_rfl) (by kernel_rfl) (fun _ _ _ h => h) (Or.inl ⟨by kernel_rfl, ?_⟩) (by assumption) ?_; rotate_left; (focus (intro w hSw; (try dsimp only at hSw); go_simp; (try with_reducible rfl); done)); (try simp only [List.getElem_toArray, List.getElem_cons_succ, List.getElem_cons_zero, Act.put, List.setIfInBounds_toArray, List.set_cons_zero, List.set_cons_succ]))
          (refine wpAnyH_ready (rs := [4]) (by kernel_rfl) (by simp) ?_; refine (AllReadyH.cons rfl (fun K hK => ?_) AllReadyH.nil))
          (go_simp; (go_at_call 40; (with_reducible refine (HFO.out _ ?_ ?_).mono ?_); (focus (exact HBO.out.below (((by repeat' (first | (with_reducible exact Below.refl _ _) | (with_reducible refine Below.alloc ?_ ?_ _) | (with_reducible refine below_drewN ?_ _) | (with_reducible refine Below.drew ?_) | (with_reducible refine Below.setCell ?_ ?_ _) | omega | (simp; omega) | (simp; done))) : Below wr.heap.size wr _).mono (Nat.le_refl _)))); (focus (exact ((by repeat' (first | (with_reducible exact Below.refl _ _) | (with_reducible refine Below.alloc ?_ ?_ _) | (with_reducible refine below_drewN ?_ _) | (with_reducible refine Below.drew ?_) | (with_reducible refine Below.setCell ?_ ?_ _) | omega | (simp; omega) | (simp; done))) : Below wr.heap.size wr _).size)); rintro e w4 ⟨rfl, hb4⟩; have s4 := hb4.size; (try simp only [World.size_drew, sz_drewN, World.size_alloc] at s4); have y4_0 : w4.cell? ⟨B, 0, none⟩ = some (.int .i64 E) := (hb4.cell (p := ⟨B, 0, none⟩) (by first | (simp; done) | (show B < _; omega) | (simp; omega))).trans (by go_simp); have y4_1 : w4.cell? ⟨B, 1, none⟩ = some (.int .i64 P) := (hb4.cell (p := ⟨B, 1, none⟩) (by first | (simp; done) | (show B < _; omega) | (simp; omega))).trans (by go_simp); have y4_2 : w4.cell? ⟨w.heap.size + 1, 0, none⟩ = some (.int .i64 a20) := (hb4.cell (p := ⟨w.heap.size + 1, 0, none⟩) (by first | (simp; done) | (show w.heap.size + 1 < _; omega) | (simp; omega))).trans (by go_simp); have y4_3 : w4.cell? ⟨w.heap.size + 1, 1, none⟩ = some (.int .i64 a21) := (hb4.cell (p := ⟨w.heap.size + 1, 1, none⟩) (by first | (simp; done) | (show w.heap.size + 1 < _; omega) | (simp; omega))).trans (by go_simp); have z4 : B + 1 < w4.heap.size := (by omega)); clear d0 d1 d2 d3 dz s4; (refine hK.out _ _ ?_ (fun hHeld2 => ?_); (focus (refine ⟨?_, ?_, ?_, ?_, ?_⟩ <;> first | (with_reducible assumption) | (go_simp; done) | omega | (simp; done) | (simp; omega))); clear hK K; have hHeld := hHeld2; clear hHeld2; (try simp only [List.getElem_toArray, List.getElem_cons_succ, List.getElem_cons_zero, Act.put, List.setIfInBounds_toArray, List.set_cons_zero, List.set_cons_succ])))
          (refine wpAnyH_take (i := 5) (v := ?_) rfl (by kernel_rfl) (by kernel_rfl) (by kernel_rfl) (fun _ _ _ h => h) (Or.inl ⟨by kernel_rfl, ?_⟩) (by assumption) ?_; rotate_left; (focus (intro w hSw; (try dsimp only at hSw); go_simp; (try with_reducible rfl); done)); (try simp only [List.getElem_toArray, List.getElem_cons_succ, List.getElem_cons_zero, Act.put, List.setIfInBounds_toArray, List.set_cons_zero, List.set_cons_succ]))
          (refine wpAnyH_take (i := 6) (v := ?_) rfl (by kernel_rfl) (by kernel_rfl) (by kernel_rfl) (fun _ _ _ h => h) (Or.inl ⟨by kernel_rfl, ?_⟩) (by assumption) ?_; rotate_left; (focus (intro w hSw; (try dsimp only at hSw); go_simp; (try with_reducible rfl); done)); (try simp only [List.getElem_toArray, List.getElem_cons_succ, List.getElem_cons_zero, Act.put, List.setIfInBounds_toArray, List.set_cons_zero, List.set_cons_succ]))
          (refine wpAnyH_take (i := 7) (v := ?_) rfl (by kernel_rfl) (by kernel_rfl) (by kernel_rfl) (fun _ _ _ h => h) (Or.inl ⟨by kernel_rfl, ?_⟩) (by assumption) ?_; rotate_left; (focus (intro w hSw; (try dsimp only at hSw); go_simp; (try with_reducible rfl); done)); (try simp only [List.getElem_toArray, List.getElem_cons_succ, List.getElem_cons_zero, Act.put, List.setIfInBounds_toArray, List.set_cons_zero, List.set_cons_succ]))
          (refine wpAnyH_take (i := 8) (v := ?_) rfl (by kernel_rfl) (by kernel_rfl) (by kernel_rfl) (fun _ _ _ h => h) (Or.inl ⟨by kernel_rfl, ?_⟩) (by assumption) ?_; rotate_left; (focus (intro w hSw; (try dsimp only at hSw); go_simp; (try with_reducible rfl); done)); (try simp only [List.getElem_toArray, List.getElem_cons_succ, List.getElem_cons_zero, Act.put, List.setIfInBounds_toArray, List.set_cons_zero, List.set_cons_succ]))
          (refine wpAnyH_take (i := 9) (v := ?_) rfl (by kernel_rfl) (by kernel_rfl) (by kernel_rfl) (fun _ _ _ h => h) (Or.inl ⟨by kernel_rfl, ?_⟩) (by assumption) ?_; rotate_left; (focus (intro w hSw; (try dsimp only at hSw); go_simp; (try with_reducible rfl); done)); (try simp only [List.getElem_toArray, List.getElem_cons_succ, List.getElem_cons_zero, Act.put, List.setIfInBounds_toArray, List.set_cons_zero, List.set_cons_succ]))
          (refine wpAnyH_take (i := 11) (v := ?_) rfl (by kernel_rfl) (by kernel_rfl) (by kernel_rfl) (fun _ _ _ h => h) (Or.inl ⟨by kernel_rfl, ?_⟩) (by assumption) ?_; rotate_left; (focus (intro w hSw; (try dsimp only at hSw); go_simp; (try with_reducible rfl); done)); (try simp only [List.getElem_toArray, List.getElem_cons_succ, List.getElem_cons_zero, Act.put, List.setIfInBounds_toArray, List.set_cons_zero, List.set_cons_succ]))
          (refine wpAnyH_ready (rs := [10]) (by kernel_rfl) (by simp) ?_; refine (AllReadyH.cons rfl (fun K hK => ?_) AllReadyH.nil))
          (go_simp; (go_at_call 41; (with_reducible refine (HRU.out _ ?_).mono ?_); (focus (exact HBO.out.below (((by have s0_ := hb4.size; (try simp only [World.size_alloc, World.size_setCell, World.size_drew, sz_drewN] at s0_); repeat' (first | (with_reducible exact Below.refl _ _) | (with_reducible refine bel_call ?_ ?_ hb4) | (with_reducible refine Below.alloc ?_ ?_ _) | (with_reducible refine below_drewN ?_ _) | (with_reducible refine Below.drew ?_) | (with_reducible refine Below.setCell ?_ ?_ _) | omega | (simp; omega) | (simp; done))) : Below wr.heap.size wr _).mono (Nat.le_refl _)))); rintro e w10 ⟨rfl, hw10⟩; subst hw10); (refine hK.out _ _ ?_ (fun hHeld2 => ?_); (focus (refine ⟨?_, ?_, ?_, ?_, ?_⟩ <;> first | (with_reducible assumption) | (go_simp; done) | omega | (simp; done) | (simp; omega))); clear hK K; have hHeld := hHeld2; clear hHeld2; (try simp only [List.getElem_toArray, List.getElem_cons_succ, List.getElem_cons_zero, Act.put, List.setIfInBounds_toArray, List.set_cons_zero, List.set_cons_succ])))
          (refine wpAnyH_take (i := 12) (v := ?_) rfl (by kernel_rfl) (by kernel_rfl) (by kernel_rfl) (fun _ _ _ h => h) (Or.inl ⟨by kernel_rfl, ?_⟩) (by assumption) ?_; rotate_left; (focus (intro w hSw; (try dsimp only at hSw); go_simp; (try with_reducible rfl); done)); (try simp only [List.getElem_toArray, List.getElem_cons_succ, List.getElem_cons_zero, Act.put, List.setIfInBounds_toArray, List.set_cons_zero, List.set_cons_succ]))
          (refine wpAnyH_take (i := 13) (v := ?_) rfl (by kernel_rfl) (by kernel_rfl) (by kernel_rfl) (fun _ _ _ h => h) (Or.inl ⟨by kernel_rfl, ?_⟩) (by assumption) ?_; rotate_left; (focus (intro w hSw; (try dsimp only at hSw); go_simp; (try with_reducible rfl); done)); (try simp only [List.getElem_toArray, List.getElem_cons_succ, List.getElem_cons_zero, Act.put, List.setIfInBounds_toArray, List.set_cons_zero, List.set_cons_succ]))
          refine wpAnyH_done (by kernel_rfl) ?_ _
          by_cases hr0 : R = 0
          · have T1 : (R == 0) = true := by simp [hr0]
            go_wp2_with (first
              | (go_at_call 39; (with_reducible refine (HO.out _).mono ?_); rintro e w24 ⟨rfl, hb24⟩; have s_w24 := hb24.size; (try simp only [World.size_alloc, World.size_setCell, World.size_drew, sz_drewN] at s_w24); have z_w24_0_0 : B < w24.heap.size := (by omega); have z_w24_0_1 : B < w24.heap.size + 1 := (by omega); have z_w24_0_2 : B < w24.heap.size + 1 + 1 := (by omega); have q_w24_0_0 : w24.cell? ⟨B, 0, none⟩ = some (.int .i64 E) := (hb24.cell (p := ⟨B, 0, none⟩) (by first | (show B < _; omega) | (show B < _; simp; done) | (show B < _; simp; omega))).trans (by first | assumption | (go_simp; done)); have q_w24_0_1 : w24.cell? ⟨B, 1, none⟩ = some (.int .i64 P) := (hb24.cell (p := ⟨B, 1, none⟩) (by first | (show B < _; omega) | (show B < _; simp; done) | (show B < _; simp; omega))).trans (by first | assumption | (go_simp; done)))
              | (go_at_call 29; (with_reducible refine (HF1.out _).mono ?_); rintro e w25 ⟨rfl, hb25⟩; have s_w25 := hb25.size; (try simp only [World.size_alloc, World.size_setCell, World.size_drew, sz_drewN] at s_w25); have z_w25_0_0 : B < w25.heap.size := (by omega); have z_w25_0_1 : B < w25.heap.size + 1 := (by omega); have z_w25_0_2 : B < w25.heap.size + 1 + 1 := (by omega); have q_w25_0_0 : w25.cell? ⟨B, 0, none⟩ = some (.int .i64 E) := (hb25.cell (p := ⟨B, 0, none⟩) (by first | (show B < _; omega) | (show B < _; simp; done) | (show B < _; simp; omega))).trans (by first | assumption | (go_simp; done)); have q_w25_0_1 : w25.cell? ⟨B, 1, none⟩ = some (.int .i64 P) := (hb25.cell (p := ⟨B, 1, none⟩) (by first | (show B < _; omega) | (show B < _; simp; done) | (show B < _; simp; omega))).trans (by first | assumption | (go_simp; done)); have z_w25_1_0 : w24.heap.size < w25.heap.size := (by omega); have z_w25_1_1 : w24.heap.size < w25.heap.size + 1 := (by omega); have z_w25_1_2 : w24.heap.size < w25.heap.size + 1 + 1 := (by omega); have q_w25_1_0 : w25.cell? ⟨w24.heap.size, 0, none⟩ = some (.int .i64 q) := (hb25.cell (p := ⟨w24.heap.size, 0, none⟩) (by first | (show w24.heap.size < _; omega) | (show w24.heap.size < _; simp; done) | (show w24.heap.size < _; simp; omega))).trans (by first | assumption | (go_simp; done)); have q_w25_1_1 : w25.cell? ⟨w24.heap.size, 1, none⟩ = some (.int .i64 R) := (hb25.cell (p := ⟨w24.heap.size, 1, none⟩) (by first | (show w24.heap.size < _; omega) | (show w24.heap.size < _; simp; done) | (show w24.heap.size < _; simp; omega))).trans (by first | assumption | (go_simp; done)); have q_w25_1_2 : w25.cell? ⟨w24.heap.size, 2, none⟩ = some (.int .i64 D) := (hb25.cell (p := ⟨w24.heap.size, 2, none⟩) (by first | (show w24.heap.size < _; omega) | (show w24.heap.size < _; simp; done) | (show w24.heap.size < _; simp; omega))).trans (by first | assumption | (go_simp; done)); have q_w25_1_3 : w25.cell? ⟨w24.heap.size, 3, none⟩ = some (.int .i64 (Win.bit E P q)) := (hb25.cell (p := ⟨w24.heap.size, 3, none⟩) (by first | (show w24.heap.size < _; omega) | (show w24.heap.size < _; simp; done) | (show w24.heap.size < _; simp; omega))).trans (by first | assumption | (go_simp; done)); have q_w25_1_4 : w25.cell? ⟨w24.heap.size, 4, none⟩ = some (.int .i64 (shG 0 (Win.grp E P q))) := (hb25.cell (p := ⟨w24.heap.size, 4, none⟩) (by first | (show w24.heap.size < _; omega) | (show w24.heap.size < _; simp; done) | (show w24.heap.size < _; simp; omega))).trans (by first | assumption | (go_simp; done)))
              | (go_at_call 29; (with_reducible refine (HF2.out _).mono ?_); rintro e w26 ⟨rfl, hb26⟩; have s_w26 := hb26.size; (try simp only [World.size_alloc, World.size_setCell, World.size_drew, sz_drewN] at s_w26); have z_w26_0_0 : B < w26.heap.size := (by omega); have z_w26_0_1 : B < w26.heap.size + 1 := (by omega); have z_w26_0_2 : B < w26.heap.size + 1 + 1 := (by omega); have q_w26_0_0 : w26.cell? ⟨B, 0, none⟩ = some (.int .i64 E) := (hb26.cell (p := ⟨B, 0, none⟩) (by first | (show B < _; omega) | (show B < _; simp; done) | (show B < _; simp; omega))).trans (by first | assumption | (go_simp; done)); have q_w26_0_1 : w26.cell? ⟨B, 1, none⟩ = some (.int .i64 P) := (hb26.cell (p := ⟨B, 1, none⟩) (by first | (show B < _; omega) | (show B < _; simp; done) | (show B < _; simp; omega))).trans (by first | assumption | (go_simp; done)); have z_w26_1_0 : w24.heap.size < w26.heap.size := (by omega); have z_w26_1_1 : w24.heap.size < w26.heap.size + 1 := (by omega); have z_w26_1_2 : w24.heap.size < w26.heap.size + 1 + 1 := (by omega); have q_w26_1_0 : w26.cell? ⟨w24.heap.size, 0, none⟩ = some (.int .i64 q) := (hb26.cell (p := ⟨w24.heap.size, 0, none⟩) (by first | (show w24.heap.size < _; omega) | (show w24.heap.size < _; simp; done) | (show w24.heap.size < _; simp; omega))).trans (by first | assumption | (go_simp; done)); have q_w26_1_1 : w26.cell? ⟨w24.heap.size, 1, none⟩ = some (.int .i64 R) := (hb26.cell (p := ⟨w24.heap.size, 1, none⟩) (by first | (show w24.heap.size < _; omega) | (show w24.heap.size < _; simp; done) | (show w24.heap.size < _; simp; omega))).trans (by first | assumption | (go_simp; done)); have q_w26_1_2 : w26.cell? ⟨w24.heap.size, 2, none⟩ = some (.int .i64 D) := (hb26.cell (p := ⟨w24.heap.size, 2, none⟩) (by first | (show w24.heap.size < _; omega) | (show w24.heap.size < _; simp; done) | (show w24.heap.size < _; simp; omega))).trans (by first | assumption | (go_simp; done)); have q_w26_1_3 : w26.cell? ⟨w24.heap.size, 3, none⟩ = some (.int .i64 (Win.bit E P q)) := (hb26.cell (p := ⟨w24.heap.size, 3, none⟩) (by first | (show w24.heap.size < _; omega) | (show w24.heap.size < _; simp; done) | (show w24.heap.size < _; simp; omega))).trans (by first | assumption | (go_simp; done)); have q_w26_1_4 : w26.cell? ⟨w24.heap.size, 4, none⟩ = some (.int .i64 (shG 0 (Win.grp E P q))) := (hb26.cell (p := ⟨w24.heap.size, 4, none⟩) (by first | (show w24.heap.size < _; omega) | (show w24.heap.size < _; simp; done) | (show w24.heap.size < _; simp; omega))).trans (by first | assumption | (go_simp; done))))
            go_ret
            exact ⟨by first | rfl | (simp; done), bel_call hbv hvz (by have s0_ := hb4.size; have s1_ := hb24.size; have s2_ := hb25.size; (try simp only [World.size_alloc, World.size_setCell, World.size_drew, sz_drewN] at s0_ s1_ s2_); repeat' (first | (with_reducible exact Below.refl _ _) | (with_reducible refine bel_call ?_ ?_ hb25) | (with_reducible refine bel_call ?_ ?_ hb24) | (with_reducible refine bel_call ?_ ?_ hb4) | (with_reducible refine Below.alloc ?_ ?_ _) | (with_reducible refine below_drewN ?_ _) | (with_reducible refine Below.drew ?_) | (with_reducible refine Below.setCell ?_ ?_ _) | omega | (simp; omega) | (simp; done)))⟩
          · have T1 : (R == 0) = false := by simp [hr0]
            go_wp2_with (first
              | (go_at_call 39; (with_reducible refine (HO.out _).mono ?_); rintro e w24 ⟨rfl, hb24⟩; have s_w24 := hb24.size; (try simp only [World.size_alloc, World.size_setCell, World.size_drew, sz_drewN] at s_w24); have z_w24_0_0 : B < w24.heap.size := (by omega); have z_w24_0_1 : B < w24.heap.size + 1 := (by omega); have z_w24_0_2 : B < w24.heap.size + 1 + 1 := (by omega); have q_w24_0_0 : w24.cell? ⟨B, 0, none⟩ = some (.int .i64 E) := (hb24.cell (p := ⟨B, 0, none⟩) (by first | (show B < _; omega) | (show B < _; simp; done) | (show B < _; simp; omega))).trans (by first | assumption | (go_simp; done)); have q_w24_0_1 : w24.cell? ⟨B, 1, none⟩ = some (.int .i64 P) := (hb24.cell (p := ⟨B, 1, none⟩) (by first | (show B < _; omega) | (show B < _; simp; done) | (show B < _; simp; omega))).trans (by first | assumption | (go_simp; done)))
              | (go_at_call 29; (with_reducible refine (HF1.out _).mono ?_); rintro e w25 ⟨rfl, hb25⟩; have s_w25 := hb25.size; (try simp only [World.size_alloc, World.size_setCell, World.size_drew, sz_drewN] at s_w25); have z_w25_0_0 : B < w25.heap.size := (by omega); have z_w25_0_1 : B < w25.heap.size + 1 := (by omega); have z_w25_0_2 : B < w25.heap.size + 1 + 1 := (by omega); have q_w25_0_0 : w25.cell? ⟨B, 0, none⟩ = some (.int .i64 E) := (hb25.cell (p := ⟨B, 0, none⟩) (by first | (show B < _; omega) | (show B < _; simp; done) | (show B < _; simp; omega))).trans (by first | assumption | (go_simp; done)); have q_w25_0_1 : w25.cell? ⟨B, 1, none⟩ = some (.int .i64 P) := (hb25.cell (p := ⟨B, 1, none⟩) (by first | (show B < _; omega) | (show B < _; simp; done) | (show B < _; simp; omega))).trans (by first | assumption | (go_simp; done)); have z_w25_1_0 : w24.heap.size < w25.heap.size := (by omega); have z_w25_1_1 : w24.heap.size < w25.heap.size + 1 := (by omega); have z_w25_1_2 : w24.heap.size < w25.heap.size + 1 + 1 := (by omega); have q_w25_1_0 : w25.cell? ⟨w24.heap.size, 0, none⟩ = some (.int .i64 q) := (hb25.cell (p := ⟨w24.heap.size, 0, none⟩) (by first | (show w24.heap.size < _; omega) | (show w24.heap.size < _; simp; done) | (show w24.heap.size < _; simp; omega))).trans (by first | assumption | (go_simp; done)); have q_w25_1_1 : w25.cell? ⟨w24.heap.size, 1, none⟩ = some (.int .i64 R) := (hb25.cell (p := ⟨w24.heap.size, 1, none⟩) (by first | (show w24.heap.size < _; omega) | (show w24.heap.size < _; simp; done) | (show w24.heap.size < _; simp; omega))).trans (by first | assumption | (go_simp; done)); have q_w25_1_2 : w25.cell? ⟨w24.heap.size, 2, none⟩ = some (.int .i64 D) := (hb25.cell (p := ⟨w24.heap.size, 2, none⟩) (by first | (show w24.heap.size < _; omega) | (show w24.heap.size < _; simp; done) | (show w24.heap.size < _; simp; omega))).trans (by first | assumption | (go_simp; done)); have q_w25_1_3 : w25.cell? ⟨w24.heap.size, 3, none⟩ = some (.int .i64 (Win.bit E P q)) := (hb25.cell (p := ⟨w24.heap.size, 3, none⟩) (by first | (show w24.heap.size < _; omega) | (show w24.heap.size < _; simp; done) | (show w24.heap.size < _; simp; omega))).trans (by first | assumption | (go_simp; done)); have q_w25_1_4 : w25.cell? ⟨w24.heap.size, 4, none⟩ = some (.int .i64 (shG 0 (Win.grp E P q))) := (hb25.cell (p := ⟨w24.heap.size, 4, none⟩) (by first | (show w24.heap.size < _; omega) | (show w24.heap.size < _; simp; done) | (show w24.heap.size < _; simp; omega))).trans (by first | assumption | (go_simp; done)))
              | (go_at_call 29; (with_reducible refine (HF2.out _).mono ?_); rintro e w26 ⟨rfl, hb26⟩; have s_w26 := hb26.size; (try simp only [World.size_alloc, World.size_setCell, World.size_drew, sz_drewN] at s_w26); have z_w26_0_0 : B < w26.heap.size := (by omega); have z_w26_0_1 : B < w26.heap.size + 1 := (by omega); have z_w26_0_2 : B < w26.heap.size + 1 + 1 := (by omega); have q_w26_0_0 : w26.cell? ⟨B, 0, none⟩ = some (.int .i64 E) := (hb26.cell (p := ⟨B, 0, none⟩) (by first | (show B < _; omega) | (show B < _; simp; done) | (show B < _; simp; omega))).trans (by first | assumption | (go_simp; done)); have q_w26_0_1 : w26.cell? ⟨B, 1, none⟩ = some (.int .i64 P) := (hb26.cell (p := ⟨B, 1, none⟩) (by first | (show B < _; omega) | (show B < _; simp; done) | (show B < _; simp; omega))).trans (by first | assumption | (go_simp; done)); have z_w26_1_0 : w24.heap.size < w26.heap.size := (by omega); have z_w26_1_1 : w24.heap.size < w26.heap.size + 1 := (by omega); have z_w26_1_2 : w24.heap.size < w26.heap.size + 1 + 1 := (by omega); have q_w26_1_0 : w26.cell? ⟨w24.heap.size, 0, none⟩ = some (.int .i64 q) := (hb26.cell (p := ⟨w24.heap.size, 0, none⟩) (by first | (show w24.heap.size < _; omega) | (show w24.heap.size < _; simp; done) | (show w24.heap.size < _; simp; omega))).trans (by first | assumption | (go_simp; done)); have q_w26_1_1 : w26.cell? ⟨w24.heap.size, 1, none⟩ = some (.int .i64 R) := (hb26.cell (p := ⟨w24.heap.size, 1, none⟩) (by first | (show w24.heap.size < _; omega) | (show w24.heap.size < _; simp; done) | (show w24.heap.size < _; simp; omega))).trans (by first | assumption | (go_simp; done)); have q_w26_1_2 : w26.cell? ⟨w24.heap.size, 2, none⟩ = some (.int .i64 D) := (hb26.cell (p := ⟨w24.heap.size, 2, none⟩) (by first | (show w24.heap.size < _; omega) | (show w24.heap.size < _; simp; done) | (show w24.heap.size < _; simp; omega))).trans (by first | assumption | (go_simp; done)); have q_w26_1_3 : w26.cell? ⟨w24.heap.size, 3, none⟩ = some (.int .i64 (Win.bit E P q)) := (hb26.cell (p := ⟨w24.heap.size, 3, none⟩) (by first | (show w24.heap.size < _; omega) | (show w24.heap.size < _; simp; done) | (show w24.heap.size < _; simp; omega))).trans (by first | assumption | (go_simp; done)); have q_w26_1_4 : w26.cell? ⟨w24.heap.size, 4, none⟩ = some (.int .i64 (shG 0 (Win.grp E P q))) := (hb26.cell (p := ⟨w24.heap.size, 4, none⟩) (by first | (show w24.heap.size < _; omega) | (show w24.heap.size < _; simp; done) | (show w24.heap.size < _; simp; omega))).trans (by first | assumption | (go_simp; done))))
            go_ret
            exact ⟨by first | rfl | (simp; done), bel_call hbv hvz (by have s0_ := hb4.size; have s1_ := hb24.size; have s2_ := hb25.size; have s3_ := hb26.size; (try simp only [World.size_alloc, World.size_setCell, World.size_drew, sz_drewN] at s0_ s1_ s2_ s3_); repeat' (first | (with_reducible exact Below.refl _ _) | (with_reducible refine bel_call ?_ ?_ hb26) | (with_reducible refine bel_call ?_ ?_ hb25) | (with_reducible refine bel_call ?_ ?_ hb24) | (with_reducible refine bel_call ?_ ?_ hb4) | (with_reducible refine Below.alloc ?_ ?_ _) | (with_reducible refine below_drewN ?_ _) | (with_reducible refine Below.drew ?_) | (with_reducible refine Below.setCell ?_ ?_ _) | omega | (simp; omega) | (simp; done)))⟩

      · by_cases hk0 : k = 0
        · exfalso; omega
        · have T0 : ((k : Int) == 0) = false := by simp [hk0]
          have zk : ¬ (k : Int) = 0 := by omega
          obtain ⟨db0, db1⟩ := dl_bd e1 e2 p2 (k := k) (by omega) (by omega)
          obtain ⟨m, hm⟩ : ∃ m : Nat, en = (m : Int) := ⟨en.toNat, by omega⟩
          have m1 : m ≤ 1400 := by omega
          have m2 : (m : Int) ≤ 1400 := by omega
          have hfl := hF.out.follows e1 e2 p2 hk2 m (by omega)
          have hru := hF.out.runs e1 e2 p2 hk2 (by omega) m (by omega)
          have htl : (bs.take m).length ≤ 4611686018427387904 := by rw [List.length_take]; omega
          have HBO : Hid (Bools wr.heap.size wr (.slice (some ⟨B + 1, 0, none⟩) m 1400) (bs.take m)) := HRB.out.bools hgz hF.out.len m m1
          have hfo := fun (w1 : World) (h : Bools wr.heap.size w1 (.slice (some ⟨B + 1, 0, none⟩) m 1400) (bs.take m)) (hw : wr.heap.size ≤ w1.heap.size) => follows_any E P (fairV E P) (fun i q W => fair_any E P i q W) (some ⟨B + 1, 0, none⟩) m 1400 (bs.take m) htl w1 (h.wide hw)
          have hrs := fun (w1 : World) (h : Bools wr.heap.size w1 (.slice (some ⟨B + 1, 0, none⟩) m 1400) (bs.take m)) => runs_any (some ⟨B + 1, 0, none⟩) m 1400 (bs.take m) htl w1 h
          rw [hfl] at hfo
          rw [hru] at hrs
          have HFO := Lib.hid hfo
          have HRU := Lib.hid hrs
          obtain ⟨x0, x1⟩ := tmod2_bd a20 k (by omega)
          obtain ⟨x2, x3⟩ := tmod_bd a20 k (by omega)
          obtain ⟨s2, hs2⟩ : ∃ s2, (a20.tmod k + k).tmod k = s2 := ⟨_, rfl⟩
          rw [hs2] at x0 x1
          obtain ⟨q, hq⟩ : ∃ q, 1 + s2 = q := ⟨_, rfl⟩
          have v1 : IntKind.i64.wrap (a20.tmod k) = a20.tmod k := wrap_in _ (by omega) (by omega)
          have v2 : IntKind.i64.wrap (a20.tmod k + k) = a20.tmod k + k := wrap_in _ (by omega) (by omega)
          have v3 : IntKind.i64.wrap s2 = s2 := wrap_in _ (by omega) (by omega)
          have v4 : IntKind.i64.wrap (1 + s2) = q := by rw [hq]; exact wrap_in _ (by omega) (by omega)
          have v5 : IntKind.i64.wrap (q - 1) = q - 1 := wrap_in _ (by omega) (by omega)
          have ho := fun w => rof_yes E P q 0 w e1 e2 e3 (by omega) (by omega) (by omega) (by omega)
          simp only [Int.add_zero] at ho
          have hf1 := fun w => fair_any E P (Win.dl E P q) (q - 1) w
          have hf2 := fun w => fair_any E P (Win.rel E P q) q w
          rw [late_no e1 e2] at hf1
          rw [early_no e1 e2] at hf2
          have HO := Lib.hid ho
          have HF1 := Lib.hid hf1
          have HF2 := Lib.hid hf2
          clear ho hf1 hf2 hfo hrs hfl hru htl hF HRB hen hen' db0 db1 hat hlen
          generalize Win.rel E P q = R at *
          generalize Win.dl E P q = D at *
          subst hm
          have dz := hgz
          go_upto_region 25 with fail
          try simp only [List.append]
          refine wp_region_held_drew (S := (fun x => x.cell? ⟨B, 0, none⟩ = some (.int .i64 E) ∧ x.cell? ⟨B, 1, none⟩ = some (.int .i64 P) ∧ x.cell? ⟨w.heap.size + 1, 0, none⟩ = some (.int .i64 a20) ∧ x.cell? ⟨w.heap.size + 1, 1, none⟩ = some (.int .i64 a21) ∧ B + 1 < x.heap.size)) (by kernel_rfl) ?_ (fun hHeld => ?_)
          focus (exact ⟨by simpa using d0, by simpa using d1, by simpa using d2, by simpa using d3, by simpa using dz⟩)
          (refine wpAnyH_take (i := 0) (v := ?_) rfl (by kernel_rfl) (by kernel_rfl) (by kernel_rfl) (fun _ _ _ h => h) (Or.inl ⟨by kernel_rfl, ?_⟩) (by assumption) ?_; rotate_left; (focus (intro w hSw; (try dsimp only at hSw); go_simp; (try with_reducible rfl); done)); (try simp only [List.getElem_toArray, List.getElem_cons_succ, List.getElem_cons_zero, Act.put, List.setIfInBounds_toArray, List.set_cons_zero, List.set_cons_succ]))
          (refine wpAnyH_take (i := 1) (v := ?_) rfl (by kernel_rfl) (by kernel_rfl) (by kernel_rfl) (fun _ _ _ h => h) (Or.inl ⟨by kernel_rfl, ?_⟩) (by assumption) ?_; rotate_left; (focus (intro w hSw; (try dsimp only at hSw); go_simp; (try with_reducible rfl); done)); (try simp only [List.getElem_toArray, List.getElem_cons_succ, List.getElem_cons_zero, Act.put, List.setIfInBounds_toArray, List.set_cons_zero, List.set_cons_succ]))
          (refine wpAnyH_take (i := 2) (v := ?_) rfl (by kernel_rfl) (by kernel_rfl) (by kernel_rfl) (fun _ _ _ h => h) (Or.inl ⟨by kernel_rfl, ?_⟩) (by assumption) ?_; rotate_left; (focus (intro w hSw; (try dsimp only at hSw); go_simp; (try with_reducible rfl); done)); (try simp only [List.getElem_toArray, List.getElem_cons_succ, List.getElem_cons_zero, Act.put, List.setIfInBounds_toArray, List.set_cons_zero, List.set_cons_succ]))
          (refine wpAnyH_take (i := 3) (v := ?_) rfl (by kernel_rfl) (by kernel_rfl) (by kernel_rfl) (fun _ _ _ h => h) (Or.inl ⟨by kernel_rfl, ?_⟩) (by assumption) ?_; rotate_left; (focus (intro w hSw; (try dsimp only at hSw); go_simp; (try with_reducible rfl); done)); (try simp only [List.getElem_toArray, List.getElem_cons_succ, List.getElem_cons_zero, Act.put, List.setIfInBounds_toArray, List.set_cons_zero, List.set_cons_succ]))
          (refine wpAnyH_ready (rs := [4]) (by kernel_rfl) (by simp) ?_; refine (AllReadyH.cons rfl (fun K hK => ?_) AllReadyH.nil))
          (go_simp; (go_at_call 40; (with_reducible refine (HFO.out _ ?_ ?_).mono ?_); (focus (exact HBO.out.below (((by repeat' (first | (with_reducible exact Below.refl _ _) | (with_reducible refine Below.alloc ?_ ?_ _) | (with_reducible refine below_drewN ?_ _) | (with_reducible refine Below.drew ?_) | (with_reducible refine Below.setCell ?_ ?_ _) | omega | (simp; omega) | (simp; done))) : Below wr.heap.size wr _).mono (Nat.le_refl _)))); (focus (exact ((by repeat' (first | (with_reducible exact Below.refl _ _) | (with_reducible refine Below.alloc ?_ ?_ _) | (with_reducible refine below_drewN ?_ _) | (with_reducible refine Below.drew ?_) | (with_reducible refine Below.setCell ?_ ?_ _) | omega | (simp; omega) | (simp; done))) : Below wr.heap.size wr _).size)); rintro e w4 ⟨rfl, hb4⟩; have s4 := hb4.size; (try simp only [World.size_drew, sz_drewN, World.size_alloc] at s4); have y4_0 : w4.cell? ⟨B, 0, none⟩ = some (.int .i64 E) := (hb4.cell (p := ⟨B, 0, none⟩) (by first | (simp; done) | (show B < _; omega) | (simp; omega))).trans (by go_simp); have y4_1 : w4.cell? ⟨B, 1, none⟩ = some (.int .i64 P) := (hb4.cell (p := ⟨B, 1, none⟩) (by first | (simp; done) | (show B < _; omega) | (simp; omega))).trans (by go_simp); have y4_2 : w4.cell? ⟨w.heap.size + 1, 0, none⟩ = some (.int .i64 a20) := (hb4.cell (p := ⟨w.heap.size + 1, 0, none⟩) (by first | (simp; done) | (show w.heap.size + 1 < _; omega) | (simp; omega))).trans (by go_simp); have y4_3 : w4.cell? ⟨w.heap.size + 1, 1, none⟩ = some (.int .i64 a21) := (hb4.cell (p := ⟨w.heap.size + 1, 1, none⟩) (by first | (simp; done) | (show w.heap.size + 1 < _; omega) | (simp; omega))).trans (by go_simp); have z4 : B + 1 < w4.heap.size := (by omega)); clear d0 d1 d2 d3 dz s4; (refine hK.out _ _ ?_ (fun hHeld2 => ?_); (focus (refine ⟨?_, ?_, ?_, ?_, ?_⟩ <;> first | (with_reducible assumption) | (go_simp; done) | omega | (simp; done) | (simp; omega))); clear hK K; have hHeld := hHeld2; clear hHeld2; (try simp only [List.getElem_toArray, List.getElem_cons_succ, List.getElem_cons_zero, Act.put, List.setIfInBounds_toArray, List.set_cons_zero, List.set_cons_succ])))
          (refine wpAnyH_take (i := 5) (v := ?_) rfl (by kernel_rfl) (by kernel_rfl) (by kernel_rfl) (fun _ _ _ h => h) (Or.inl ⟨by kernel_rfl, ?_⟩) (by assumption) ?_; rotate_left; (focus (intro w hSw; (try dsimp only at hSw); go_simp; (try with_reducible rfl); done)); (try simp only [List.getElem_toArray, List.getElem_cons_succ, List.getElem_cons_zero, Act.put, List.setIfInBounds_toArray, List.set_cons_zero, List.set_cons_succ]))
          (refine wpAnyH_take (i := 6) (v := ?_) rfl (by kernel_rfl) (by kernel_rfl) (by kernel_rfl) (fun _ _ _ h => h) (Or.inl ⟨by kernel_rfl, ?_⟩) (by assumption) ?_; rotate_left; (focus (intro w hSw; (try dsimp only at hSw); go_simp; (try with_reducible rfl); done)); (try simp only [List.getElem_toArray, List.getElem_cons_succ, List.getElem_cons_zero, Act.put, List.setIfInBounds_toArray, List.set_cons_zero, List.set_cons_succ]))
          (refine wpAnyH_take (i := 7) (v := ?_) rfl (by kernel_rfl) (by kernel_rfl) (by kernel_rfl) (fun _ _ _ h => h) (Or.inl ⟨by kernel_rfl, ?_⟩) (by assumption) ?_; rotate_left; (focus (intro w hSw; (try dsimp only at hSw); go_simp; (try with_reducible rfl); done)); (try simp only [List.getElem_toArray, List.getElem_cons_succ, List.getElem_cons_zero, Act.put, List.setIfInBounds_toArray, List.set_cons_zero, List.set_cons_succ]))
          (refine wpAnyH_take (i := 8) (v := ?_) rfl (by kernel_rfl) (by kernel_rfl) (by kernel_rfl) (fun _ _ _ h => h) (Or.inl ⟨by kernel_rfl, ?_⟩) (by assumption) ?_; rotate_left; (focus (intro w hSw; (try dsimp only at hSw); go_simp; (try with_reducible rfl); done)); (try simp only [List.getElem_toArray, List.getElem_cons_succ, List.getElem_cons_zero, Act.put, List.setIfInBounds_toArray, List.set_cons_zero, List.set_cons_succ]))
          (refine wpAnyH_take (i := 9) (v := ?_) rfl (by kernel_rfl) (by kernel_rfl) (by kernel_rfl) (fun _ _ _ h => h) (Or.inl ⟨by kernel_rfl, ?_⟩) (by assumption) ?_; rotate_left; (focus (intro w hSw; (try dsimp only at hSw); go_simp; (try with_reducible rfl); done)); (try simp only [List.getElem_toArray, List.getElem_cons_succ, List.getElem_cons_zero, Act.put, List.setIfInBounds_toArray, List.set_cons_zero, List.set_cons_succ]))
          (refine wpAnyH_take (i := 11) (v := ?_) rfl (by kernel_rfl) (by kernel_rfl) (by kernel_rfl) (fun _ _ _ h => h) (Or.inl ⟨by kernel_rfl, ?_⟩) (by assumption) ?_; rotate_left; (focus (intro w hSw; (try dsimp only at hSw); go_simp; (try with_reducible rfl); done)); (try simp only [List.getElem_toArray, List.getElem_cons_succ, List.getElem_cons_zero, Act.put, List.setIfInBounds_toArray, List.set_cons_zero, List.set_cons_succ]))
          (refine wpAnyH_ready (rs := [10]) (by kernel_rfl) (by simp) ?_; refine (AllReadyH.cons rfl (fun K hK => ?_) AllReadyH.nil))
          (go_simp; (go_at_call 41; (with_reducible refine (HRU.out _ ?_).mono ?_); (focus (exact HBO.out.below (((by have s0_ := hb4.size; (try simp only [World.size_alloc, World.size_setCell, World.size_drew, sz_drewN] at s0_); repeat' (first | (with_reducible exact Below.refl _ _) | (with_reducible refine bel_call ?_ ?_ hb4) | (with_reducible refine Below.alloc ?_ ?_ _) | (with_reducible refine below_drewN ?_ _) | (with_reducible refine Below.drew ?_) | (with_reducible refine Below.setCell ?_ ?_ _) | omega | (simp; omega) | (simp; done))) : Below wr.heap.size wr _).mono (Nat.le_refl _)))); rintro e w10 ⟨rfl, hw10⟩; subst hw10); (refine hK.out _ _ ?_ (fun hHeld2 => ?_); (focus (refine ⟨?_, ?_, ?_, ?_, ?_⟩ <;> first | (with_reducible assumption) | (go_simp; done) | omega | (simp; done) | (simp; omega))); clear hK K; have hHeld := hHeld2; clear hHeld2; (try simp only [List.getElem_toArray, List.getElem_cons_succ, List.getElem_cons_zero, Act.put, List.setIfInBounds_toArray, List.set_cons_zero, List.set_cons_succ])))
          (refine wpAnyH_take (i := 12) (v := ?_) rfl (by kernel_rfl) (by kernel_rfl) (by kernel_rfl) (fun _ _ _ h => h) (Or.inl ⟨by kernel_rfl, ?_⟩) (by assumption) ?_; rotate_left; (focus (intro w hSw; (try dsimp only at hSw); go_simp; (try with_reducible rfl); done)); (try simp only [List.getElem_toArray, List.getElem_cons_succ, List.getElem_cons_zero, Act.put, List.setIfInBounds_toArray, List.set_cons_zero, List.set_cons_succ]))
          (refine wpAnyH_take (i := 13) (v := ?_) rfl (by kernel_rfl) (by kernel_rfl) (by kernel_rfl) (fun _ _ _ h => h) (Or.inl ⟨by kernel_rfl, ?_⟩) (by assumption) ?_; rotate_left; (focus (intro w hSw; (try dsimp only at hSw); go_simp; (try with_reducible rfl); done)); (try simp only [List.getElem_toArray, List.getElem_cons_succ, List.getElem_cons_zero, Act.put, List.setIfInBounds_toArray, List.set_cons_zero, List.set_cons_succ]))
          refine wpAnyH_done (by kernel_rfl) ?_ _
          by_cases hr0 : R = 0
          · have T1 : (R == 0) = true := by simp [hr0]
            go_wp2_with (first
              | (go_at_call 39; (with_reducible refine (HO.out _).mono ?_); rintro e w24 ⟨rfl, hb24⟩; have s_w24 := hb24.size; (try simp only [World.size_alloc, World.size_setCell, World.size_drew, sz_drewN] at s_w24); have z_w24_0_0 : B < w24.heap.size := (by omega); have z_w24_0_1 : B < w24.heap.size + 1 := (by omega); have z_w24_0_2 : B < w24.heap.size + 1 + 1 := (by omega); have q_w24_0_0 : w24.cell? ⟨B, 0, none⟩ = some (.int .i64 E) := (hb24.cell (p := ⟨B, 0, none⟩) (by first | (show B < _; omega) | (show B < _; simp; done) | (show B < _; simp; omega))).trans (by first | assumption | (go_simp; done)); have q_w24_0_1 : w24.cell? ⟨B, 1, none⟩ = some (.int .i64 P) := (hb24.cell (p := ⟨B, 1, none⟩) (by first | (show B < _; omega) | (show B < _; simp; done) | (show B < _; simp; omega))).trans (by first | assumption | (go_simp; done)))
              | (go_at_call 29; (with_reducible refine (HF1.out _).mono ?_); rintro e w25 ⟨rfl, hb25⟩; have s_w25 := hb25.size; (try simp only [World.size_alloc, World.size_setCell, World.size_drew, sz_drewN] at s_w25); have z_w25_0_0 : B < w25.heap.size := (by omega); have z_w25_0_1 : B < w25.heap.size + 1 := (by omega); have z_w25_0_2 : B < w25.heap.size + 1 + 1 := (by omega); have q_w25_0_0 : w25.cell? ⟨B, 0, none⟩ = some (.int .i64 E) := (hb25.cell (p := ⟨B, 0, none⟩) (by first | (show B < _; omega) | (show B < _; simp; done) | (show B < _; simp; omega))).trans (by first | assumption | (go_simp; done)); have q_w25_0_1 : w25.cell? ⟨B, 1, none⟩ = some (.int .i64 P) := (hb25.cell (p := ⟨B, 1, none⟩) (by first | (show B < _; omega) | (show B < _; simp; done) | (show B < _; simp; omega))).trans (by first | assumption | (go_simp; done)); have z_w25_1_0 : w24.heap.size < w25.heap.size := (by omega); have z_w25_1_1 : w24.heap.size < w25.heap.size + 1 := (by omega); have z_w25_1_2 : w24.heap.size < w25.heap.size + 1 + 1 := (by omega); have q_w25_1_0 : w25.cell? ⟨w24.heap.size, 0, none⟩ = some (.int .i64 q) := (hb25.cell (p := ⟨w24.heap.size, 0, none⟩) (by first | (show w24.heap.size < _; omega) | (show w24.heap.size < _; simp; done) | (show w24.heap.size < _; simp; omega))).trans (by first | assumption | (go_simp; done)); have q_w25_1_1 : w25.cell? ⟨w24.heap.size, 1, none⟩ = some (.int .i64 R) := (hb25.cell (p := ⟨w24.heap.size, 1, none⟩) (by first | (show w24.heap.size < _; omega) | (show w24.heap.size < _; simp; done) | (show w24.heap.size < _; simp; omega))).trans (by first | assumption | (go_simp; done)); have q_w25_1_2 : w25.cell? ⟨w24.heap.size, 2, none⟩ = some (.int .i64 D) := (hb25.cell (p := ⟨w24.heap.size, 2, none⟩) (by first | (show w24.heap.size < _; omega) | (show w24.heap.size < _; simp; done) | (show w24.heap.size < _; simp; omega))).trans (by first | assumption | (go_simp; done)); have q_w25_1_3 : w25.cell? ⟨w24.heap.size, 3, none⟩ = some (.int .i64 (Win.bit E P q)) := (hb25.cell (p := ⟨w24.heap.size, 3, none⟩) (by first | (show w24.heap.size < _; omega) | (show w24.heap.size < _; simp; done) | (show w24.heap.size < _; simp; omega))).trans (by first | assumption | (go_simp; done)); have q_w25_1_4 : w25.cell? ⟨w24.heap.size, 4, none⟩ = some (.int .i64 (shG 0 (Win.grp E P q))) := (hb25.cell (p := ⟨w24.heap.size, 4, none⟩) (by first | (show w24.heap.size < _; omega) | (show w24.heap.size < _; simp; done) | (show w24.heap.size < _; simp; omega))).trans (by first | assumption | (go_simp; done)))
              | (go_at_call 29; (with_reducible refine (HF2.out _).mono ?_); rintro e w26 ⟨rfl, hb26⟩; have s_w26 := hb26.size; (try simp only [World.size_alloc, World.size_setCell, World.size_drew, sz_drewN] at s_w26); have z_w26_0_0 : B < w26.heap.size := (by omega); have z_w26_0_1 : B < w26.heap.size + 1 := (by omega); have z_w26_0_2 : B < w26.heap.size + 1 + 1 := (by omega); have q_w26_0_0 : w26.cell? ⟨B, 0, none⟩ = some (.int .i64 E) := (hb26.cell (p := ⟨B, 0, none⟩) (by first | (show B < _; omega) | (show B < _; simp; done) | (show B < _; simp; omega))).trans (by first | assumption | (go_simp; done)); have q_w26_0_1 : w26.cell? ⟨B, 1, none⟩ = some (.int .i64 P) := (hb26.cell (p := ⟨B, 1, none⟩) (by first | (show B < _; omega) | (show B < _; simp; done) | (show B < _; simp; omega))).trans (by first | assumption | (go_simp; done)); have z_w26_1_0 : w24.heap.size < w26.heap.size := (by omega); have z_w26_1_1 : w24.heap.size < w26.heap.size + 1 := (by omega); have z_w26_1_2 : w24.heap.size < w26.heap.size + 1 + 1 := (by omega); have q_w26_1_0 : w26.cell? ⟨w24.heap.size, 0, none⟩ = some (.int .i64 q) := (hb26.cell (p := ⟨w24.heap.size, 0, none⟩) (by first | (show w24.heap.size < _; omega) | (show w24.heap.size < _; simp; done) | (show w24.heap.size < _; simp; omega))).trans (by first | assumption | (go_simp; done)); have q_w26_1_1 : w26.cell? ⟨w24.heap.size, 1, none⟩ = some (.int .i64 R) := (hb26.cell (p := ⟨w24.heap.size, 1, none⟩) (by first | (show w24.heap.size < _; omega) | (show w24.heap.size < _; simp; done) | (show w24.heap.size < _; simp; omega))).trans (by first | assumption | (go_simp; done)); have q_w26_1_2 : w26.cell? ⟨w24.heap.size, 2, none⟩ = some (.int .i64 D) := (hb26.cell (p := ⟨w24.heap.size, 2, none⟩) (by first | (show w24.heap.size < _; omega) | (show w24.heap.size < _; simp; done) | (show w24.heap.size < _; simp; omega))).trans (by first | assumption | (go_simp; done)); have q_w26_1_3 : w26.cell? ⟨w24.heap.size, 3, none⟩ = some (.int .i64 (Win.bit E P q)) := (hb26.cell (p := ⟨w24.heap.size, 3, none⟩) (by first | (show w24.heap.size < _; omega) | (show w24.heap.size < _; simp; done) | (show w24.heap.size < _; simp; omega))).trans (by first | assumption | (go_simp; done)); have q_w26_1_4 : w26.cell? ⟨w24.heap.size, 4, none⟩ = some (.int .i64 (shG 0 (Win.grp E P q))) := (hb26.cell (p := ⟨w24.heap.size, 4, none⟩) (by first | (show w24.heap.size < _; omega) | (show w24.heap.size < _; simp; done) | (show w24.heap.size < _; simp; omega))).trans (by first | assumption | (go_simp; done))))
            go_ret
            exact ⟨by first | rfl | (simp; done), bel_call hbv hvz (by have s0_ := hb4.size; have s1_ := hb24.size; have s2_ := hb25.size; (try simp only [World.size_alloc, World.size_setCell, World.size_drew, sz_drewN] at s0_ s1_ s2_); repeat' (first | (with_reducible exact Below.refl _ _) | (with_reducible refine bel_call ?_ ?_ hb25) | (with_reducible refine bel_call ?_ ?_ hb24) | (with_reducible refine bel_call ?_ ?_ hb4) | (with_reducible refine Below.alloc ?_ ?_ _) | (with_reducible refine below_drewN ?_ _) | (with_reducible refine Below.drew ?_) | (with_reducible refine Below.setCell ?_ ?_ _) | omega | (simp; omega) | (simp; done)))⟩
          · have T1 : (R == 0) = false := by simp [hr0]
            go_wp2_with (first
              | (go_at_call 39; (with_reducible refine (HO.out _).mono ?_); rintro e w24 ⟨rfl, hb24⟩; have s_w24 := hb24.size; (try simp only [World.size_alloc, World.size_setCell, World.size_drew, sz_drewN] at s_w24); have z_w24_0_0 : B < w24.heap.size := (by omega); have z_w24_0_1 : B < w24.heap.size + 1 := (by omega); have z_w24_0_2 : B < w24.heap.size + 1 + 1 := (by omega); have q_w24_0_0 : w24.cell? ⟨B, 0, none⟩ = some (.int .i64 E) := (hb24.cell (p := ⟨B, 0, none⟩) (by first | (show B < _; omega) | (show B < _; simp; done) | (show B < _; simp; omega))).trans (by first | assumption | (go_simp; done)); have q_w24_0_1 : w24.cell? ⟨B, 1, none⟩ = some (.int .i64 P) := (hb24.cell (p := ⟨B, 1, none⟩) (by first | (show B < _; omega) | (show B < _; simp; done) | (show B < _; simp; omega))).trans (by first | assumption | (go_simp; done)))
              | (go_at_call 29; (with_reducible refine (HF1.out _).mono ?_); rintro e w25 ⟨rfl, hb25⟩; have s_w25 := hb25.size; (try simp only [World.size_alloc, World.size_setCell, World.size_drew, sz_drewN] at s_w25); have z_w25_0_0 : B < w25.heap.size := (by omega); have z_w25_0_1 : B < w25.heap.size + 1 := (by omega); have z_w25_0_2 : B < w25.heap.size + 1 + 1 := (by omega); have q_w25_0_0 : w25.cell? ⟨B, 0, none⟩ = some (.int .i64 E) := (hb25.cell (p := ⟨B, 0, none⟩) (by first | (show B < _; omega) | (show B < _; simp; done) | (show B < _; simp; omega))).trans (by first | assumption | (go_simp; done)); have q_w25_0_1 : w25.cell? ⟨B, 1, none⟩ = some (.int .i64 P) := (hb25.cell (p := ⟨B, 1, none⟩) (by first | (show B < _; omega) | (show B < _; simp; done) | (show B < _; simp; omega))).trans (by first | assumption | (go_simp; done)); have z_w25_1_0 : w24.heap.size < w25.heap.size := (by omega); have z_w25_1_1 : w24.heap.size < w25.heap.size + 1 := (by omega); have z_w25_1_2 : w24.heap.size < w25.heap.size + 1 + 1 := (by omega); have q_w25_1_0 : w25.cell? ⟨w24.heap.size, 0, none⟩ = some (.int .i64 q) := (hb25.cell (p := ⟨w24.heap.size, 0, none⟩) (by first | (show w24.heap.size < _; omega) | (show w24.heap.size < _; simp; done) | (show w24.heap.size < _; simp; omega))).trans (by first | assumption | (go_simp; done)); have q_w25_1_1 : w25.cell? ⟨w24.heap.size, 1, none⟩ = some (.int .i64 R) := (hb25.cell (p := ⟨w24.heap.size, 1, none⟩) (by first | (show w24.heap.size < _; omega) | (show w24.heap.size < _; simp; done) | (show w24.heap.size < _; simp; omega))).trans (by first | assumption | (go_simp; done)); have q_w25_1_2 : w25.cell? ⟨w24.heap.size, 2, none⟩ = some (.int .i64 D) := (hb25.cell (p := ⟨w24.heap.size, 2, none⟩) (by first | (show w24.heap.size < _; omega) | (show w24.heap.size < _; simp; done) | (show w24.heap.size < _; simp; omega))).trans (by first | assumption | (go_simp; done)); have q_w25_1_3 : w25.cell? ⟨w24.heap.size, 3, none⟩ = some (.int .i64 (Win.bit E P q)) := (hb25.cell (p := ⟨w24.heap.size, 3, none⟩) (by first | (show w24.heap.size < _; omega) | (show w24.heap.size < _; simp; done) | (show w24.heap.size < _; simp; omega))).trans (by first | assumption | (go_simp; done)); have q_w25_1_4 : w25.cell? ⟨w24.heap.size, 4, none⟩ = some (.int .i64 (shG 0 (Win.grp E P q))) := (hb25.cell (p := ⟨w24.heap.size, 4, none⟩) (by first | (show w24.heap.size < _; omega) | (show w24.heap.size < _; simp; done) | (show w24.heap.size < _; simp; omega))).trans (by first | assumption | (go_simp; done)))
              | (go_at_call 29; (with_reducible refine (HF2.out _).mono ?_); rintro e w26 ⟨rfl, hb26⟩; have s_w26 := hb26.size; (try simp only [World.size_alloc, World.size_setCell, World.size_drew, sz_drewN] at s_w26); have z_w26_0_0 : B < w26.heap.size := (by omega); have z_w26_0_1 : B < w26.heap.size + 1 := (by omega); have z_w26_0_2 : B < w26.heap.size + 1 + 1 := (by omega); have q_w26_0_0 : w26.cell? ⟨B, 0, none⟩ = some (.int .i64 E) := (hb26.cell (p := ⟨B, 0, none⟩) (by first | (show B < _; omega) | (show B < _; simp; done) | (show B < _; simp; omega))).trans (by first | assumption | (go_simp; done)); have q_w26_0_1 : w26.cell? ⟨B, 1, none⟩ = some (.int .i64 P) := (hb26.cell (p := ⟨B, 1, none⟩) (by first | (show B < _; omega) | (show B < _; simp; done) | (show B < _; simp; omega))).trans (by first | assumption | (go_simp; done)); have z_w26_1_0 : w24.heap.size < w26.heap.size := (by omega); have z_w26_1_1 : w24.heap.size < w26.heap.size + 1 := (by omega); have z_w26_1_2 : w24.heap.size < w26.heap.size + 1 + 1 := (by omega); have q_w26_1_0 : w26.cell? ⟨w24.heap.size, 0, none⟩ = some (.int .i64 q) := (hb26.cell (p := ⟨w24.heap.size, 0, none⟩) (by first | (show w24.heap.size < _; omega) | (show w24.heap.size < _; simp; done) | (show w24.heap.size < _; simp; omega))).trans (by first | assumption | (go_simp; done)); have q_w26_1_1 : w26.cell? ⟨w24.heap.size, 1, none⟩ = some (.int .i64 R) := (hb26.cell (p := ⟨w24.heap.size, 1, none⟩) (by first | (show w24.heap.size < _; omega) | (show w24.heap.size < _; simp; done) | (show w24.heap.size < _; simp; omega))).trans (by first | assumption | (go_simp; done)); have q_w26_1_2 : w26.cell? ⟨w24.heap.size, 2, none⟩ = some (.int .i64 D) := (hb26.cell (p := ⟨w24.heap.size, 2, none⟩) (by first | (show w24.heap.size < _; omega) | (show w24.heap.size < _; simp; done) | (show w24.heap.size < _; simp; omega))).trans (by first | assumption | (go_simp; done)); have q_w26_1_3 : w26.cell? ⟨w24.heap.size, 3, none⟩ = some (.int .i64 (Win.bit E P q)) := (hb26.cell (p := ⟨w24.heap.size, 3, none⟩) (by first | (show w24.heap.size < _; omega) | (show w24.heap.size < _; simp; done) | (show w24.heap.size < _; simp; omega))).trans (by first | assumption | (go_simp; done)); have q_w26_1_4 : w26.cell? ⟨w24.heap.size, 4, none⟩ = some (.int .i64 (shG 0 (Win.grp E P q))) := (hb26.cell (p := ⟨w24.heap.size, 4, none⟩) (by first | (show w24.heap.size < _; omega) | (show w24.heap.size < _; simp; done) | (show w24.heap.size < _; simp; omega))).trans (by first | assumption | (go_simp; done))))
            go_ret
            exact ⟨by first | rfl | (simp; done), bel_call hbv hvz (by have s0_ := hb4.size; have s1_ := hb24.size; have s2_ := hb25.size; have s3_ := hb26.size; (try simp only [World.size_alloc, World.size_setCell, World.size_drew, sz_drewN] at s0_ s1_ s2_ s3_); repeat' (first | (with_reducible exact Below.refl _ _) | (with_reducible refine bel_call ?_ ?_ hb26) | (with_reducible refine bel_call ?_ ?_ hb25) | (with_reducible refine bel_call ?_ ?_ hb24) | (with_reducible refine bel_call ?_ ?_ hb4) | (with_reducible refine Below.alloc ?_ ?_ _) | (with_reducible refine below_drewN ?_ _) | (with_reducible refine Below.drew ?_) | (with_reducible refine Below.setCell ?_ ?_ _) | omega | (simp; omega) | (simp; done)))⟩

end Go.Proofs.Ytpmenmcigflkdaa
