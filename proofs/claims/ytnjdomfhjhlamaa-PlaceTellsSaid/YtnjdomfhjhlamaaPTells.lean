/- The walk of the law PlaceTells. -/
import Derived.Test.YtnjdomfhjhlamaaPz
import Derived.Test.YtnjdomfhjhlamaaPHolds
namespace Go.Proofs.Ytnjdomfhjhlamaa
open Go.RowKit
set_option linter.unusedVariables false
set_option linter.unusedSimpArgs false

theorem isrow_ints {w : World} {a : Option Addr} {len cap : Nat} {zs : List Int} (h : IsRow .i64 w a len cap zs) : len ≤ maxLen ∧ ∀ k, k ≤ len → ∀ cap', k ≤ cap' → Ints w (.slice a k cap') k (fun j => zs.getD j 0) := by
  rcases h with ⟨rfl, rfl, rfl, rfl⟩ | ⟨x, rfl, hl, hm, hz, hc, hw, hb⟩
  · exact ⟨Nat.zero_le _, fun k hk cap' hk' => ⟨_, _, rfl, hk', fun h => by omega⟩⟩
  · refine ⟨by omega, fun k hk cap' hk' => ⟨_, _, rfl, hk', fun h0 => ?_⟩⟩
    have hz0 := hc 0 (by omega)
    obtain ⟨g, off, sp⟩ := x
    have hsp : sp = none := by
      simp only [Addr.add, if_pos] at hz0
      unfold World.cell? at hz0
      split at hz0
      · cases sp with
        | none => rfl
        | some s => simp at hz0
      · cases hz0
    subst hsp
    exact ⟨g, off, rfl, hb (by omega), fun j hj => by
      have := hc j (by omega)
      rw [Addr.add_lit] at this
      exact this⟩
theorem flat_runs {w : World} {v : Value} {n : Nat} {Z : Nat → Int} (h : Flat w v n 3 Z) : Runs w v n (fun j => Z (j * 3)) (fun j => Z (j * 3 + 1)) (fun j => Z (j * 3 + 2)) ∧ (∀ j, j < n → (Lit.int .i64 (Z (j * 3))).wf = true) ∧ n ≤ maxLen := by
  obtain ⟨p, cap, rfl, hc, hm, hr⟩ := h
  refine ⟨⟨_, _, rfl, hc, fun hn => ?_⟩, fun j hj => ?_, by omega⟩
  · obtain ⟨g, off, hp, hg, hj⟩ := hr hn
    exact ⟨g, off, hp, hg, fun j hj2 => ⟨(hj (j * 3) (by omega)).1, (hj (j * 3 + 1) (by omega)).1, (hj (j * 3 + 2) (by omega)).1⟩⟩
  · obtain ⟨g, off, hp, hg, hj'⟩ := hr (by omega)
    exact (hj' (j * 3) (by omega)).2
theorem wf_ends {x : Int} (h : (Lit.int .i64 x).wf = true) : -9223372036854775808 ≤ x ∧ x ≤ 9223372036854775807 := by
  have a : IntKind.min .i64 = -9223372036854775808 := by decide
  have b : IntKind.max .i64 = 9223372036854775807 := by decide
  simpa only [Lit.wf, a, b, Bool.and_eq_true, decide_eq_true_eq] using h
theorem wf_of {x : Int} (h : -9223372036854775808 ≤ x ∧ x ≤ 9223372036854775807) : (Lit.int .i64 x).wf = true := by
  have a : IntKind.min .i64 = -9223372036854775808 := by decide
  have b : IntKind.max .i64 = 9223372036854775807 := by decide
  simpa only [Lit.wf, a, b, Bool.and_eq_true, decide_eq_true_eq] using h
/-- The law's own three. -/
def q3 (x y : Int) (j : Nat) : Int := [x, y, y, x, x.tdiv 3, y.tdiv 3].getD j 0
theorem q3_wf {x y : Int} (hx : -9223372036854775808 ≤ x ∧ x ≤ 9223372036854775807) (hy : -9223372036854775808 ≤ y ∧ y ≤ 9223372036854775807) (j : Nat) (hj : j < 6) : (Lit.int .i64 (q3 x y j)).wf = true := by
  have h3 : ∀ z : Int, (-9223372036854775808 ≤ z ∧ z ≤ 9223372036854775807) → -9223372036854775808 ≤ z.tdiv 3 ∧ z.tdiv 3 ≤ 9223372036854775807 := fun z hz => by
    have a := Int.mul_tdiv_add_tmod z 3
    have b := rest_bd z 3 (by omega)
    omega
  match j, hj with
  | 0, _ => exact wf_of hx
  | 1, _ => exact wf_of hy
  | 2, _ => exact wf_of hy
  | 3, _ => exact wf_of hx
  | 4, _ => exact wf_of (h3 x hx)
  | 5, _ => exact wf_of (h3 y hy)

set_option maxRecDepth 8000 in
set_option maxHeartbeats 12800000 in
theorem walk_PlaceTells (v0 : Value) (n0 : Nat) (Z0 : Nat → Int) (a1 : Option Addr) (len1 cap1 : Nat) (z1 : List Int) (a20 a21 : Int) (w : World) (_f0 : Flat w v0 n0 3 Z0) (_f1 : IsRow .i64 w a1 len1 cap1 z1) (_f20 : (Lit.int .i64 a20).wf = true) (_f21 : (Lit.int .i64 a21).wf = true) :
    Calls Try.prog 5 #[v0, .slice a1 len1 cap1, .agg #[.int .i64 a20, .int .i64 a21]] w fun e w' => e = .returned (.bool true) ∧ Below w.heap.size w w' := by
  obtain ⟨b1, b2⟩ := rest_bd a20 20 (by omega)
  obtain ⟨N0, hN0, hN1⟩ := rest_nat a20 20 (by omega)
  obtain ⟨N, hN, n1, n2⟩ : ∃ N : Nat, (1 : Int) + N0 = N ∧ 1 ≤ N ∧ N ≤ 20 := ⟨1 + N0, by omega, by omega, by omega⟩
  have w1 : IntKind.i64.wrap (a20.tmod 20 + 20) = a20.tmod 20 + 20 := wrap_in _ (by omega) (by omega)
  have w2 : IntKind.i64.wrap (a20.tmod 20) = a20.tmod 20 := wrap_in _ (by omega) (by omega)
  have w3 : IntKind.i64.wrap (N0 : Int) = N0 := wrap_in _ (by omega) (by omega)
  have w4 : IntKind.i64.wrap ((1 : Int) + N0) = 1 + N0 := wrap_in _ (by omega) (by omega)
  have e0 := wf_ends _f20
  have e1 := wf_ends _f21
  have w5 : IntKind.i64.wrap (a20.tdiv 3) = a20.tdiv 3 := IntWalk.i64_quo' _ _ ⟨e0.1, e0.2, by omega⟩
  have w6 : IntKind.i64.wrap (a21.tdiv 3) = a21.tdiv 3 := IntWalk.i64_quo' _ _ ⟨e1.1, e1.2, by omega⟩
  obtain ⟨hR0, hwf0, hm0⟩ := flat_runs _f0
  have hm1 := (isrow_ints _f1).1
  have hm64 : len1 ≤ 9223372036854775807 := hm1
  have hlc : len1 ≤ cap1 := by rcases _f1 with ⟨_, rfl, rfl, _⟩ | ⟨_, _, h, _⟩; exact Nat.le_refl _; exact h
  have ha1 : 12 < len1 → ∃ x, a1 = some x := fun h => by rcases _f1 with ⟨_, rfl, _, _⟩ | ⟨x, hx, _⟩; omega; exact ⟨x, hx⟩
  obtain ⟨k1, hk1⟩ : ∃ k, min len1 12 = k := ⟨_, rfl⟩
  have hQ3 := q3_wf e0 e1
  have HQ3 := Lib.hid hQ3
  have HI1 := Lib.hid (fun cap' (h : k1 ≤ cap') => (isrow_ints _f1).2 k1 (by omega) cap' h)
  have HR0 := Lib.hid hR0
  have HWF0 := Lib.hid hwf0
  have HFEW := Lib.hid (fun w1 (hb : Below w.heap.size w w1) => few_any v0 n0 _ _ _ w1 (hR0.keepb hb) hm0)
  obtain ⟨p0, cap0, rfl, _, _, hr0⟩ := id _f0
  clear hQ3 hwf0 hR0 _f0 _f1 hr0 e0 e1 _f20 _f21
  go_enter Try.func5, Try.ntmps5
  go_upto_region 3 with (first
    | (go_at_call 8; (with_reducible refine (awake15 _).mono ?_); rintro e wa ⟨rfl, hba⟩; have s_wa := hba.size; (try simp only [World.size_alloc, World.size_setCell, World.size_drew, sz_drewN] at s_wa); have z_wa_0_0 : w.heap.size < wa.heap.size := (by omega); have z_wa_0_1 : w.heap.size < wa.heap.size + 1 := (by omega); have z_wa_0_2 : w.heap.size < wa.heap.size + 1 + 1 := (by omega); have q_wa_0_0 : wa.cell? ⟨w.heap.size, 0, none⟩ = some (.int .i64 a20) := (hba.cell (p := ⟨w.heap.size, 0, none⟩) (by first | (show w.heap.size < _; omega) | (show w.heap.size < _; simp; done) | (show w.heap.size < _; simp; omega))).trans (by first | assumption | (go_simp; done)); have q_wa_0_1 : wa.cell? ⟨w.heap.size, 1, none⟩ = some (.int .i64 a21) := (hba.cell (p := ⟨w.heap.size, 1, none⟩) (by first | (show w.heap.size < _; omega) | (show w.heap.size < _; simp; done) | (show w.heap.size < _; simp; omega))).trans (by first | assumption | (go_simp; done)))
    | (go_at_call 14; (with_reducible refine (HFEW.out _ (by have s0_ := hba.size; (try simp only [World.size_alloc, World.size_setCell, World.size_drew, sz_drewN] at s0_); repeat' (first | (with_reducible exact Below.refl _ _) | (with_reducible refine bel_call ?_ ?_ hba) | (with_reducible refine Below.alloc ?_ ?_ _) | (with_reducible refine below_drewN ?_ _) | (with_reducible refine Below.drew ?_) | (with_reducible refine Below.setCell ?_ ?_ _) | omega | (simp; omega) | (simp; done)))).mono ?_); rintro e wb ⟨⟨r, rfl, hrow⟩, hbb⟩; have s_wb := hbb.size; (try simp only [World.size_alloc, World.size_setCell, World.size_drew, sz_drewN] at s_wb); have z_wb_0_0 : w.heap.size < wb.heap.size := (by omega); have z_wb_0_1 : w.heap.size < wb.heap.size + 1 := (by omega); have z_wb_0_2 : w.heap.size < wb.heap.size + 1 + 1 := (by omega); have q_wb_0_0 : wb.cell? ⟨w.heap.size, 0, none⟩ = some (.int .i64 a20) := (hbb.cell (p := ⟨w.heap.size, 0, none⟩) (by first | (show w.heap.size < _; omega) | (show w.heap.size < _; simp; done) | (show w.heap.size < _; simp; omega))).trans (by first | assumption | (go_simp; done)); have q_wb_0_1 : wb.cell? ⟨w.heap.size, 1, none⟩ = some (.int .i64 a21) := (hbb.cell (p := ⟨w.heap.size, 1, none⟩) (by first | (show w.heap.size < _; omega) | (show w.heap.size < _; simp; done) | (show w.heap.size < _; simp; omega))).trans (by first | assumption | (go_simp; done))))
  have hbwb : Below w.heap.size w wb := (by have s0_ := hba.size; have s1_ := hbb.size; (try simp only [World.size_alloc, World.size_setCell, World.size_drew, sz_drewN] at s0_ s1_); repeat' (first | (with_reducible exact Below.refl _ _) | (with_reducible refine bel_call ?_ ?_ hbb) | (with_reducible refine bel_call ?_ ?_ hba) | (with_reducible refine Below.alloc ?_ ?_ _) | (with_reducible refine below_drewN ?_ _) | (with_reducible refine Below.drew ?_) | (with_reducible refine Below.setCell ?_ ?_ _) | omega | (simp; omega) | (simp; done)))
  have sb := hbb.size
  have sa := hba.size
  have HROW := Lib.hid hrow
  clear hrow HFEW HR0
  have hF3 : Flat (wb.alloc (Obj.cells #[.int .i64 a20, .int .i64 a21, .int .i64 a21, .int .i64 a20, .int .i64 (a20.tdiv 3), .int .i64 (a21.tdiv 3)] 37)) (.slice (some ⟨wb.heap.size, 0, none⟩) 3 3) 3 2 (q3 a20 a21) :=
    ⟨_, 3, rfl, Nat.le_refl _, by unfold maxLen; omega, fun _ => ⟨wb.heap.size, 0, rfl, by simp, fun j hj => ⟨by
      match j, hj with
      | 0, _ => simp [q3]
      | 1, _ => simp [q3]
      | 2, _ => simp [q3]
      | 3, _ => simp [q3]
      | 4, _ => simp [q3]
      | 5, _ => simp [q3], HQ3.out j (by omega)⟩⟩⟩
  have HMD := Lib.hid (made_any _ 3 N (q3 a20 a21) _ hF3 (by omega) (by omega))
  clear hF3
  by_cases hl : len1 ≤ 12
  · have h1 : ¬ (12 : Int) < len1 := by omega
    have hk : k1 = len1 := by omega
    clear hk1
    rw [hk] at HI1
    go_upto_region 7 with (go_at_call 11; (with_reducible refine HMD.out.mono ?_); rintro e wc ⟨⟨rm, rfl, hrm⟩, hbc⟩; have s_wc := hbc.size; (try simp only [World.size_alloc, World.size_setCell, World.size_drew, sz_drewN] at s_wc); have z_wc_0_0 : w.heap.size < wc.heap.size := (by omega); have z_wc_0_1 : w.heap.size < wc.heap.size + 1 := (by omega); have z_wc_0_2 : w.heap.size < wc.heap.size + 1 + 1 := (by omega); have q_wc_0_0 : wc.cell? ⟨w.heap.size, 0, none⟩ = some (.int .i64 a20) := (hbc.cell (p := ⟨w.heap.size, 0, none⟩) (by first | (show w.heap.size < _; omega) | (show w.heap.size < _; simp; done) | (show w.heap.size < _; simp; omega))).trans (by first | assumption | (go_simp; done)); have q_wc_0_1 : wc.cell? ⟨w.heap.size, 1, none⟩ = some (.int .i64 a21) := (hbc.cell (p := ⟨w.heap.size, 1, none⟩) (by first | (show w.heap.size < _; omega) | (show w.heap.size < _; simp; done) | (show w.heap.size < _; simp; omega))).trans (by first | assumption | (go_simp; done)))
    have hbcc : Below wb.heap.size wb wc := (by have s0_ := hbc.size; (try simp only [World.size_alloc, World.size_setCell, World.size_drew, sz_drewN] at s0_); repeat' (first | (with_reducible exact Below.refl _ _) | (with_reducible refine bel_call ?_ ?_ hbc) | (with_reducible refine Below.alloc ?_ ?_ _) | (with_reducible refine below_drewN ?_ _) | (with_reducible refine Below.drew ?_) | (with_reducible refine Below.setCell ?_ ?_ _) | omega | (simp; omega) | (simp; done)))
    have hRm := runs_of_row hrm
    have hHTA := fun (m : Int) w1 (hb : Below wb.heap.size wb w1) => tells_any r (.slice a1 len1 cap1) (min n0 12) _ _ _ _ _ m w1 (HROW.out.keepb hb) ((HI1.out cap1 (by omega)).keepb (by have s0_ := hbwb.size; have s1_ := hb.size; (try simp only [World.size_alloc, World.size_setCell, World.size_drew, sz_drewN] at s0_ s1_); repeat' (first | (with_reducible exact Below.refl _ _) | (with_reducible refine bel_call ?_ ?_ hb) | (with_reducible refine bel_call ?_ ?_ hbwb) | (with_reducible refine Below.alloc ?_ ?_ _) | (with_reducible refine below_drewN ?_ _) | (with_reducible refine Below.drew ?_) | (with_reducible refine Below.setCell ?_ ?_ _) | omega | (simp; omega) | (simp; done)))) (fun j hj => HWF0.out j (by omega)) (by omega) (by omega)
    have hHTB := fun (m : Int) w1 (hb : Below wc.heap.size wc w1) => tells_any rm (.slice a1 len1 cap1) (min 3 N) _ _ _ _ _ m w1 (hRm.keepb hb) ((HI1.out cap1 (by omega)).keepb (by have s0_ := hbwb.size; have s1_ := hbcc.size; have s2_ := hb.size; (try simp only [World.size_alloc, World.size_setCell, World.size_drew, sz_drewN] at s0_ s1_ s2_); repeat' (first | (with_reducible exact Below.refl _ _) | (with_reducible refine bel_call ?_ ?_ hb) | (with_reducible refine bel_call ?_ ?_ hbcc) | (with_reducible refine bel_call ?_ ?_ hbwb) | (with_reducible refine Below.alloc ?_ ?_ _) | (with_reducible refine below_drewN ?_ _) | (with_reducible refine Below.drew ?_) | (with_reducible refine Below.setCell ?_ ?_ _) | omega | (simp; omega) | (simp; done)))) (fun j hj => wf_small j (by omega)) (by omega) (by omega)
    have HTA := Lib.hid hHTA
    have HTB := Lib.hid hHTB
    clear hHTA hHTB hrm hRm HMD hbc
    go_wp2_with (go_at_call 15; (first
      | ((with_reducible refine (HTB.out _ _ (by have s0_ := hbd.size; have s1_ := hbe.size; (try simp only [World.size_alloc, World.size_setCell, World.size_drew, sz_drewN] at s0_ s1_); repeat' (first | (with_reducible exact Below.refl _ _) | (with_reducible refine bel_call ?_ ?_ hbe) | (with_reducible refine bel_call ?_ ?_ hbd) | (with_reducible refine Below.alloc ?_ ?_ _) | (with_reducible refine below_drewN ?_ _) | (with_reducible refine Below.drew ?_) | (with_reducible refine Below.setCell ?_ ?_ _) | omega | (simp; omega) | (simp; done)))).mono ?_); rintro e wf ⟨rfl, hbf⟩)
      | ((with_reducible refine (HTA.out _ _ (by have s0_ := hbcc.size; have s1_ := hbd.size; (try simp only [World.size_alloc, World.size_setCell, World.size_drew, sz_drewN] at s0_ s1_); repeat' (first | (with_reducible exact Below.refl _ _) | (with_reducible refine bel_call ?_ ?_ hbd) | (with_reducible refine bel_call ?_ ?_ hbcc) | (with_reducible refine Below.alloc ?_ ?_ _) | (with_reducible refine below_drewN ?_ _) | (with_reducible refine Below.drew ?_) | (with_reducible refine Below.setCell ?_ ?_ _) | omega | (simp; omega) | (simp; done)))).mono ?_); rintro e we ⟨rfl, hbe⟩)
      | ((with_reducible refine (HTA.out _ _ (by have s0_ := hbcc.size; (try simp only [World.size_alloc, World.size_setCell, World.size_drew, sz_drewN] at s0_); repeat' (first | (with_reducible exact Below.refl _ _) | (with_reducible refine bel_call ?_ ?_ hbcc) | (with_reducible refine Below.alloc ?_ ?_ _) | (with_reducible refine below_drewN ?_ _) | (with_reducible refine Below.drew ?_) | (with_reducible refine Below.setCell ?_ ?_ _) | omega | (simp; omega) | (simp; done)))).mono ?_); rintro e wd ⟨rfl, hbd⟩)))
    go_ret
    exact ⟨rfl, (by have s0_ := hbwb.size; have s1_ := hbcc.size; have s2_ := hbd.size; have s3_ := hbe.size; have s4_ := hbf.size; (try simp only [World.size_alloc, World.size_setCell, World.size_drew, sz_drewN] at s0_ s1_ s2_ s3_ s4_); repeat' (first | (with_reducible exact Below.refl _ _) | (with_reducible refine bel_call ?_ ?_ hbf) | (with_reducible refine bel_call ?_ ?_ hbe) | (with_reducible refine bel_call ?_ ?_ hbd) | (with_reducible refine bel_call ?_ ?_ hbcc) | (with_reducible refine bel_call ?_ ?_ hbwb) | (with_reducible refine Below.alloc ?_ ?_ _) | (with_reducible refine below_drewN ?_ _) | (with_reducible refine Below.drew ?_) | (with_reducible refine Below.setCell ?_ ?_ _) | omega | (simp; omega) | (simp; done)))⟩
  · have h1 : (12 : Int) < len1 := by omega
    have h2 : (0 : Int) ≤ 12 ∧ (12 : Int) ≤ cap1 := by omega
    have h3 : 12 ≤ cap1 := by omega
    have hk : k1 = 12 := by omega
    clear hk1
    rw [hk] at HI1
    obtain ⟨x1, rfl⟩ := ha1 (by omega)
    go_upto_region 7 with (go_at_call 11; (with_reducible refine HMD.out.mono ?_); rintro e wc ⟨⟨rm, rfl, hrm⟩, hbc⟩; have s_wc := hbc.size; (try simp only [World.size_alloc, World.size_setCell, World.size_drew, sz_drewN] at s_wc); have z_wc_0_0 : w.heap.size < wc.heap.size := (by omega); have z_wc_0_1 : w.heap.size < wc.heap.size + 1 := (by omega); have z_wc_0_2 : w.heap.size < wc.heap.size + 1 + 1 := (by omega); have q_wc_0_0 : wc.cell? ⟨w.heap.size, 0, none⟩ = some (.int .i64 a20) := (hbc.cell (p := ⟨w.heap.size, 0, none⟩) (by first | (show w.heap.size < _; omega) | (show w.heap.size < _; simp; done) | (show w.heap.size < _; simp; omega))).trans (by first | assumption | (go_simp; done)); have q_wc_0_1 : wc.cell? ⟨w.heap.size, 1, none⟩ = some (.int .i64 a21) := (hbc.cell (p := ⟨w.heap.size, 1, none⟩) (by first | (show w.heap.size < _; omega) | (show w.heap.size < _; simp; done) | (show w.heap.size < _; simp; omega))).trans (by first | assumption | (go_simp; done)))
    have hbcc : Below wb.heap.size wb wc := (by have s0_ := hbc.size; (try simp only [World.size_alloc, World.size_setCell, World.size_drew, sz_drewN] at s0_); repeat' (first | (with_reducible exact Below.refl _ _) | (with_reducible refine bel_call ?_ ?_ hbc) | (with_reducible refine Below.alloc ?_ ?_ _) | (with_reducible refine below_drewN ?_ _) | (with_reducible refine Below.drew ?_) | (with_reducible refine Below.setCell ?_ ?_ _) | omega | (simp; omega) | (simp; done)))
    have hRm := runs_of_row hrm
    have hHTA := fun (m : Int) w1 (hb : Below wb.heap.size wb w1) => tells_any r (.slice (some x1) 12 cap1) (min n0 12) _ _ _ _ _ m w1 (HROW.out.keepb hb) ((HI1.out cap1 (by omega)).keepb (by have s0_ := hbwb.size; have s1_ := hb.size; (try simp only [World.size_alloc, World.size_setCell, World.size_drew, sz_drewN] at s0_ s1_); repeat' (first | (with_reducible exact Below.refl _ _) | (with_reducible refine bel_call ?_ ?_ hb) | (with_reducible refine bel_call ?_ ?_ hbwb) | (with_reducible refine Below.alloc ?_ ?_ _) | (with_reducible refine below_drewN ?_ _) | (with_reducible refine Below.drew ?_) | (with_reducible refine Below.setCell ?_ ?_ _) | omega | (simp; omega) | (simp; done)))) (fun j hj => HWF0.out j (by omega)) (by omega) (by omega)
    have hHTB := fun (m : Int) w1 (hb : Below wc.heap.size wc w1) => tells_any rm (.slice (some x1) 12 cap1) (min 3 N) _ _ _ _ _ m w1 (hRm.keepb hb) ((HI1.out cap1 (by omega)).keepb (by have s0_ := hbwb.size; have s1_ := hbcc.size; have s2_ := hb.size; (try simp only [World.size_alloc, World.size_setCell, World.size_drew, sz_drewN] at s0_ s1_ s2_); repeat' (first | (with_reducible exact Below.refl _ _) | (with_reducible refine bel_call ?_ ?_ hb) | (with_reducible refine bel_call ?_ ?_ hbcc) | (with_reducible refine bel_call ?_ ?_ hbwb) | (with_reducible refine Below.alloc ?_ ?_ _) | (with_reducible refine below_drewN ?_ _) | (with_reducible refine Below.drew ?_) | (with_reducible refine Below.setCell ?_ ?_ _) | omega | (simp; omega) | (simp; done)))) (fun j hj => wf_small j (by omega)) (by omega) (by omega)
    have HTA := Lib.hid hHTA
    have HTB := Lib.hid hHTB
    clear hHTA hHTB hrm hRm HMD hbc
    go_wp2_with (go_at_call 15; (first
      | ((with_reducible refine (HTB.out _ _ (by have s0_ := hbd.size; have s1_ := hbe.size; (try simp only [World.size_alloc, World.size_setCell, World.size_drew, sz_drewN] at s0_ s1_); repeat' (first | (with_reducible exact Below.refl _ _) | (with_reducible refine bel_call ?_ ?_ hbe) | (with_reducible refine bel_call ?_ ?_ hbd) | (with_reducible refine Below.alloc ?_ ?_ _) | (with_reducible refine below_drewN ?_ _) | (with_reducible refine Below.drew ?_) | (with_reducible refine Below.setCell ?_ ?_ _) | omega | (simp; omega) | (simp; done)))).mono ?_); rintro e wf ⟨rfl, hbf⟩)
      | ((with_reducible refine (HTA.out _ _ (by have s0_ := hbcc.size; have s1_ := hbd.size; (try simp only [World.size_alloc, World.size_setCell, World.size_drew, sz_drewN] at s0_ s1_); repeat' (first | (with_reducible exact Below.refl _ _) | (with_reducible refine bel_call ?_ ?_ hbd) | (with_reducible refine bel_call ?_ ?_ hbcc) | (with_reducible refine Below.alloc ?_ ?_ _) | (with_reducible refine below_drewN ?_ _) | (with_reducible refine Below.drew ?_) | (with_reducible refine Below.setCell ?_ ?_ _) | omega | (simp; omega) | (simp; done)))).mono ?_); rintro e we ⟨rfl, hbe⟩)
      | ((with_reducible refine (HTA.out _ _ (by have s0_ := hbcc.size; (try simp only [World.size_alloc, World.size_setCell, World.size_drew, sz_drewN] at s0_); repeat' (first | (with_reducible exact Below.refl _ _) | (with_reducible refine bel_call ?_ ?_ hbcc) | (with_reducible refine Below.alloc ?_ ?_ _) | (with_reducible refine below_drewN ?_ _) | (with_reducible refine Below.drew ?_) | (with_reducible refine Below.setCell ?_ ?_ _) | omega | (simp; omega) | (simp; done)))).mono ?_); rintro e wd ⟨rfl, hbd⟩)))
    go_ret
    exact ⟨rfl, (by have s0_ := hbwb.size; have s1_ := hbcc.size; have s2_ := hbd.size; have s3_ := hbe.size; have s4_ := hbf.size; (try simp only [World.size_alloc, World.size_setCell, World.size_drew, sz_drewN] at s0_ s1_ s2_ s3_ s4_); repeat' (first | (with_reducible exact Below.refl _ _) | (with_reducible refine bel_call ?_ ?_ hbf) | (with_reducible refine bel_call ?_ ?_ hbe) | (with_reducible refine bel_call ?_ ?_ hbd) | (with_reducible refine bel_call ?_ ?_ hbcc) | (with_reducible refine bel_call ?_ ?_ hbwb) | (with_reducible refine Below.alloc ?_ ?_ _) | (with_reducible refine below_drewN ?_ _) | (with_reducible refine Below.drew ?_) | (with_reducible refine Below.setCell ?_ ?_ _) | omega | (simp; omega) | (simp; done)))⟩
end Go.Proofs.Ytnjdomfhjhlamaa
