/- The walk of the law StepperTells. -/
import Derived.Test.YtamonmhicjejoaaR5
import Derived.Test.YtamonmhicjejoaaFrame
import Derived.Deep.RegionWith
namespace Go.Proofs.Ytamonmhicjejoaa
open Go.RowKit
set_option linter.unusedVariables false
set_option linter.unusedSimpArgs false

theorem add_block (x : Addr) (k : Nat) : (x.add k).block = x.block := by unfold Addr.add; split <;> rfl

set_option maxHeartbeats 1600000 in
theorem tells_out (a00 a01 a1 : Int) (a2 : Option Addr) (len2 cap2 : Nat) (w : World) (h : a1 < 0 ∨ 2305843009213693952 < a1) :
    Calls Try.prog 5 #[.agg #[.int .i64 a00, .int .i64 a01], .int .i64 a1, .slice a2 len2 cap2] w fun e w' => e = .returned (.bool true) ∧ Below w.heap.size w w' := by
  obtain ⟨p1, p2⟩ := pOf_bd a01
  obtain ⟨e1, e2⟩ := eOf_bd a00 (pOf a01) p1
  have hm := fun w => made5 a00 a01 w
  generalize eOf a00 (pOf a01) = E at *
  generalize pOf a01 = P at *
  have HM := Lib.hid hm
  have hno := fun w => new_no E P a1 w (.inr h)
  have HNO := Lib.hid hno
  clear hm hno
  by_cases h0 : a1 < 0
  · go_enter Try.func5, Try.ntmps5
    go_wp2_with (first
      | (go_at_call 14; (with_reducible refine (awake05 _).mono ?_); rintro e w1 ⟨rfl, hb1⟩; have s_w1 := hb1.size; (try simp only [World.size_alloc, World.size_setCell, World.size_drew, sz_drewN] at s_w1); have z_w1_0_0 : w.heap.size < w1.heap.size := (by omega); have z_w1_0_1 : w.heap.size < w1.heap.size + 1 := (by omega); have z_w1_0_2 : w.heap.size < w1.heap.size + 1 + 1 := (by omega); have q_w1_0_0 : w1.cell? ⟨w.heap.size, 0, none⟩ = some (.int .i64 a00) := (hb1.cell (p := ⟨w.heap.size, 0, none⟩) (by first | (show w.heap.size < _; omega) | (show w.heap.size < _; simp; done) | (show w.heap.size < _; simp; omega))).trans (by first | assumption | (go_simp; done)); have q_w1_0_1 : w1.cell? ⟨w.heap.size, 1, none⟩ = some (.int .i64 a01) := (hb1.cell (p := ⟨w.heap.size, 1, none⟩) (by first | (show w.heap.size < _; omega) | (show w.heap.size < _; simp; done) | (show w.heap.size < _; simp; omega))).trans (by first | assumption | (go_simp; done)))
      | (go_at_call 15; (with_reducible refine (HM.out _).mono ?_); rintro e w2 ⟨rfl, hb2⟩; have s_w2 := hb2.size; (try simp only [World.size_alloc, World.size_setCell, World.size_drew, sz_drewN] at s_w2))
      | (go_at_call 16; (with_reducible refine (HNO.out _).mono ?_); rintro e w3 ⟨rfl, hb3⟩))
    go_ret
    exact ⟨rfl, (by have s0_ := hb1.size; have s1_ := hb2.size; have s2_ := hb3.size; (try simp only [World.size_alloc, World.size_setCell, World.size_drew, sz_drewN] at s0_ s1_ s2_); repeat' (first | (with_reducible exact Below.refl _ _) | (with_reducible refine bel_call ?_ ?_ hb3) | (with_reducible refine bel_call ?_ ?_ hb2) | (with_reducible refine bel_call ?_ ?_ hb1) | (with_reducible refine Below.alloc ?_ ?_ _) | (with_reducible refine below_drewN ?_ _) | (with_reducible refine Below.drew ?_) | (with_reducible refine Below.setCell ?_ ?_ _) | omega | (simp; omega) | (simp; done)))⟩
  · have h1 : 2305843009213693952 < a1 := by omega
    go_enter Try.func5, Try.ntmps5
    go_wp2_with (first
      | (go_at_call 14; (with_reducible refine (awake05 _).mono ?_); rintro e w1 ⟨rfl, hb1⟩; have s_w1 := hb1.size; (try simp only [World.size_alloc, World.size_setCell, World.size_drew, sz_drewN] at s_w1); have z_w1_0_0 : w.heap.size < w1.heap.size := (by omega); have z_w1_0_1 : w.heap.size < w1.heap.size + 1 := (by omega); have z_w1_0_2 : w.heap.size < w1.heap.size + 1 + 1 := (by omega); have q_w1_0_0 : w1.cell? ⟨w.heap.size, 0, none⟩ = some (.int .i64 a00) := (hb1.cell (p := ⟨w.heap.size, 0, none⟩) (by first | (show w.heap.size < _; omega) | (show w.heap.size < _; simp; done) | (show w.heap.size < _; simp; omega))).trans (by first | assumption | (go_simp; done)); have q_w1_0_1 : w1.cell? ⟨w.heap.size, 1, none⟩ = some (.int .i64 a01) := (hb1.cell (p := ⟨w.heap.size, 1, none⟩) (by first | (show w.heap.size < _; omega) | (show w.heap.size < _; simp; done) | (show w.heap.size < _; simp; omega))).trans (by first | assumption | (go_simp; done)))
      | (go_at_call 15; (with_reducible refine (HM.out _).mono ?_); rintro e w2 ⟨rfl, hb2⟩; have s_w2 := hb2.size; (try simp only [World.size_alloc, World.size_setCell, World.size_drew, sz_drewN] at s_w2))
      | (go_at_call 16; (with_reducible refine (HNO.out _).mono ?_); rintro e w3 ⟨rfl, hb3⟩))
    go_ret
    exact ⟨rfl, (by have s0_ := hb1.size; have s1_ := hb2.size; have s2_ := hb3.size; (try simp only [World.size_alloc, World.size_setCell, World.size_drew, sz_drewN] at s0_ s1_ s2_); repeat' (first | (with_reducible exact Below.refl _ _) | (with_reducible refine bel_call ?_ ?_ hb3) | (with_reducible refine bel_call ?_ ?_ hb2) | (with_reducible refine bel_call ?_ ?_ hb1) | (with_reducible refine Below.alloc ?_ ?_ _) | (with_reducible refine below_drewN ?_ _) | (with_reducible refine Below.drew ?_) | (with_reducible refine Below.setCell ?_ ?_ _) | omega | (simp; omega) | (simp; done)))⟩

set_option maxRecDepth 8000 in
set_option maxHeartbeats 12800000 in
theorem tells_in (a00 a01 a1 : Int) (a2 : Option Addr) (len2 cap2 : Nat) (z2 : List Int) (w : World) (f2 : IsRow .i64 w a2 len2 cap2 z2) (o0 : 0 ≤ a1) (o1 : a1 ≤ 2305843009213693952) :
    Calls Try.prog 5 #[.agg #[.int .i64 a00, .int .i64 a01], .int .i64 a1, .slice a2 len2 cap2] w fun e w' => e = .returned (.bool true) ∧ Below w.heap.size w w' := by
  obtain ⟨p1, p2⟩ := pOf_bd a01
  obtain ⟨e1, e2⟩ := eOf_bd a00 (pOf a01) p1
  have hm := fun w => made5 a00 a01 w
  generalize eOf a00 (pOf a01) = E at *
  generalize pOf a01 = P at *
  have HM := Lib.hid hm
  have hz : ∀ i, i < len2 → ∃ x, a2 = some x ∧ x.block < w.heap.size ∧ ∃ z, w.cell? (x.add i) = some (.int .i64 z) ∧ i < cap2 := by
    intro i hi
    rcases f2 with ⟨_, rfl, _, _⟩ | ⟨x, rfl, hl, hm, hzl, hc, _, hb⟩
    · omega
    · exact ⟨x, rfl, hb (by omega), _, hc i (by omega), by omega⟩
  have HZ := Lib.hid hz
  clear hm hz f2
  have q1 : ¬ a1 < 0 := by omega
  have q2 : ¬ 2305843009213693952 < a1 := by omega
  go_enter Try.func5, Try.ntmps5
  go_upto_region 9 with (first
    | (go_at_call 14; (with_reducible refine (awake05 _).mono ?_); rintro e w1 ⟨rfl, hb1⟩; have s_w1 := hb1.size; (try simp only [World.size_alloc, World.size_setCell, World.size_drew, sz_drewN] at s_w1); have z_w1_0_0 : w.heap.size < w1.heap.size := (by omega); have z_w1_0_1 : w.heap.size < w1.heap.size + 1 := (by omega); have z_w1_0_2 : w.heap.size < w1.heap.size + 1 + 1 := (by omega); have q_w1_0_0 : w1.cell? ⟨w.heap.size, 0, none⟩ = some (.int .i64 a00) := (hb1.cell (p := ⟨w.heap.size, 0, none⟩) (by first | (show w.heap.size < _; omega) | (show w.heap.size < _; simp; done) | (show w.heap.size < _; simp; omega))).trans (by first | assumption | (go_simp; done)); have q_w1_0_1 : w1.cell? ⟨w.heap.size, 1, none⟩ = some (.int .i64 a01) := (hb1.cell (p := ⟨w.heap.size, 1, none⟩) (by first | (show w.heap.size < _; omega) | (show w.heap.size < _; simp; done) | (show w.heap.size < _; simp; omega))).trans (by first | assumption | (go_simp; done)))
    | (go_at_call 15; (with_reducible refine (HM.out _).mono ?_); rintro e w2 ⟨rfl, hb2⟩; have s_w2 := hb2.size; (try simp only [World.size_alloc, World.size_setCell, World.size_drew, sz_drewN] at s_w2))
    | (go_at_call 16; (with_reducible refine (new_yes E P a1 _ e1 e2 p2 o0 o1).mono ?_); rintro e w3 ⟨⟨s, gs, rfl, hss⟩, hb3⟩; have s_w3 := hb3.size; (try simp only [World.size_alloc, World.size_setCell, World.size_drew, sz_drewN] at s_w3); have z_w3_0_0 : w2.heap.size < w3.heap.size := (by omega); have z_w3_0_1 : w2.heap.size < w3.heap.size + 1 := (by omega); have z_w3_0_2 : w2.heap.size < w3.heap.size + 1 + 1 := (by omega); have q_w3_0_0 : w3.cell? ⟨w2.heap.size, 0, none⟩ = some (.int .i64 E) := (hb3.cell (p := ⟨w2.heap.size, 0, none⟩) (by first | (show w2.heap.size < _; omega) | (show w2.heap.size < _; simp; done) | (show w2.heap.size < _; simp; omega))).trans (by first | assumption | (go_simp; done)); have q_w3_0_1 : w3.cell? ⟨w2.heap.size, 1, none⟩ = some (.int .i64 P) := (hb3.cell (p := ⟨w2.heap.size, 1, none⟩) (by first | (show w2.heap.size < _; omega) | (show w2.heap.size < _; simp; done) | (show w2.heap.size < _; simp; omega))).trans (by first | assumption | (go_simp; done))))
  have ss := st_size hss
  refine gen_world (F := fun V => Sn V s E P a1 (0 + 1) ∧ RS V w3.heap.size E P a1 (0 + 1) ∧ s < w3.heap.size ∧ w.heap.size ≤ s ∧ Below w.heap.size w V) ⟨?_, ⟨?_, ?_, ?_, ?_, ?_, ?_⟩, ss, by simp at gs; omega, (by have s0_ := hb1.size; have s1_ := hb2.size; have s2_ := hb3.size; (try simp only [World.size_alloc, World.size_setCell, World.size_drew, sz_drewN] at s0_ s1_ s2_); repeat' (first | (with_reducible exact Below.refl _ _) | (with_reducible refine bel_call ?_ ?_ hb3) | (with_reducible refine bel_call ?_ ?_ hb2) | (with_reducible refine bel_call ?_ ?_ hb1) | (with_reducible refine Below.alloc ?_ ?_ _) | (with_reducible refine below_drewN ?_ _) | (with_reducible refine Below.drew ?_) | (with_reducible refine Below.setCell ?_ ?_ _) | omega | (simp; omega) | (simp; done)))⟩ ?_
  · show Sn _ s E P a1 1; exact hss.keepb (by repeat' (first | (with_reducible exact Below.refl _ _) | (with_reducible refine Below.alloc ?_ ?_ _) | (with_reducible refine below_drewN ?_ _) | (with_reducible refine Below.drew ?_) | (with_reducible refine Below.setCell ?_ ?_ _) | omega | (simp; omega) | (simp; done)))
  iterate 4 (focus (go_simp; done))
  · intro o; go_simp
  · simp
  clear hb1 hb2 hb3 s_w1 s_w2 s_w3 gs hss HM ss q_w3_0_0 q_w3_0_1 q_w1_0_0 q_w1_0_1
  generalize w3.heap.size = r at *
  rintro V ⟨hss, hrr, gr, gs, hbv⟩
  have SS := Lib.hid hss
  have RR := Lib.hid hrr
  clear hss hrr
  go_wp2
  go_loopw [11] (fun i wr => ∃ k : Nat, i = .int .i64 k ∧ k ≤ 40 ∧ k ≤ len2 ∧ ∃ off : Int, 0 ≤ off ∧ off ≤ 2305843009213693952 ∧ Sn wr s E P off (k + 1) ∧ RS wr r E P off (k + 1) ∧ Below w.heap.size w wr) (fun i _ => 40 - (intOf i).toNat)
  case atStart => exact ⟨0, rfl, by omega, by omega, a1, o0, o1, SS.out, RR.out, hbv⟩
  case round =>
    clear SS RR hbv q1 q2 o0 o1
    obtain ⟨k, rfl, hk, hk2, off, o0, o1, hss, hrr, hbv⟩ := hrel
    have SS := Lib.hid hss
    have RR := Lib.hid hrr
    have ssz := st_size hss
    have rsz := hrr.2.2.2.2.2
    have hs := hbv.size
    clear hss hrr
    by_cases hlt : k < len2 ∧ k < 40
    · obtain ⟨hl1, hl2⟩ := hlt
      obtain ⟨x, rfl, xb, z, hz, hcap⟩ := HZ.out k hl1
      have hcell : wr.cell? (x.add k) = some (.int .i64 z) := (hbv.cell (p := x.add k) (by rw [add_block]; exact xb)).trans hz
      have hk1 : Hid (((k + 1 : Nat) : Int) = (k : Int) + 1) := by show _ = _; omega
      obtain ⟨so0, so1⟩ := shOff_bd off z o0 o1
      obtain ⟨bb, hbb⟩ : ∃ bb, decide (0 ≤ z ∧ z ≤ 2305843009213693952 - off) = bb := ⟨_, rfl⟩
      obtain ⟨R, hR⟩ : ∃ R, Win.rel E P (k + 1) + shOff off z = R := ⟨_, rfl⟩
      obtain ⟨D, hD⟩ : ∃ R, Win.dl E P (k + 1) + shOff off z = R := ⟨_, rfl⟩
      obtain ⟨B, hB⟩ : ∃ R, Win.bit E P (k + 1) = R := ⟨_, rfl⟩
      obtain ⟨G, hG⟩ : ∃ R, shG (shOff off z) (Win.grp E P (k + 1)) = R := ⟨_, rfl⟩
      have hsh := fun w h => shift_sn s E P off (k + 1) z w h (by omega) o0 o1
      have hrs := fun w h => rshift r E P off (k + 1) z w h o0 o1
      have hpk := fun w h => peek_any s E P (shOff off z) (k + 1) w h e1 e2 p2 (by omega) (by omega) so0 so1
      have hrp := fun w h => rpeek r E P (shOff off z) (k + 1) w h e1 e2 p2 (by omega) (by omega) so0 so1
      have hnx := fun w h => next_any s E P (shOff off z) (k + 1) w h e1 e2 p2 (by omega) (by omega) so0 so1
      have hrn := fun w h => rnext r E P (shOff off z) (k + 1) w h e1 e2 p2 (by omega) (by omega) so0 so1
      rw [hbb] at hsh hrs
      rw [hR, hD, hB, hG] at hpk hrp hnx hrn
      generalize shOff off z = off' at *
      have HSH := Lib.hid hsh
      have HRS := Lib.hid hrs
      have HPK := Lib.hid hpk
      have HRP := Lib.hid hrp
      have HNX := Lib.hid hnx
      have HRN := Lib.hid hrn
      clear hsh hrs hpk hrp hnx hrn hbb hR hD hB hG hz
      go_upto_region 12 with fail
      go_region_with (first
        | (go_at_call 20; (with_reducible refine (HSH.out _ ?_).mono ?_); (focus (exact SS.out.keepb (by repeat' (first | (with_reducible exact Below.refl _ _) | (with_reducible refine Below.alloc ?_ ?_ _) | (with_reducible refine below_drewN ?_ _) | (with_reducible refine Below.drew ?_) | (with_reducible refine Below.setCell ?_ ?_ _) | omega | (simp; omega) | (simp; done))))); rintro e w5 ⟨rfl, h5, ho5⟩; have SS5 := Lib.hid h5; have RR5 := Lib.hid ((RR.out.keepb (by repeat' (first | (with_reducible exact Below.refl _ _) | (with_reducible refine Below.alloc ?_ ?_ _) | (with_reducible refine below_drewN ?_ _) | (with_reducible refine Below.drew ?_) | (with_reducible refine Below.setCell ?_ ?_ _) | omega | (simp; omega) | (simp; done)))).keep ho5 (by omega)); clear h5; have s5 : wr.heap.size ≤ w5.heap.size := ho5.size; have hcell5 : w5.cell? (x.add k) = some (.int .i64 z) := (ho5.cell (p := x.add k) (by rw [add_block]; show x.block < wr.heap.size; omega) (by rw [add_block]; omega)).trans hcell; have hB5 : Below w.heap.size w w5 := bel_only (b := s) (bel_chain0 hbv (by repeat' (first | (with_reducible exact Below.refl _ _) | (with_reducible refine Below.alloc ?_ ?_ _) | (with_reducible refine below_drewN ?_ _) | (with_reducible refine Below.drew ?_) | (with_reducible refine Below.setCell ?_ ?_ _) | omega | (simp; omega) | (simp; done)))) (by first | (simp; done) | (simp; omega) | omega) gs ho5)
        | (go_at_call 21; (with_reducible refine (HRS.out _ ?_).mono ?_); (focus (exact RR5.out)); rintro e w6 ⟨rfl, h6, ho6⟩; have RR6 := Lib.hid h6; have SS6 := Lib.hid (SS5.out.keep ho6 (by omega)); clear h6; have hB6 : Below w.heap.size w w6 := bel_only (b := r) hB5 hB5.size (by omega) ho6)
        | (go_at_call 19; (with_reducible refine (HPK.out _ ?_).mono ?_); (focus (exact SS6.out)); rintro e w7 ⟨rfl, hb7⟩; have RR7 := Lib.hid (RR6.out.keepb hb7); have SS7 := Lib.hid (SS6.out.keepb hb7); have hB7 : Below w.heap.size w w7 := bel_call hB6 hB6.size hb7)
        | (go_at_call 22; (with_reducible refine (HRP.out _ ?_).mono ?_); (focus (exact RR7.out)); rintro e w8 ⟨rfl, hb8⟩; have RR8 := Lib.hid (RR7.out.keepb hb8); have SS8 := Lib.hid (SS7.out.keepb hb8); have hB8 : Below w.heap.size w w8 := bel_call hB7 hB7.size hb8)
        | (go_at_call 17; (with_reducible refine (HNX.out _ ?_).mono ?_); (focus (exact SS8.out)); rintro e w9 ⟨rfl, h9, ho9⟩; have SS9 := Lib.hid h9; have RR9 := Lib.hid (RR8.out.keep ho9 (by omega)); clear h9; have hB9 : Below w.heap.size w w9 := bel_only (b := s) hB8 hB8.size gs ho9)
        | (go_at_call 23; (with_reducible refine (HRN.out _ ?_).mono ?_); (focus (exact RR9.out)); rintro e w10 ⟨rfl, h10, ho10⟩; have RR10 := Lib.hid h10; have SS10 := Lib.hid (SS9.out.keep ho10 (by omega)); clear h10; have hB10 : Below w.heap.size w w10 := bel_only (b := r) hB9 hB9.size (by omega) ho10))
      all_goals
        go_wp2
        go_roundw
        case rel => first | exact ⟨k + 1, by go_num, by omega, by omega, off', so0, so1, by rw [hk1.out]; exact SS10.out, by rw [hk1.out]; exact RR10.out, hB10⟩ | ((repeat apply Exists.intro); exact ⟨⟨k + 1, by go_num, by omega, by omega, off', so0, so1, by rw [hk1.out]; exact SS10.out, by rw [hk1.out]; exact RR10.out, hB10⟩, rfl⟩)
        case measure => simp [intOf]; omega
    · have hpk := fun w h => peek_any s E P off (k + 1) w h e1 e2 p2 (by omega) (by omega) o0 o1
      have hrp := fun w h => rpeek r E P off (k + 1) w h e1 e2 p2 (by omega) (by omega) o0 o1
      generalize Win.rel E P (k + 1) + off = R at *
      generalize Win.dl E P (k + 1) + off = D at *
      generalize Win.bit E P (k + 1) = B at *
      generalize shG off (Win.grp E P (k + 1)) = G at *
      have HPK := Lib.hid hpk
      have HRP := Lib.hid hrp
      clear hpk hrp
      by_cases hc : k < len2
      · have h40 : ¬ k < 40 := by omega
        clear hlt
        go_wp2_with (first
          | (go_at_call 19; (with_reducible refine (HPK.out _ ?_).mono ?_); (focus (exact SS.out.keepb (by repeat' (first | (with_reducible exact Below.refl _ _) | (with_reducible refine Below.alloc ?_ ?_ _) | (with_reducible refine below_drewN ?_ _) | (with_reducible refine Below.drew ?_) | (with_reducible refine Below.setCell ?_ ?_ _) | omega | (simp; omega) | (simp; done))))); rintro e w7 ⟨rfl, hb7⟩)
          | (go_at_call 22; (with_reducible refine (HRP.out _ ?_).mono ?_); (focus (exact RR.out.keepb (by have s0_ := hb7.size; (try simp only [World.size_alloc, World.size_setCell, World.size_drew, sz_drewN] at s0_); repeat' (first | (with_reducible exact Below.refl _ _) | (with_reducible refine bel_call ?_ ?_ hb7) | (with_reducible refine Below.alloc ?_ ?_ _) | (with_reducible refine below_drewN ?_ _) | (with_reducible refine Below.drew ?_) | (with_reducible refine Below.setCell ?_ ?_ _) | omega | (simp; omega) | (simp; done))))); rintro e w8 ⟨rfl, hb8⟩))
        go_ret
        exact ⟨rfl, bel_chain0 hbv (bel_call (bel_call (Below.refl _ _) hs hb7) (Nat.le_trans hs hb7.size) hb8)⟩
      · clear hlt
        go_wp2_with (first
          | (go_at_call 19; (with_reducible refine (HPK.out _ ?_).mono ?_); (focus (exact SS.out.keepb (by repeat' (first | (with_reducible exact Below.refl _ _) | (with_reducible refine Below.alloc ?_ ?_ _) | (with_reducible refine below_drewN ?_ _) | (with_reducible refine Below.drew ?_) | (with_reducible refine Below.setCell ?_ ?_ _) | omega | (simp; omega) | (simp; done))))); rintro e w7 ⟨rfl, hb7⟩)
          | (go_at_call 22; (with_reducible refine (HRP.out _ ?_).mono ?_); (focus (exact RR.out.keepb (by have s0_ := hb7.size; (try simp only [World.size_alloc, World.size_setCell, World.size_drew, sz_drewN] at s0_); repeat' (first | (with_reducible exact Below.refl _ _) | (with_reducible refine bel_call ?_ ?_ hb7) | (with_reducible refine Below.alloc ?_ ?_ _) | (with_reducible refine below_drewN ?_ _) | (with_reducible refine Below.drew ?_) | (with_reducible refine Below.setCell ?_ ?_ _) | omega | (simp; omega) | (simp; done))))); rintro e w8 ⟨rfl, hb8⟩))
        go_ret
        exact ⟨rfl, bel_chain0 hbv (bel_call (bel_call (Below.refl _ _) hs hb7) (Nat.le_trans hs hb7.size) hb8)⟩

theorem walk_StepperTells (a00 a01 a1 : Int) (a2 : Option Addr) (len2 cap2 : Nat) (z2 : List Int) (w : World) (_f00 : (Lit.int .i64 a00).wf = true) (_f01 : (Lit.int .i64 a01).wf = true) (_f1 : (Lit.int .i64 a1).wf = true) (f2 : IsRow .i64 w a2 len2 cap2 z2) :
    Calls Try.prog 5 #[.agg #[.int .i64 a00, .int .i64 a01], .int .i64 a1, .slice a2 len2 cap2] w fun e w' => e = .returned (.bool true) ∧ Below w.heap.size w w' := by
  by_cases h0 : 0 ≤ a1 ∧ a1 ≤ 2305843009213693952
  · exact tells_in a00 a01 a1 a2 len2 cap2 z2 w f2 h0.1 h0.2
  · exact tells_out a00 a01 a1 a2 len2 cap2 w (by omega)
end Go.Proofs.Ytamonmhicjejoaa
