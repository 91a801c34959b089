/- The walk of the law StepperShift. -/
import Derived.Test.YtamonmhicjejoaaSto
namespace Go.Proofs.Ytamonmhicjejoaa
open Go.RowKit
set_option linter.unusedVariables false
set_option linter.unusedSimpArgs false

set_option maxRecDepth 8000 in
set_option maxHeartbeats 6400000 in
theorem walk_StepperShift (a00 a01 a1 a2 : Int) (w : World) (_f00 : (Lit.int .i64 a00).wf = true) (_f01 : (Lit.int .i64 a01).wf = true) (_f1 : (Lit.int .i64 a1).wf = true) (_f2 : (Lit.int .i64 a2).wf = true) :
    Calls Try.prog 6 #[.agg #[.int .i64 a00, .int .i64 a01], .int .i64 a1, .int .i64 a2] w fun e w' => e = .returned (.bool true) ∧ Below w.heap.size w w' := by
  obtain ⟨p1, p2⟩ := pOf_bd a01
  obtain ⟨e1, e2⟩ := eOf_bd a00 (pOf a01) p1
  have hm := fun w => made5 a00 a01 w
  generalize eOf a00 (pOf a01) = E at *
  generalize pOf a01 = P at *
  have HM := Lib.hid hm
  clear hm
  obtain ⟨K, hat, o0, o1⟩ : ∃ o, bits .and .i64 a1 1099511627775 = o ∧ 0 ≤ o ∧ o ≤ 1099511627775 := ⟨_, mask40 a1, by omega, by omega⟩
  have m1 : 0 ≤ a2.tmod 50 + 50 := by have := Int.lt_tmod_of_pos a2 (b := 50) (by omega); omega
  have m3 : 0 ≤ a2.tmod 50 % 50 := Int.emod_nonneg _ (by omega)
  have m4 : a2.tmod 50 % 50 < 50 := Int.emod_lt_of_pos _ (by omega)
  have m2 : a2.tmod 50 + 50 ≤ 100 := by have := Int.tmod_lt_of_pos a2 (b := 50) (by omega); omega
  go_enter Try.func6, Try.ntmps6
  go_upto_region 4 with (first
    | (go_at_call 14; (with_reducible refine (awake05 _).mono ?_); rintro e w1 ⟨rfl, hb1⟩; have s_w1 := hb1.size; (try simp only [World.size_alloc, World.size_setCell, World.size_drew, sz_drewN] at s_w1); have z_w1_0_0 : w.heap.size < w1.heap.size := (by omega); have z_w1_0_1 : w.heap.size < w1.heap.size + 1 := (by omega); have z_w1_0_2 : w.heap.size < w1.heap.size + 1 + 1 := (by omega); have q_w1_0_0 : w1.cell? ⟨w.heap.size, 0, none⟩ = some (.int .i64 a00) := (hb1.cell (p := ⟨w.heap.size, 0, none⟩) (by first | (show w.heap.size < _; omega) | (show w.heap.size < _; simp; done) | (show w.heap.size < _; simp; omega))).trans (by first | assumption | (go_simp; done)); have q_w1_0_1 : w1.cell? ⟨w.heap.size, 1, none⟩ = some (.int .i64 a01) := (hb1.cell (p := ⟨w.heap.size, 1, none⟩) (by first | (show w.heap.size < _; omega) | (show w.heap.size < _; simp; done) | (show w.heap.size < _; simp; omega))).trans (by first | assumption | (go_simp; done)))
    | (go_at_call 15; (with_reducible refine (HM.out _).mono ?_); rintro e w2 ⟨rfl, hb2⟩; have s_w2 := hb2.size; (try simp only [World.size_alloc, World.size_setCell, World.size_drew, sz_drewN] at s_w2))
    | (go_at_call 16; (with_reducible refine (new_yes E P 0 _ e1 e2 p2 (by omega) (by omega)).mono ?_); rintro e w3 ⟨⟨a, ga, rfl, hsa⟩, hb3⟩; have s_w3 := hb3.size; (try simp only [World.size_alloc, World.size_setCell, World.size_drew, sz_drewN] at s_w3); have z_w3_0_0 : w2.heap.size < w3.heap.size := (by omega); have z_w3_0_1 : w2.heap.size < w3.heap.size + 1 := (by omega); have z_w3_0_2 : w2.heap.size < w3.heap.size + 1 + 1 := (by omega); have q_w3_0_0 : w3.cell? ⟨w2.heap.size, 0, none⟩ = some (.int .i64 E) := (hb3.cell (p := ⟨w2.heap.size, 0, none⟩) (by first | (show w2.heap.size < _; omega) | (show w2.heap.size < _; simp; done) | (show w2.heap.size < _; simp; omega))).trans (by first | assumption | (go_simp; done)); have q_w3_0_1 : w3.cell? ⟨w2.heap.size, 1, none⟩ = some (.int .i64 P) := (hb3.cell (p := ⟨w2.heap.size, 1, none⟩) (by first | (show w2.heap.size < _; omega) | (show w2.heap.size < _; simp; done) | (show w2.heap.size < _; simp; omega))).trans (by first | assumption | (go_simp; done))))
  go_upto_region 7 with (go_at_call 16; (with_reducible refine (new_yes E P 0 _ e1 e2 p2 (by omega) (by omega)).mono ?_); rintro e w4 ⟨⟨b, gb, rfl, hsb⟩, hb4⟩)
  have sa3 := st_size hsa
  refine gen_world (F := fun V => Sn V a E P 0 1 ∧ Sn V b E P 0 1 ∧ a < b ∧ w.heap.size ≤ a ∧ Below w.heap.size w V) ⟨hsa.keepb hb4, hsb, by omega, ?_, (by have s0_ := hb1.size; have s1_ := hb2.size; have s2_ := hb3.size; have s3_ := hb4.size; (try simp only [World.size_alloc, World.size_setCell, World.size_drew, sz_drewN] at s0_ s1_ s2_ s3_); repeat' (first | (with_reducible exact Below.refl _ _) | (with_reducible refine bel_call ?_ ?_ hb4) | (with_reducible refine bel_call ?_ ?_ hb3) | (with_reducible refine bel_call ?_ ?_ hb2) | (with_reducible refine bel_call ?_ ?_ hb1) | (with_reducible refine Below.alloc ?_ ?_ _) | (with_reducible refine below_drewN ?_ _) | (with_reducible refine Below.drew ?_) | (with_reducible refine Below.setCell ?_ ?_ _) | omega | (simp; omega) | (simp; done)))⟩ ?_
  · simp at ga; omega
  clear hb1 hb2 hb3 hb4 s_w1 s_w2 s_w3 ga gb hsa hsb HM sa3
  rintro V ⟨hsa, hsb, hab, ga, hbv⟩
  have SA := Lib.hid hsa
  have SB := Lib.hid hsb
  clear hsa hsb
  have hmm : ¬ (0 : Int) ≤ -1 := by omega
  go_upto_region 10 with (go_at_call 20; first
    | ((with_reducible refine (shift_yes_sn b E P 0 1 K _ SB.out (by omega) (by omega) (by omega) o0 (by omega)).mono ?_); rintro e w5 ⟨rfl, hsb5, ho5⟩)
    | ((with_reducible refine (shift_no_sn b E P (0 + K) 1 (-1) _ hsb5 (by omega) (by omega) (by omega) (.inl (by omega))).mono ?_); rintro e w6 ⟨rfl, hb6⟩))
  rw [Int.zero_add] at hsb5
  refine gen_world (F := fun V => Sn V a E P 0 (0 + 1) ∧ Sn V b E P K (0 + 1) ∧ Below w.heap.size w V) ⟨(SA.out.keep ho5 (by omega)).keepb hb6, (by show Sn _ b E P K 1; exact hsb5.keepb hb6), bel_call (bel_only hbv (by have := hbv.size; omega) (by omega) ho5) (by have := hbv.size; have := ho5.size; omega) hb6⟩ ?_
  clear hb6 hsb5 ho5 SA SB hbv hmm
  rintro V2 ⟨hsa, hsb, hbv⟩
  have SA := Lib.hid hsa
  have SB := Lib.hid hsb
  clear hsa hsb
  go_wp2
  go_loopw [12] (fun i wr => ∃ k : Nat, i = .int .i64 k ∧ (k : Int) ≤ a2.tmod 50 % 50 ∧ Sn wr a E P 0 (k + 1) ∧ Sn wr b E P K (k + 1) ∧ Below w.heap.size w wr) (fun i _ => (a2.tmod 50 % 50 - intOf i).toNat)
  case atStart => exact ⟨0, rfl, by simp; omega, SA.out, SB.out, hbv⟩
  case round =>
    clear SA SB hbv
    obtain ⟨k, rfl, hk, hsa, hsb, hbv⟩ := hrel
    have SA := Lib.hid hsa
    have SB := Lib.hid hsb
    have asz := st_size hsa
    have bsz := st_size hsb
    clear hsa hsb
    by_cases hlt : (k : Int) < a2.tmod 50 % 50
    · obtain ⟨d1, d2, d3, d4, d5, d6⟩ := sn_bd E P (k + 1) e1 e2 p2 (by omega) (by omega)
      have hna := fun w h => next_any a E P 0 (k + 1) w h e1 e2 p2 (by omega) (by omega) (by omega) (by omega)
      have hnb := fun w h => next_any b E P K (k + 1) w h e1 e2 p2 (by omega) (by omega) o0 (by omega)
      rw [shG_zero, Int.add_zero, Int.add_zero] at hna
      have sg : shG K (Win.grp E P (k + 1)) = if 0 < Win.grp E P (k + 1) then Win.grp E P (k + 1) + K else Win.grp E P (k + 1) := rfl
      generalize shG K (Win.grp E P (k + 1)) = gk at *
      generalize Win.grp E P (k + 1) = g at *
      generalize Win.rel E P (k + 1) = r at *
      generalize Win.dl E P (k + 1) = d at *
      generalize Win.bit E P (k + 1) = t at *
      have hs := hbv.size
      have hk1 : Hid (((k + 1 : Nat) : Int) = (k : Int) + 1) := by show _ = _; omega
      by_cases hg : 0 < g
      · rw [if_pos hg] at sg
        subst sg
        have HA := Lib.hid hna
        have HB := Lib.hid hnb
        clear hna hnb
        go_wp2_with (first
          | (go_at_call 17; (with_reducible refine (HA.out _ SA.out).mono ?_); rintro e w5 ⟨rfl, hsa5, ho5⟩; have SA5 := Lib.hid hsa5; have SB5 := Lib.hid (SB.out.keep ho5 (by omega)); clear hsa5; have s5 := ho5.size)
          | (go_at_call 17; (with_reducible refine (HB.out _ ?_).mono ?_); (focus (exact SB5.out.keepb (by repeat' (first | (with_reducible exact Below.refl _ _) | (with_reducible refine Below.alloc ?_ ?_ _) | (with_reducible refine below_drewN ?_ _) | (with_reducible refine Below.drew ?_) | (with_reducible refine Below.setCell ?_ ?_ _) | omega | (simp; omega) | (simp; done))))); rintro e w6 ⟨rfl, hsb6, ho6⟩; have SB6 := Lib.hid hsb6; clear hsb6; have s_w6 := ho6.size; (try simp only [World.size_alloc, World.size_setCell, World.size_drew, sz_drewN] at s_w6); have z_w6_0_0 : w5.heap.size < w6.heap.size := (by omega); have z_w6_0_1 : w5.heap.size < w6.heap.size + 1 := (by omega); have z_w6_0_2 : w5.heap.size < w6.heap.size + 1 + 1 := (by omega); have q_w6_0_0 : w6.cell? ⟨w5.heap.size, 0, none⟩ = some (.int .i64 (k + 1)) := (ho6.cell (p := ⟨w5.heap.size, 0, none⟩) (by first | (show w5.heap.size < _; omega) | (show w5.heap.size < _; simp; done) | (show w5.heap.size < _; simp; omega)) (by show w5.heap.size ≠ _; omega)).trans (by first | assumption | (go_simp; done)); have q_w6_0_1 : w6.cell? ⟨w5.heap.size, 1, none⟩ = some (.int .i64 r) := (ho6.cell (p := ⟨w5.heap.size, 1, none⟩) (by first | (show w5.heap.size < _; omega) | (show w5.heap.size < _; simp; done) | (show w5.heap.size < _; simp; omega)) (by show w5.heap.size ≠ _; omega)).trans (by first | assumption | (go_simp; done)); have q_w6_0_2 : w6.cell? ⟨w5.heap.size, 2, none⟩ = some (.int .i64 d) := (ho6.cell (p := ⟨w5.heap.size, 2, none⟩) (by first | (show w5.heap.size < _; omega) | (show w5.heap.size < _; simp; done) | (show w5.heap.size < _; simp; omega)) (by show w5.heap.size ≠ _; omega)).trans (by first | assumption | (go_simp; done)); have q_w6_0_3 : w6.cell? ⟨w5.heap.size, 3, none⟩ = some (.int .i64 t) := (ho6.cell (p := ⟨w5.heap.size, 3, none⟩) (by first | (show w5.heap.size < _; omega) | (show w5.heap.size < _; simp; done) | (show w5.heap.size < _; simp; omega)) (by show w5.heap.size ≠ _; omega)).trans (by first | assumption | (go_simp; done)); have q_w6_0_4 : w6.cell? ⟨w5.heap.size, 4, none⟩ = some (.int .i64 g) := (ho6.cell (p := ⟨w5.heap.size, 4, none⟩) (by first | (show w5.heap.size < _; omega) | (show w5.heap.size < _; simp; done) | (show w5.heap.size < _; simp; omega)) (by show w5.heap.size ≠ _; omega)).trans (by first | assumption | (go_simp; done))))
        go_roundw
        case rel =>
          refine ⟨k + 1, by go_num, by rw [hk1.out]; omega, by rw [hk1.out]; exact ((SA5.out.keepb (by repeat' (first | (with_reducible exact Below.refl _ _) | (with_reducible refine Below.alloc ?_ ?_ _) | (with_reducible refine below_drewN ?_ _) | (with_reducible refine Below.drew ?_) | (with_reducible refine Below.setCell ?_ ?_ _) | omega | (simp; omega) | (simp; done)))).keep ho6 (by omega)).keepb (by repeat' (first | (with_reducible exact Below.refl _ _) | (with_reducible refine Below.alloc ?_ ?_ _) | (with_reducible refine below_drewN ?_ _) | (with_reducible refine Below.drew ?_) | (with_reducible refine Below.setCell ?_ ?_ _) | omega | (simp; omega) | (simp; done))), by rw [hk1.out]; exact SB6.out.keepb (by repeat' (first | (with_reducible exact Below.refl _ _) | (with_reducible refine Below.alloc ?_ ?_ _) | (with_reducible refine below_drewN ?_ _) | (with_reducible refine Below.drew ?_) | (with_reducible refine Below.setCell ?_ ?_ _) | omega | (simp; omega) | (simp; done))), ?_⟩
          exact (bel_only (b := b) ((bel_only hbv (by omega) ga ho5).alloc (by omega) _) (by simp; omega) (by omega) ho6).alloc (by omega) _
        case measure =>
          simp [intOf]; omega
      · have hg0 : g = 0 := by omega
        subst hg0
        rw [if_neg hg] at sg
        subst sg
        have HA := Lib.hid hna
        have HB := Lib.hid hnb
        clear hna hnb hg
        go_wp2_with (first
          | (go_at_call 17; (with_reducible refine (HA.out _ SA.out).mono ?_); rintro e w5 ⟨rfl, hsa5, ho5⟩; have SA5 := Lib.hid hsa5; have SB5 := Lib.hid (SB.out.keep ho5 (by omega)); clear hsa5; have s5 := ho5.size)
          | (go_at_call 17; (with_reducible refine (HB.out _ ?_).mono ?_); (focus (exact SB5.out.keepb (by repeat' (first | (with_reducible exact Below.refl _ _) | (with_reducible refine Below.alloc ?_ ?_ _) | (with_reducible refine below_drewN ?_ _) | (with_reducible refine Below.drew ?_) | (with_reducible refine Below.setCell ?_ ?_ _) | omega | (simp; omega) | (simp; done))))); rintro e w6 ⟨rfl, hsb6, ho6⟩; have SB6 := Lib.hid hsb6; clear hsb6; have s_w6 := ho6.size; (try simp only [World.size_alloc, World.size_setCell, World.size_drew, sz_drewN] at s_w6); have z_w6_0_0 : w5.heap.size < w6.heap.size := (by omega); have z_w6_0_1 : w5.heap.size < w6.heap.size + 1 := (by omega); have z_w6_0_2 : w5.heap.size < w6.heap.size + 1 + 1 := (by omega); have q_w6_0_0 : w6.cell? ⟨w5.heap.size, 0, none⟩ = some (.int .i64 (k + 1)) := (ho6.cell (p := ⟨w5.heap.size, 0, none⟩) (by first | (show w5.heap.size < _; omega) | (show w5.heap.size < _; simp; done) | (show w5.heap.size < _; simp; omega)) (by show w5.heap.size ≠ _; omega)).trans (by first | assumption | (go_simp; done)); have q_w6_0_1 : w6.cell? ⟨w5.heap.size, 1, none⟩ = some (.int .i64 r) := (ho6.cell (p := ⟨w5.heap.size, 1, none⟩) (by first | (show w5.heap.size < _; omega) | (show w5.heap.size < _; simp; done) | (show w5.heap.size < _; simp; omega)) (by show w5.heap.size ≠ _; omega)).trans (by first | assumption | (go_simp; done)); have q_w6_0_2 : w6.cell? ⟨w5.heap.size, 2, none⟩ = some (.int .i64 d) := (ho6.cell (p := ⟨w5.heap.size, 2, none⟩) (by first | (show w5.heap.size < _; omega) | (show w5.heap.size < _; simp; done) | (show w5.heap.size < _; simp; omega)) (by show w5.heap.size ≠ _; omega)).trans (by first | assumption | (go_simp; done)); have q_w6_0_3 : w6.cell? ⟨w5.heap.size, 3, none⟩ = some (.int .i64 t) := (ho6.cell (p := ⟨w5.heap.size, 3, none⟩) (by first | (show w5.heap.size < _; omega) | (show w5.heap.size < _; simp; done) | (show w5.heap.size < _; simp; omega)) (by show w5.heap.size ≠ _; omega)).trans (by first | assumption | (go_simp; done)); have q_w6_0_4 : w6.cell? ⟨w5.heap.size, 4, none⟩ = some (.int .i64 0) := (ho6.cell (p := ⟨w5.heap.size, 4, none⟩) (by first | (show w5.heap.size < _; omega) | (show w5.heap.size < _; simp; done) | (show w5.heap.size < _; simp; omega)) (by show w5.heap.size ≠ _; omega)).trans (by first | assumption | (go_simp; done))))
        go_roundw
        case rel =>
          refine ⟨k + 1, by go_num, by rw [hk1.out]; omega, by rw [hk1.out]; exact ((SA5.out.keepb (by repeat' (first | (with_reducible exact Below.refl _ _) | (with_reducible refine Below.alloc ?_ ?_ _) | (with_reducible refine below_drewN ?_ _) | (with_reducible refine Below.drew ?_) | (with_reducible refine Below.setCell ?_ ?_ _) | omega | (simp; omega) | (simp; done)))).keep ho6 (by omega)).keepb (by repeat' (first | (with_reducible exact Below.refl _ _) | (with_reducible refine Below.alloc ?_ ?_ _) | (with_reducible refine below_drewN ?_ _) | (with_reducible refine Below.drew ?_) | (with_reducible refine Below.setCell ?_ ?_ _) | omega | (simp; omega) | (simp; done))), by rw [hk1.out]; exact SB6.out.keepb (by repeat' (first | (with_reducible exact Below.refl _ _) | (with_reducible refine Below.alloc ?_ ?_ _) | (with_reducible refine below_drewN ?_ _) | (with_reducible refine Below.drew ?_) | (with_reducible refine Below.setCell ?_ ?_ _) | omega | (simp; omega) | (simp; done))), ?_⟩
          exact (bel_only (b := b) ((bel_only hbv (by omega) ga ho5).alloc (by omega) _) (by simp; omega) (by omega) ho6).alloc (by omega) _
        case measure =>
          simp [intOf]; omega
    · go_wp2
      go_ret
      exact ⟨rfl, hbv⟩
end Go.Proofs.Ytamonmhicjejoaa
