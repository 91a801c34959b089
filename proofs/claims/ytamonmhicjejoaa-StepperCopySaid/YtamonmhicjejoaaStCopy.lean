/- The walk of the law StepperCopy. Written by gencopy.py. -/
import Derived.Test.YtamonmhicjejoaaSto
namespace Go.Proofs.Ytamonmhicjejoaa
open Go.RowKit
set_option linter.unusedVariables false
set_option linter.unusedSimpArgs false

theorem held_sn {W x : World} {b : Nat} {E P off n : Int} (h : Below W.heap.size W x ∧ (∀ b o, b < W.heap.size → x.cell? ⟨b, o, none⟩ = W.cell? ⟨b, o, none⟩) ∧ (∀ b o, b < W.heap.size → x.frozen? ⟨b, o, none⟩ = W.frozen? ⟨b, o, none⟩)) (hs : Sn W b E P off n) : Sn x b E P off n := hs.keepb h.1
theorem held_cell {W x : World} {b o : Nat} {v : Option Value} (h : Below W.heap.size W x ∧ (∀ b o, b < W.heap.size → x.cell? ⟨b, o, none⟩ = W.cell? ⟨b, o, none⟩) ∧ (∀ b o, b < W.heap.size → x.frozen? ⟨b, o, none⟩ = W.frozen? ⟨b, o, none⟩)) (hb : b < W.heap.size) (hv : W.cell? ⟨b, o, none⟩ = v) : x.cell? ⟨b, o, none⟩ = v := (h.2.1 b o hb).trans hv

set_option maxRecDepth 8000 in
set_option maxHeartbeats 12800000 in
theorem walk_StepperCopy (a00 a01 a10 a11 a12 a2 : Int) (w : World) (_f00 : (Lit.int .i64 a00).wf = true) (_f01 : (Lit.int .i64 a01).wf = true) (_f10 : (Lit.int .i64 a10).wf = true) (_f11 : (Lit.int .i64 a11).wf = true) (_f12 : (Lit.int .i64 a12).wf = true) (_f2 : (Lit.int .i64 a2).wf = true) :
    Calls Try.prog 10 #[.agg #[.int .i64 a00, .int .i64 a01], .agg #[.int .i64 a10, .int .i64 a11, .int .i64 a12], .int .i64 a2] w fun e w' => e = .returned (.bool true) ∧ Below w.heap.size w w' := by
  obtain ⟨p1, p2⟩ := pOf_bd a01
  obtain ⟨e1, e2⟩ := eOf_bd a00 (pOf a01) p1
  have hm := fun w => made5 a00 a01 w
  generalize eOf a00 (pOf a01) = E at *
  generalize pOf a01 = P at *
  have HM := Lib.hid hm
  clear hm
  have m1 : 0 ≤ a10.tmod 101 + 101 := by have := Int.lt_tmod_of_pos a10 (b := 101) (by omega); omega
  have m3 : 0 ≤ a10.tmod 101 % 101 := Int.emod_nonneg _ (by omega)
  have m4 : a10.tmod 101 % 101 < 101 := Int.emod_lt_of_pos _ (by omega)
  have m2 : a10.tmod 101 + 101 ≤ 202 := by have := Int.tmod_lt_of_pos a10 (b := 101) (by omega); omega
  have i1 : 0 ≤ a11.tmod 51 + 51 := by have := Int.lt_tmod_of_pos a11 (b := 51) (by omega); omega
  have i3 : 0 ≤ a11.tmod 51 % 51 := Int.emod_nonneg _ (by omega)
  have i4 : a11.tmod 51 % 51 < 51 := Int.emod_lt_of_pos _ (by omega)
  have i2 : a11.tmod 51 + 51 ≤ 102 := by have := Int.tmod_lt_of_pos a11 (b := 51) (by omega); omega
  obtain ⟨so0, so1⟩ := shOff_bd 0 a2 (by omega) (by omega)
  go_enter Try.func10, Try.ntmps10
  go_upto_region 6 with (first
    | (go_at_call 14; (with_reducible refine (awake05 _).mono ?_); rintro e w1 ⟨rfl, hb1⟩; have s_w1 := hb1.size; (try simp only [World.size_alloc, World.size_setCell, World.size_drew, sz_drewN] at s_w1); have z_w1_0_0 : w.heap.size < w1.heap.size := (by omega); have z_w1_0_1 : w.heap.size < w1.heap.size + 1 := (by omega); have z_w1_0_2 : w.heap.size < w1.heap.size + 1 + 1 := (by omega); have q_w1_0_0 : w1.cell? ⟨w.heap.size, 0, none⟩ = some (.int .i64 a00) := (hb1.cell (p := ⟨w.heap.size, 0, none⟩) (by first | (show w.heap.size < _; omega) | (show w.heap.size < _; simp; done) | (show w.heap.size < _; simp; omega))).trans (by first | assumption | (go_simp; done)); have q_w1_0_1 : w1.cell? ⟨w.heap.size, 1, none⟩ = some (.int .i64 a01) := (hb1.cell (p := ⟨w.heap.size, 1, none⟩) (by first | (show w.heap.size < _; omega) | (show w.heap.size < _; simp; done) | (show w.heap.size < _; simp; omega))).trans (by first | assumption | (go_simp; done)); have z_w1_1_0 : w.heap.size + 1 < w1.heap.size := (by omega); have z_w1_1_1 : w.heap.size + 1 < w1.heap.size + 1 := (by omega); have z_w1_1_2 : w.heap.size + 1 < w1.heap.size + 1 + 1 := (by omega); have q_w1_1_0 : w1.cell? ⟨w.heap.size + 1, 0, none⟩ = some (.int .i64 a10) := (hb1.cell (p := ⟨w.heap.size + 1, 0, none⟩) (by first | (show w.heap.size + 1 < _; omega) | (show w.heap.size + 1 < _; simp; done) | (show w.heap.size + 1 < _; simp; omega))).trans (by first | assumption | (go_simp; done)); have q_w1_1_1 : w1.cell? ⟨w.heap.size + 1, 1, none⟩ = some (.int .i64 a11) := (hb1.cell (p := ⟨w.heap.size + 1, 1, none⟩) (by first | (show w.heap.size + 1 < _; omega) | (show w.heap.size + 1 < _; simp; done) | (show w.heap.size + 1 < _; simp; omega))).trans (by first | assumption | (go_simp; done)))
    | (go_at_call 15; (with_reducible refine (HM.out _).mono ?_); rintro e w2 ⟨rfl, hb2⟩; have s_w2 := hb2.size; (try simp only [World.size_alloc, World.size_setCell, World.size_drew, sz_drewN] at s_w2); have z_w2_0_0 : w.heap.size + 1 < w2.heap.size := (by omega); have z_w2_0_1 : w.heap.size + 1 < w2.heap.size + 1 := (by omega); have z_w2_0_2 : w.heap.size + 1 < w2.heap.size + 1 + 1 := (by omega); have q_w2_0_0 : w2.cell? ⟨w.heap.size + 1, 0, none⟩ = some (.int .i64 a10) := (hb2.cell (p := ⟨w.heap.size + 1, 0, none⟩) (by first | (show w.heap.size + 1 < _; omega) | (show w.heap.size + 1 < _; simp; done) | (show w.heap.size + 1 < _; simp; omega))).trans (by first | assumption | (go_simp; done)); have q_w2_0_1 : w2.cell? ⟨w.heap.size + 1, 1, none⟩ = some (.int .i64 a11) := (hb2.cell (p := ⟨w.heap.size + 1, 1, none⟩) (by first | (show w.heap.size + 1 < _; omega) | (show w.heap.size + 1 < _; simp; done) | (show w.heap.size + 1 < _; simp; omega))).trans (by first | assumption | (go_simp; done)))
    | (go_at_call 16; (with_reducible refine (new_yes E P 0 _ e1 e2 p2 (by omega) (by omega)).mono ?_); rintro e w3 ⟨⟨s, gs, rfl, hss⟩, hb3⟩; have s_w3 := hb3.size; (try simp only [World.size_alloc, World.size_setCell, World.size_drew, sz_drewN] at s_w3); have z_w3_0_0 : w.heap.size + 1 < w3.heap.size := (by omega); have z_w3_0_1 : w.heap.size + 1 < w3.heap.size + 1 := (by omega); have z_w3_0_2 : w.heap.size + 1 < w3.heap.size + 1 + 1 := (by omega); have q_w3_0_0 : w3.cell? ⟨w.heap.size + 1, 0, none⟩ = some (.int .i64 a10) := (hb3.cell (p := ⟨w.heap.size + 1, 0, none⟩) (by first | (show w.heap.size + 1 < _; omega) | (show w.heap.size + 1 < _; simp; done) | (show w.heap.size + 1 < _; simp; omega))).trans (by first | assumption | (go_simp; done)); have q_w3_0_1 : w3.cell? ⟨w.heap.size + 1, 1, none⟩ = some (.int .i64 a11) := (hb3.cell (p := ⟨w.heap.size + 1, 1, none⟩) (by first | (show w.heap.size + 1 < _; omega) | (show w.heap.size + 1 < _; simp; done) | (show w.heap.size + 1 < _; simp; omega))).trans (by first | assumption | (go_simp; done))))
  have ss := st_size hss
  refine gen_world (F := fun V => Sn V s E P 0 (0 + 1) ∧ V.cell? ⟨w.heap.size + 1, 0, none⟩ = some (.int .i64 a10) ∧ V.cell? ⟨w.heap.size + 1, 1, none⟩ = some (.int .i64 a11) ∧ w.heap.size + 1 < s ∧ Below w.heap.size w V) ⟨(by show Sn _ s E P 0 1; exact hss), q_w3_0_0, q_w3_0_1, by simp at gs; omega, (by have s0_ := hb1.size; have s1_ := hb2.size; have s2_ := hb3.size; (try simp only [World.size_alloc, World.size_setCell, World.size_drew, sz_drewN] at s0_ s1_ s2_); repeat' (first | (with_reducible exact Below.refl _ _) | (with_reducible refine bel_call ?_ ?_ hb3) | (with_reducible refine bel_call ?_ ?_ hb2) | (with_reducible refine bel_call ?_ ?_ hb1) | (with_reducible refine Below.alloc ?_ ?_ _) | (with_reducible refine below_drewN ?_ _) | (with_reducible refine Below.drew ?_) | (with_reducible refine Below.setCell ?_ ?_ _) | omega | (simp; omega) | (simp; done)))⟩ ?_
  clear hb1 hb2 hb3 s_w1 s_w2 s_w3 gs hss HM ss q_w3_0_0 q_w3_0_1 q_w2_0_0 q_w2_0_1 q_w1_0_0 q_w1_0_1 q_w1_1_0 q_w1_1_1
  rintro V ⟨hss, nc0, nc1, gs, hbv⟩
  have SS := Lib.hid hss
  clear hss
  go_wp2
  go_loopw [10] (fun i wr => ∃ k : Nat, i = .int .i64 k ∧ (k : Int) ≤ a10.tmod 101 % 101 ∧ Sn wr s E P 0 (k + 1) ∧ wr.cell? ⟨w.heap.size + 1, 0, none⟩ = some (.int .i64 a10) ∧ wr.cell? ⟨w.heap.size + 1, 1, none⟩ = some (.int .i64 a11) ∧ Below w.heap.size w wr) (fun i _ => (a10.tmod 101 % 101 - intOf i).toNat)
  case atStart => exact ⟨0, rfl, by simp; omega, SS.out, nc0, nc1, hbv⟩
  case round =>
    clear SS hbv nc0 nc1
    obtain ⟨k, rfl, hk, hss, nc0, nc1, hbv⟩ := hrel
    have SS := Lib.hid hss
    have ssz := st_size hss
    have hs := hbv.size
    clear hss
    by_cases hlt : (k : Int) < a10.tmod 101 % 101
    · have hk1 : Hid (((k + 1 : Nat) : Int) = (k : Int) + 1) := by show _ = _; omega
      go_wp2_with (go_at_call 17; (with_reducible refine (next_any s E P 0 (k + 1) _ SS.out e1 e2 p2 (by omega) (by omega) (by omega) (by omega)).mono ?_); rintro e w5 ⟨rfl, hss5, ho5⟩; have SS5 := Lib.hid hss5; clear hss5)
      go_roundw
      case rel => exact ⟨k + 1, by go_num, by rw [hk1.out]; omega, by rw [hk1.out]; exact SS5.out, (ho5.cell (p := ⟨w.heap.size + 1, 0, none⟩) (by show w.heap.size + 1 < _; omega) (by show w.heap.size + 1 ≠ _; omega)).trans nc0, (ho5.cell (p := ⟨w.heap.size + 1, 1, none⟩) (by show w.heap.size + 1 < _; omega) (by show w.heap.size + 1 ≠ _; omega)).trans nc1, bel_only hbv hs (by omega) ho5⟩
      case measure => simp [intOf]; omega
    · obtain ⟨n0, hn0⟩ : ∃ n0 : Int, (k : Int) + 1 = n0 := ⟨_, rfl⟩
      rw [hn0] at SS
      have b1 : 1 ≤ n0 := by omega
      have b2 : n0 ≤ 200 := by omega
      obtain ⟨w9, rfl⟩ : ∃ x, x = wr := ⟨wr, rfl⟩
      obtain ⟨R0, hR0⟩ : ∃ x, Win.rel E P n0 + 0 = x := ⟨_, rfl⟩
      obtain ⟨D0, hD0⟩ : ∃ x, Win.dl E P n0 + 0 = x := ⟨_, rfl⟩
      obtain ⟨B0, hB0⟩ : ∃ x, Win.bit E P n0 = x := ⟨_, rfl⟩
      obtain ⟨G0, hG0⟩ : ∃ x, shG 0 (Win.grp E P n0) = x := ⟨_, rfl⟩
      have hpk : ∀ b w, Sn w b E P 0 n0 → Calls Try.prog 19 #[.pointer (some ⟨b, 0, none⟩)] w fun e w' => e = .returned (.agg #[.int .i64 n0, .int .i64 R0, .int .i64 D0, .int .i64 B0, .int .i64 G0]) ∧ Below w.heap.size w w' := by
        intro b w h
        have := peek_any b E P 0 n0 w h e1 e2 p2 b1 (by omega) (by omega) (by omega)
        rwa [hR0, hD0, hB0, hG0] at this
      have HPK := Lib.hid hpk
      clear hpk hR0 hD0 hB0 hG0
      go_upto_region 14 with (first
        | (go_at_call 31; (with_reducible refine (copy_sn s E P 0 n0 _ SS.out).mono ?_); rintro e w5 ⟨⟨c, gc, rfl, hsc⟩, hb5⟩; have SC := Lib.hid hsc; have SS5 := Lib.hid (SS.out.keepb hb5); have s5 := hb5.size; clear hsc)
        | (go_at_call 19; (with_reducible refine (HPK.out s _ SS5.out).mono ?_); rintro e w6 ⟨rfl, hb6⟩; have SC6 := Lib.hid (SC.out.keepb hb6); have SS6 := Lib.hid (SS5.out.keepb hb6); have s6 := hb6.size; have csz := st_size SC.out))
      refine gen_world (F := fun V => Sn V s E P 0 n0 ∧ Sn V c E P 0 (n0 + 0) ∧ V.cell? ⟨w6.heap.size, 0, none⟩ = some (.int .i64 (n0)) ∧ V.cell? ⟨w6.heap.size, 1, none⟩ = some (.int .i64 (R0)) ∧ V.cell? ⟨w6.heap.size, 2, none⟩ = some (.int .i64 (D0)) ∧ V.cell? ⟨w6.heap.size, 3, none⟩ = some (.int .i64 (B0)) ∧ V.cell? ⟨w6.heap.size, 4, none⟩ = some (.int .i64 (G0)) ∧ (∀ o, V.frozen? ⟨w6.heap.size, o, none⟩ = false) ∧ w6.heap.size < V.heap.size ∧ V.cell? ⟨w.heap.size + 1, 0, none⟩ = some (.int .i64 a10) ∧ V.cell? ⟨w.heap.size + 1, 1, none⟩ = some (.int .i64 a11) ∧ Below w.heap.size w V) ⟨SS6.out.keepb (by repeat' (first | (with_reducible exact Below.refl _ _) | (with_reducible refine Below.alloc ?_ ?_ _) | (with_reducible refine below_drewN ?_ _) | (with_reducible refine Below.drew ?_) | (with_reducible refine Below.setCell ?_ ?_ _) | omega | (simp; omega) | (simp; done))), by rw [Int.add_zero]; exact SC6.out.keepb (by repeat' (first | (with_reducible exact Below.refl _ _) | (with_reducible refine Below.alloc ?_ ?_ _) | (with_reducible refine below_drewN ?_ _) | (with_reducible refine Below.drew ?_) | (with_reducible refine Below.setCell ?_ ?_ _) | omega | (simp; omega) | (simp; done))), ?_, ?_, ?_, ?_, ?_, ?_, ?_, ?_, ?_, ?_⟩ ?_
      iterate 5 (focus (go_simp; done))
      · intro o; go_simp
      · simp
      · refine Eq.trans ?_ ((hb6.cell (p := ⟨w.heap.size + 1, 0, none⟩) (by show w.heap.size + 1 < _; omega)).trans ((hb5.cell (p := ⟨w.heap.size + 1, 0, none⟩) (by show w.heap.size + 1 < _; omega)).trans nc0))
        exact World.cell?_alloc_past _ _ _ (by omega)
      · refine Eq.trans ?_ ((hb6.cell (p := ⟨w.heap.size + 1, 1, none⟩) (by show w.heap.size + 1 < _; omega)).trans ((hb5.cell (p := ⟨w.heap.size + 1, 1, none⟩) (by show w.heap.size + 1 < _; omega)).trans nc1))
        exact World.cell?_alloc_past _ _ _ (by omega)
      · exact (bel_call (bel_call hbv hs hb5) (by omega) hb6).alloc (by omega) _
      have hHs : s < w6.heap.size := by omega
      have hHc : c < w6.heap.size := by omega
      generalize w6.heap.size = H at *
      have hsc0 : s < c := by omega
      clear hb5 hb6 s5 s6 SS SC SS5 SC6 SS6 nc0 nc1 hbv csz hs hn0 hk hlt gc ssz
      rintro V2 ⟨hss, hsc, l0, l1, l2, l3, l4, lf, ls, nc0, nc1, hbv⟩
      have SS := Lib.hid hss
      have SC := Lib.hid hsc
      clear hss hsc
      go_wp2
      go_loopw [13] (fun i wr => ∃ k : Nat, i = .int .i64 k ∧ (k : Int) ≤ a11.tmod 51 % 51 ∧ Sn wr s E P 0 n0 ∧ Sn wr c E P 0 (n0 + k) ∧ wr.cell? ⟨H, 0, none⟩ = some (.int .i64 (n0)) ∧ wr.cell? ⟨H, 1, none⟩ = some (.int .i64 (R0)) ∧ wr.cell? ⟨H, 2, none⟩ = some (.int .i64 (D0)) ∧ wr.cell? ⟨H, 3, none⟩ = some (.int .i64 (B0)) ∧ wr.cell? ⟨H, 4, none⟩ = some (.int .i64 (G0)) ∧ (∀ o, wr.frozen? ⟨H, o, none⟩ = false) ∧ H < wr.heap.size ∧ wr.cell? ⟨w.heap.size + 1, 0, none⟩ = some (.int .i64 a10) ∧ wr.cell? ⟨w.heap.size + 1, 1, none⟩ = some (.int .i64 a11) ∧ Below w.heap.size w wr) (fun i _ => (a11.tmod 51 % 51 - intOf i).toNat)
      case atStart => exact ⟨0, rfl, by simp; omega, SS.out, SC.out, l0, l1, l2, l3, l4, lf, ls, nc0, nc1, hbv⟩
      case round =>
        clear SS SC hbv nc0 nc1 l0 l1 l2 l3 l4 lf ls
        obtain ⟨k, rfl, hk, hss, hsc, l0, l1, l2, l3, l4, lf, ls, nc0, nc1, hbv⟩ := hrel
        have SS := Lib.hid hss
        have SC := Lib.hid hsc
        have csz := st_size hsc
        have hs := hbv.size
        clear hss hsc
        by_cases hlt : (k : Int) < a11.tmod 51 % 51
        · have hk1 : Hid (n0 + ((k + 1 : Nat) : Int) = n0 + k + 1) := by show _ = _; omega
          have hk2 : Hid (((k + 1 : Nat) : Int) = (k : Int) + 1) := by show _ = _; omega
          go_wp2_with (go_at_call 17; (with_reducible refine (next_any c E P 0 (n0 + k) _ SC.out e1 e2 p2 (by omega) (by omega) (by omega) (by omega)).mono ?_); rintro e w5 ⟨rfl, hsc5, ho5⟩; have SC5 := Lib.hid hsc5; clear hsc5)
          go_roundw
          case rel => exact ⟨k + 1, by go_num, by rw [hk2.out]; omega, SS.out.keep ho5 (by omega), by rw [hk1.out]; exact SC5.out, (ho5.cell (p := ⟨H, 0, none⟩) ls (by show H ≠ c; omega)).trans l0, (ho5.cell (p := ⟨H, 1, none⟩) ls (by show H ≠ c; omega)).trans l1, (ho5.cell (p := ⟨H, 2, none⟩) ls (by show H ≠ c; omega)).trans l2, (ho5.cell (p := ⟨H, 3, none⟩) ls (by show H ≠ c; omega)).trans l3, (ho5.cell (p := ⟨H, 4, none⟩) ls (by show H ≠ c; omega)).trans l4, fun o => (ho5.frozen (p := ⟨H, o, none⟩) ls (by show H ≠ c; omega)).trans (lf o), Nat.lt_of_lt_of_le ls ho5.size, (ho5.cell (p := ⟨w.heap.size + 1, 0, none⟩) (by show w.heap.size + 1 < _; omega) (by show w.heap.size + 1 ≠ _; omega)).trans nc0, (ho5.cell (p := ⟨w.heap.size + 1, 1, none⟩) (by show w.heap.size + 1 < _; omega) (by show w.heap.size + 1 ≠ _; omega)).trans nc1, bel_only hbv hs (by omega) ho5⟩
          case measure => simp [intOf]; omega
        · obtain ⟨n1, hn1⟩ : ∃ n1 : Int, n0 + (k : Int) = n1 := ⟨_, rfl⟩
          rw [hn1] at SC
          have hn2 : n1 = n0 + a11.tmod 51 % 51 := by omega
          have HN2 := Lib.hid hn2
          have b3 : 1 ≤ n1 := by omega
          have b4 : n1 ≤ 300 := by omega
          clear hn1 hn2
          obtain ⟨w9, rfl⟩ : ∃ x, x = wr := ⟨wr, rfl⟩
          go_upto_region 19 with (go_at_call 20; (with_reducible refine (shift_sn c E P 0 n1 a2 _ SC.out (by omega) (by omega) (by omega)).mono ?_); rintro e w5 ⟨rfl, hsc5, ho5⟩)
          refine gen_world (F := fun V => Sn V s E P 0 n0 ∧ Sn V c E P (shOff 0 a2) n1 ∧ V.cell? ⟨H, 0, none⟩ = some (.int .i64 (n0)) ∧ V.cell? ⟨H, 1, none⟩ = some (.int .i64 (R0)) ∧ V.cell? ⟨H, 2, none⟩ = some (.int .i64 (D0)) ∧ V.cell? ⟨H, 3, none⟩ = some (.int .i64 (B0)) ∧ V.cell? ⟨H, 4, none⟩ = some (.int .i64 (G0)) ∧ (∀ o, V.frozen? ⟨H, o, none⟩ = false) ∧ H < V.heap.size ∧ V.cell? ⟨w.heap.size + 1, 0, none⟩ = some (.int .i64 a10) ∧ V.cell? ⟨w.heap.size + 1, 1, none⟩ = some (.int .i64 a11) ∧ Below w.heap.size w V) ⟨SS.out.keep ho5 (by omega), hsc5, (ho5.cell (p := ⟨H, 0, none⟩) ls (by show H ≠ c; omega)).trans l0, (ho5.cell (p := ⟨H, 1, none⟩) ls (by show H ≠ c; omega)).trans l1, (ho5.cell (p := ⟨H, 2, none⟩) ls (by show H ≠ c; omega)).trans l2, (ho5.cell (p := ⟨H, 3, none⟩) ls (by show H ≠ c; omega)).trans l3, (ho5.cell (p := ⟨H, 4, none⟩) ls (by show H ≠ c; omega)).trans l4, fun o => (ho5.frozen (p := ⟨H, o, none⟩) ls (by show H ≠ c; omega)).trans (lf o), Nat.lt_of_lt_of_le ls ho5.size, (ho5.cell (p := ⟨w.heap.size + 1, 0, none⟩) (by show w.heap.size + 1 < _; omega) (by show w.heap.size + 1 ≠ _; omega)).trans nc0, (ho5.cell (p := ⟨w.heap.size + 1, 1, none⟩) (by show w.heap.size + 1 < _; omega) (by show w.heap.size + 1 ≠ _; omega)).trans nc1, bel_only hbv hs (by omega) ho5⟩ ?_
          clear SS SC hbv nc0 nc1 l0 l1 l2 l3 l4 lf ls ho5 hsc5 hs csz hk hlt
          rintro W ⟨hss, hsc, l0, l1, l2, l3, l4, lf, ls, nc0, nc1, hbv⟩
          have SS := Lib.hid hss
          have SC := Lib.hid hsc
          have csz := st_size hsc
          have hs := hbv.size
          clear hss hsc
          go_region_held3 (fun x => Below (W).heap.size (W) x ∧ (∀ b o, b < (W).heap.size → x.cell? ⟨b, o, none⟩ = (W).cell? ⟨b, o, none⟩) ∧ (∀ b o, b < (W).heap.size → x.frozen? ⟨b, o, none⟩ = (W).frozen? ⟨b, o, none⟩)) ((first | (simp only [mark_set]; refine held_of ?_; repeat' (first | (with_reducible exact (by with_reducible assumption : Below _ _ _ ∧ _).1) | (with_reducible refine below_setc ?_ ?_) | omega | (simp; done) | (simp; omega))) | (with_reducible exact held_of ((by with_reducible assumption : Below _ _ _ ∧ _).1.trans (hb.mono (by with_reducible assumption : Below _ _ _ ∧ _).1.size))) | (with_reducible exact held_of (Below.drew (Below.refl _ _))) | (with_reducible exact held_of ((by with_reducible assumption : Below _ _ _ ∧ _).1.alloc (by with_reducible assumption : Below _ _ _ ∧ _).1.size _)) | (with_reducible exact held_of (below_realloc hz (by with_reducible assumption : Below _ _ (World.alloc _ _) ∧ _).1)))) (first
            | (go_at_call 19; (with_reducible refine (HPK.out s _ ?_).mono ?_); (focus (refine held_sn (W := W) ?_ SS.out; with_reducible assumption)); rintro e w1 ⟨rfl, hb⟩))
          obtain ⟨hBx, hcx, hfx⟩ := (by with_reducible assumption : Below W.heap.size W _ ∧ _ ∧ _)
          have sx := hBx.size
          go_upto_region 22 with (go_at_call 31; (with_reducible refine (copy_sn s E P 0 n0 _ (SS.out.keepb hBx)).mono ?_); rintro e w7 ⟨⟨d, gd, rfl, hsd⟩, hb7⟩)
          have s7 := hb7.size
          have dsz := st_size hsd
          have hbx : Below w.heap.size w w7 := bel_call (bel_call hbv hs hBx) (by omega) hb7
          refine gen_world (F := fun V => Sn V s E P 0 (n0 + 0) ∧ Sn V c E P (shOff 0 a2) n1 ∧ Sn V d E P 0 n0 ∧ V.cell? ⟨H, 0, none⟩ = some (.int .i64 (n0)) ∧ V.cell? ⟨H, 1, none⟩ = some (.int .i64 (R0)) ∧ V.cell? ⟨H, 2, none⟩ = some (.int .i64 (D0)) ∧ V.cell? ⟨H, 3, none⟩ = some (.int .i64 (B0)) ∧ V.cell? ⟨H, 4, none⟩ = some (.int .i64 (G0)) ∧ (∀ o, V.frozen? ⟨H, o, none⟩ = false) ∧ H < V.heap.size ∧ V.cell? ⟨w.heap.size + 1, 0, none⟩ = some (.int .i64 a10) ∧ V.cell? ⟨w.heap.size + 1, 1, none⟩ = some (.int .i64 a11) ∧ Below w.heap.size w V) ⟨by rw [Int.add_zero]; exact (SS.out.keepb hBx).keepb hb7, (SC.out.keepb hBx).keepb hb7, hsd, (hb7.cell (p := ⟨H, 0, none⟩) (by show H < _; omega)).trans ((hcx H 0 ls).trans l0), (hb7.cell (p := ⟨H, 1, none⟩) (by show H < _; omega)).trans ((hcx H 1 ls).trans l1), (hb7.cell (p := ⟨H, 2, none⟩) (by show H < _; omega)).trans ((hcx H 2 ls).trans l2), (hb7.cell (p := ⟨H, 3, none⟩) (by show H < _; omega)).trans ((hcx H 3 ls).trans l3), (hb7.cell (p := ⟨H, 4, none⟩) (by show H < _; omega)).trans ((hcx H 4 ls).trans l4), fun o => (hb7.frozen (p := ⟨H, o, none⟩) (by show H < _; omega)).trans ((hfx H o ls).trans (lf o)), by omega, (hb7.cell (p := ⟨w.heap.size + 1, 0, none⟩) (by show w.heap.size + 1 < _; omega)).trans ((hcx _ 0 (by omega)).trans nc0), (hb7.cell (p := ⟨w.heap.size + 1, 1, none⟩) (by show w.heap.size + 1 < _; omega)).trans ((hcx _ 1 (by omega)).trans nc1), hbx⟩ ?_
          have hcd : c < d := by omega
          have hHd : H < d := by omega
          clear hbx hBx hcx hfx hb7 sx s7 dsz hsd gd SS SC hbv nc0 nc1 l0 l1 l2 l3 l4 lf ls hs csz
          rintro V3 ⟨hss, hsc, hsd, l0, l1, l2, l3, l4, lf, ls, nc0, nc1, hbv⟩
          have SS := Lib.hid hss
          have SC := Lib.hid hsc
          have SD := Lib.hid hsd
          clear hss hsc hsd
          go_wp2
          go_loopw [15] (fun i wr => ∃ k : Nat, i = .int .i64 k ∧ (k : Int) ≤ a11.tmod 51 % 51 ∧ Sn wr s E P 0 (n0 + k) ∧ Sn wr c E P (shOff 0 a2) n1 ∧ Sn wr d E P 0 n0 ∧ wr.cell? ⟨H, 0, none⟩ = some (.int .i64 (n0)) ∧ wr.cell? ⟨H, 1, none⟩ = some (.int .i64 (R0)) ∧ wr.cell? ⟨H, 2, none⟩ = some (.int .i64 (D0)) ∧ wr.cell? ⟨H, 3, none⟩ = some (.int .i64 (B0)) ∧ wr.cell? ⟨H, 4, none⟩ = some (.int .i64 (G0)) ∧ (∀ o, wr.frozen? ⟨H, o, none⟩ = false) ∧ H < wr.heap.size ∧ wr.cell? ⟨w.heap.size + 1, 0, none⟩ = some (.int .i64 a10) ∧ wr.cell? ⟨w.heap.size + 1, 1, none⟩ = some (.int .i64 a11) ∧ Below w.heap.size w wr) (fun i _ => (a11.tmod 51 % 51 - intOf i).toNat)
          case atStart => exact ⟨0, rfl, by simp; omega, SS.out, SC.out, SD.out, l0, l1, l2, l3, l4, lf, ls, nc0, nc1, hbv⟩
          case round =>
            clear SS SC SD hbv nc0 nc1 l0 l1 l2 l3 l4 lf ls
            obtain ⟨k, rfl, hk, hss, hsc, hsd, l0, l1, l2, l3, l4, lf, ls, nc0, nc1, hbv⟩ := hrel
            have SS := Lib.hid hss
            have SC := Lib.hid hsc
            have SD := Lib.hid hsd
            have dsz := st_size hsd
            have hs := hbv.size
            clear hss hsc hsd
            by_cases hlt : (k : Int) < a11.tmod 51 % 51
            · have hk1 : Hid (n0 + ((k + 1 : Nat) : Int) = n0 + k + 1) := by show _ = _; omega
              have hk2 : Hid (((k + 1 : Nat) : Int) = (k : Int) + 1) := by show _ = _; omega
              go_wp2_with (go_at_call 17; (with_reducible refine (next_any s E P 0 (n0 + k) _ SS.out e1 e2 p2 (by omega) (by omega) (by omega) (by omega)).mono ?_); rintro e w5 ⟨rfl, hss5, ho5⟩; have SS5 := Lib.hid hss5; clear hss5)
              go_roundw
              case rel => exact ⟨k + 1, by go_num, by rw [hk2.out]; omega, by rw [hk1.out]; exact SS5.out, SC.out.keep ho5 (by omega), SD.out.keep ho5 (by omega), (ho5.cell (p := ⟨H, 0, none⟩) ls (by show H ≠ s; omega)).trans l0, (ho5.cell (p := ⟨H, 1, none⟩) ls (by show H ≠ s; omega)).trans l1, (ho5.cell (p := ⟨H, 2, none⟩) ls (by show H ≠ s; omega)).trans l2, (ho5.cell (p := ⟨H, 3, none⟩) ls (by show H ≠ s; omega)).trans l3, (ho5.cell (p := ⟨H, 4, none⟩) ls (by show H ≠ s; omega)).trans l4, fun o => (ho5.frozen (p := ⟨H, o, none⟩) ls (by show H ≠ s; omega)).trans (lf o), Nat.lt_of_lt_of_le ls ho5.size, (ho5.cell (p := ⟨w.heap.size + 1, 0, none⟩) (by show w.heap.size + 1 < _; omega) (by show w.heap.size + 1 ≠ _; omega)).trans nc0, (ho5.cell (p := ⟨w.heap.size + 1, 1, none⟩) (by show w.heap.size + 1 < _; omega) (by show w.heap.size + 1 ≠ _; omega)).trans nc1, bel_only hbv hs (by omega) ho5⟩
              case measure => simp [intOf]; omega
            · have hn3 : n0 + (k : Int) = n1 := by rw [HN2.out]; omega
              rw [hn3] at SS
              clear hn3
              obtain ⟨R1, hR1⟩ : ∃ x, Win.rel E P n1 + shOff 0 a2 = x := ⟨_, rfl⟩
              obtain ⟨D1, hD1⟩ : ∃ x, Win.dl E P n1 + shOff 0 a2 = x := ⟨_, rfl⟩
              obtain ⟨B1, hB1⟩ : ∃ x, Win.bit E P n1 = x := ⟨_, rfl⟩
              obtain ⟨G1, hG1⟩ : ∃ x, shG (shOff 0 a2) (Win.grp E P n1) = x := ⟨_, rfl⟩
              have hpk : ∀ b w, Sn w b E P (shOff 0 a2) n1 → Calls Try.prog 19 #[.pointer (some ⟨b, 0, none⟩)] w fun e w' => e = .returned (.agg #[.int .i64 n1, .int .i64 R1, .int .i64 D1, .int .i64 B1, .int .i64 G1]) ∧ Below w.heap.size w w' := by
                intro b w h
                have := peek_any b E P (shOff 0 a2) n1 w h e1 e2 p2 b3 (by omega) so0 so1
                rwa [hR1, hD1, hB1, hG1] at this
              have HPK1 := Lib.hid hpk
              clear hpk hR1 hD1 hB1 hG1
              obtain ⟨w9, rfl⟩ : ∃ x, x = wr := ⟨wr, rfl⟩
              go_upto_region 27 with (go_at_call 20; (with_reducible refine (shift_sn s E P 0 n1 a2 _ SS.out (by omega) (by omega) (by omega)).mono ?_); rintro e w5 ⟨rfl, hss5, ho5⟩)
              refine gen_world (F := fun V => Sn V s E P (shOff 0 a2) n1 ∧ Sn V c E P (shOff 0 a2) n1 ∧ Sn V d E P 0 n0 ∧ V.cell? ⟨H, 0, none⟩ = some (.int .i64 (n0)) ∧ V.cell? ⟨H, 1, none⟩ = some (.int .i64 (R0)) ∧ V.cell? ⟨H, 2, none⟩ = some (.int .i64 (D0)) ∧ V.cell? ⟨H, 3, none⟩ = some (.int .i64 (B0)) ∧ V.cell? ⟨H, 4, none⟩ = some (.int .i64 (G0)) ∧ (∀ o, V.frozen? ⟨H, o, none⟩ = false) ∧ H < V.heap.size ∧ Below w.heap.size w V) ⟨hss5, SC.out.keep ho5 (by omega), SD.out.keep ho5 (by omega), (ho5.cell (p := ⟨H, 0, none⟩) ls (by show H ≠ s; omega)).trans l0, (ho5.cell (p := ⟨H, 1, none⟩) ls (by show H ≠ s; omega)).trans l1, (ho5.cell (p := ⟨H, 2, none⟩) ls (by show H ≠ s; omega)).trans l2, (ho5.cell (p := ⟨H, 3, none⟩) ls (by show H ≠ s; omega)).trans l3, (ho5.cell (p := ⟨H, 4, none⟩) ls (by show H ≠ s; omega)).trans l4, fun o => (ho5.frozen (p := ⟨H, o, none⟩) ls (by show H ≠ s; omega)).trans (lf o), Nat.lt_of_lt_of_le ls ho5.size, bel_only hbv hs (by omega) ho5⟩ ?_
              clear SS SC SD hbv nc0 nc1 l0 l1 l2 l3 l4 lf ls ho5 hss5 hs dsz hk hlt
              rintro W2 ⟨hss, hsc, hsd, l0, l1, l2, l3, l4, lf, ls, hbv⟩
              have SS := Lib.hid hss
              have SC := Lib.hid hsc
              have SD := Lib.hid hsd
              have dsz := st_size hsd
              have hs := hbv.size
              clear hss hsc hsd
              go_region_held3 (fun x => Below (W2).heap.size (W2) x ∧ (∀ b o, b < (W2).heap.size → x.cell? ⟨b, o, none⟩ = (W2).cell? ⟨b, o, none⟩) ∧ (∀ b o, b < (W2).heap.size → x.frozen? ⟨b, o, none⟩ = (W2).frozen? ⟨b, o, none⟩)) ((first | (simp only [mark_set]; refine held_of ?_; repeat' (first | (with_reducible exact (by with_reducible assumption : Below _ _ _ ∧ _).1) | (with_reducible refine below_setc ?_ ?_) | omega | (simp; done) | (simp; omega))) | (with_reducible exact held_of ((by with_reducible assumption : Below _ _ _ ∧ _).1.trans (hb.mono (by with_reducible assumption : Below _ _ _ ∧ _).1.size))) | (with_reducible exact held_of (Below.drew (Below.refl _ _))) | (with_reducible exact held_of ((by with_reducible assumption : Below _ _ _ ∧ _).1.alloc (by with_reducible assumption : Below _ _ _ ∧ _).1.size _)) | (with_reducible exact held_of (below_realloc hz (by with_reducible assumption : Below _ _ (World.alloc _ _) ∧ _).1)))) (first
                | (go_at_call 19; (with_reducible refine (HPK1.out s _ ?_).mono ?_); (focus (refine held_sn (W := W2) ?_ SS.out; with_reducible assumption)); rintro e w1 ⟨rfl, hb⟩)
                | (go_at_call 19; (with_reducible refine (HPK1.out c _ ?_).mono ?_); (focus (refine held_sn (W := W2) ?_ SC.out; with_reducible assumption)); rintro e w1 ⟨rfl, hb⟩)
                | (go_at_call 19; (with_reducible refine (HPK.out d _ ?_).mono ?_); (focus (refine held_sn (W := W2) ?_ SD.out; with_reducible assumption)); rintro e w1 ⟨rfl, hb⟩))
              go_wp2
              go_ret
              exact ⟨rfl, bel_call hbv hs (by with_reducible assumption : Below W2.heap.size W2 _ ∧ _).1⟩
end Go.Proofs.Ytamonmhicjejoaa

