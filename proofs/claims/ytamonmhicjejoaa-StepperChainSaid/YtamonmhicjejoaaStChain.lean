/- The walk of the law StepperChain. -/
import Derived.Test.YtamonmhicjejoaaStn
namespace Go.Proofs.Ytamonmhicjejoaa
open Go.RowKit
set_option linter.unusedVariables false
set_option linter.unusedSimpArgs false

set_option maxHeartbeats 6400000 in
theorem walk_StepperChain (a00 a01 a1 a2 : Int) (w : World) (_f00 : (Lit.int .i64 a00).wf = true) (_f01 : (Lit.int .i64 a01).wf = true) (_f1 : (Lit.int .i64 a1).wf = true) (_f2 : (Lit.int .i64 a2).wf = true) :
    Calls Try.prog 4 #[.agg #[.int .i64 a00, .int .i64 a01], .int .i64 a1, .int .i64 a2] w fun e w' => e = .returned (.bool true) ∧ Below w.heap.size w w' := by
  obtain ⟨p1, p2⟩ := pOf_bd a01
  obtain ⟨e1, e2⟩ := eOf_bd a00 (pOf a01) p1
  have hm := fun w => made5 a00 a01 w
  generalize eOf a00 (pOf a01) = E at *
  generalize pOf a01 = P at *
  have HM := Lib.hid hm
  clear hm
  obtain ⟨at', hat, o0, o1⟩ : ∃ o, bits .and .i64 a1 1099511627775 = o ∧ 0 ≤ o ∧ o ≤ 1099511627775 := ⟨_, mask40 a1, by omega, by omega⟩
  have m1 : 0 ≤ a2.tmod 200 + 200 := by have := Int.lt_tmod_of_pos a2 (b := 200) (by omega); omega
  have m3 : 0 ≤ a2.tmod 200 % 200 := Int.emod_nonneg _ (by omega)
  have m4 : a2.tmod 200 % 200 < 200 := Int.emod_lt_of_pos _ (by omega)
  have m2 : a2.tmod 200 + 200 ≤ 400 := by have := Int.tmod_lt_of_pos a2 (b := 200) (by omega); omega
  go_enter Try.func4, Try.ntmps4
  go_upto_region 5 with (first
    | (go_at_call 14; (with_reducible refine (awake05 _).mono ?_); rintro e w1 ⟨rfl, hb1⟩; have s_w1 := hb1.size; (try simp only [World.size_alloc, World.size_setCell, World.size_drew, sz_drewN] at s_w1); have z_w1_0_0 : w.heap.size < w1.heap.size := (by omega); have z_w1_0_1 : w.heap.size < w1.heap.size + 1 := (by omega); have z_w1_0_2 : w.heap.size < w1.heap.size + 1 + 1 := (by omega); have q_w1_0_0 : w1.cell? ⟨w.heap.size, 0, none⟩ = some (.int .i64 a00) := (hb1.cell (p := ⟨w.heap.size, 0, none⟩) (by first | (show w.heap.size < _; omega) | (show w.heap.size < _; simp; done) | (show w.heap.size < _; simp; omega))).trans (by first | assumption | (go_simp; done)); have q_w1_0_1 : w1.cell? ⟨w.heap.size, 1, none⟩ = some (.int .i64 a01) := (hb1.cell (p := ⟨w.heap.size, 1, none⟩) (by first | (show w.heap.size < _; omega) | (show w.heap.size < _; simp; done) | (show w.heap.size < _; simp; omega))).trans (by first | assumption | (go_simp; done)))
    | (go_at_call 15; (with_reducible refine (HM.out _).mono ?_); rintro e w2 ⟨rfl, hb2⟩; have s_w2 := hb2.size; (try simp only [World.size_alloc, World.size_setCell, World.size_drew, sz_drewN] at s_w2))
    | (go_at_call 16; (with_reducible refine (new_yes E P at' _ e1 e2 p2 o0 (by omega)).mono ?_); rintro e w3 ⟨⟨b, gb, rfl, hsn⟩, hb3⟩))
  refine gen_world (F := fun V => Sn V b E P at' 1 ∧ w.heap.size ≤ b ∧ Below w.heap.size w V) ⟨hsn, ?_, (by have s0_ := hb1.size; have s1_ := hb2.size; have s2_ := hb3.size; (try simp only [World.size_alloc, World.size_setCell, World.size_drew, sz_drewN] at s0_ s1_ s2_); repeat' (first | (with_reducible exact Below.refl _ _) | (with_reducible refine bel_call ?_ ?_ hb3) | (with_reducible refine bel_call ?_ ?_ hb2) | (with_reducible refine bel_call ?_ ?_ hb1) | (with_reducible refine Below.alloc ?_ ?_ _) | (with_reducible refine below_drewN ?_ _) | (with_reducible refine Below.drew ?_) | (with_reducible refine Below.setCell ?_ ?_ _) | omega | (simp; omega) | (simp; done)))⟩ ?_
  · have := hb1.size; have := hb2.size; simp at *; omega
  clear hb1 hb2 hb3 s_w1 s_w2 gb hsn HM
  rintro V ⟨hsn, gb, hbv⟩
  have HN := Lib.hid hsn
  clear hsn
  have hn := fun w h => next_any b E P at' 1 w h e1 e2 p2 (by omega) (by omega) o0 (by omega)
  have r1 : Win.rel E P 1 + at' = at' := by unfold Win.rel; simp
  rw [r1] at hn
  obtain ⟨D, hD⟩ : ∃ x, Win.dl E P 1 + at' = x := ⟨_, rfl⟩
  obtain ⟨B, hB⟩ : ∃ x, Win.bit E P 1 = x := ⟨_, rfl⟩
  obtain ⟨G, hG⟩ : ∃ x, shG at' (Win.grp E P 1) = x := ⟨_, rfl⟩
  rw [hD, hB, hG] at hn
  have HNX := Lib.hid hn
  have HD := Lib.hid hD
  have HB := Lib.hid hB
  have HG := Lib.hid hG
  clear hn r1 hD hB hG
  go_upto_region 10 with (go_at_call 17; (with_reducible refine (HNX.out _ HN.out).mono ?_); rintro e w4 ⟨rfl, hsn, ho4⟩; have s4 := ho4.size; have bs4 := hsn.2.2.2.2.2.2.2.2.2.2.2.2.2.2.2.2.2.2.2.2)
  refine gen_world (F := fun V2 => Sn V2 b E P at' (1 + 1) ∧ V2.cell? ⟨w4.heap.size, 0, none⟩ = some (.int .i64 (1)) ∧ V2.cell? ⟨w4.heap.size, 1, none⟩ = some (.int .i64 (at')) ∧ V2.cell? ⟨w4.heap.size, 2, none⟩ = some (.int .i64 (D)) ∧ V2.cell? ⟨w4.heap.size, 3, none⟩ = some (.int .i64 (B)) ∧ V2.cell? ⟨w4.heap.size, 4, none⟩ = some (.int .i64 (G)) ∧ (∀ o, V2.frozen? ⟨w4.heap.size, o, none⟩ = false) ∧ w4.heap.size < V2.heap.size ∧ Below w.heap.size w V2) ⟨hsn.keepb (by repeat' (first | (with_reducible exact Below.refl _ _) | (with_reducible refine Below.alloc ?_ ?_ _) | (with_reducible refine below_drewN ?_ _) | (with_reducible refine Below.drew ?_) | (with_reducible refine Below.setCell ?_ ?_ _) | omega | (simp; omega) | (simp; done))), ?_, ?_, ?_, ?_, ?_, ?_, ?_, ?_⟩ ?_
  iterate 5 (focus (go_simp; done))
  · intro o; go_simp
  · simp
  · exact (bel_only hbv (by have := hbv.size; omega) gb ho4).alloc (by have := hbv.size; omega) _
  clear ho4 hbv HN HNX hsn
  generalize w4.heap.size = L at *
  rintro V2 ⟨hsn, l0, l1, l2, l3, l4, lf, ls, hbv⟩
  have S2 := Lib.hid hsn
  clear hsn s4
  go_wp2
  go_loopw [12] (fun i wr => ∃ k : Nat, i = .int .i64 k ∧ (k : Int) ≤ a2.tmod 200 % 200 ∧ Sn wr b E P at' (k + 1 + 1) ∧ wr.cell? ⟨L, 0, none⟩ = some (.int .i64 ((k : Int) + 1)) ∧ wr.cell? ⟨L, 1, none⟩ = some (.int .i64 (Win.rel E P (k + 1) + at')) ∧ wr.cell? ⟨L, 2, none⟩ = some (.int .i64 (Win.dl E P (k + 1) + at')) ∧ wr.cell? ⟨L, 3, none⟩ = some (.int .i64 (Win.bit E P (k + 1))) ∧ wr.cell? ⟨L, 4, none⟩ = some (.int .i64 (shG at' (Win.grp E P (k + 1)))) ∧ (∀ o, wr.frozen? ⟨L, o, none⟩ = false) ∧ L < wr.heap.size ∧ Below w.heap.size w wr) (fun i _ => (a2.tmod 200 % 200 - intOf i).toNat)
  case atStart =>
    have z1 : Win.rel E P (0 + 1) + at' = at' := by unfold Win.rel; simp
    refine ⟨0, rfl, by simp; omega, S2.out, l0, ?_, ?_, ?_, ?_, lf, ls, hbv⟩
    · show _ = some (Value.int .i64 (Win.rel E P (0 + 1) + at')); rw [z1]; exact l1
    · show _ = some (Value.int .i64 (Win.dl E P 1 + at')); rw [HD.out]; exact l2
    · show _ = some (Value.int .i64 (Win.bit E P 1)); rw [HB.out]; exact l3
    · show _ = some (Value.int .i64 (shG at' (Win.grp E P 1))); rw [HG.out]; exact l4
  case round =>
    clear l0 l1 l2 l3 l4 lf ls hbv S2 HD HB HG
    obtain ⟨k, rfl, hk, hsn, l0, l1, l2, l3, l4, lf, ls, hbv⟩ := hrel
    have HS := Lib.hid hsn
    clear hsn
    by_cases hlt : (k : Int) < a2.tmod 200 % 200
    · obtain ⟨c1, c2, c3, c4⟩ := chain E P at' (k + 1) e1 e2 p2 (by omega) (by omega) o0
      obtain ⟨b1, b2⟩ := bit01 E P (k + 1)
      obtain ⟨d1, d2, d3, d4, d5, d6⟩ := sn_bd E P (k + 1) e1 e2 p2 (by omega) (by omega)
      obtain ⟨d7, d8, d9, d10, d11, d12⟩ := sn_bd E P (k + 1 + 1) e1 e2 p2 (by omega) (by omega)
      have hn := fun w h => next_any b E P at' (k + 1 + 1) w h e1 e2 p2 (by omega) (by omega) o0 (by omega)
      obtain ⟨R2, hR2⟩ : ∃ x, Win.rel E P (k + 1 + 1) + at' = x := ⟨_, rfl⟩
      obtain ⟨D2, hD2⟩ : ∃ x, Win.dl E P (k + 1 + 1) + at' = x := ⟨_, rfl⟩
      obtain ⟨B2, hB2⟩ : ∃ x, Win.bit E P (k + 1 + 1) = x := ⟨_, rfl⟩
      obtain ⟨G2, hG2⟩ : ∃ x, shG at' (Win.grp E P (k + 1 + 1)) = x := ⟨_, rfl⟩
      have e9 : 0 ≤ Win.dl E P (k + 1) + at' := by omega
      have e8 : Win.dl E P (k + 1) + at' ≤ 4611686018427387904 := by omega
      rw [hR2, hD2, hB2, hG2] at hn
      rw [hR2] at c1
      rw [hD2] at c2 c4
      rw [hG2] at c3 c4
      have HNX := Lib.hid hn
      have HR2 := Lib.hid hR2
      have HD2 := Lib.hid hD2
      have HB2 := Lib.hid hB2
      have HG2 := Lib.hid hG2
      clear hn hR2 hD2 hB2 hG2 d1 d2 d3 d4 d5 d6 d7 d8 d9 d10 d11 d12
      generalize Win.rel E P (k + 1) + at' = R at *
      generalize Win.dl E P (k + 1) + at' = D1 at *
      generalize Win.bit E P (k + 1) = B1 at *
      generalize shG at' (Win.grp E P (k + 1)) = G1 at *
      go_upto_region 14 with (go_at_call 17; (with_reducible refine (HNX.out _ HS.out).mono ?_); rintro e w5 ⟨rfl, hsn, ho5⟩; have s_w5 := ho5.size; (try simp only [World.size_alloc, World.size_setCell, World.size_drew, sz_drewN] at s_w5); have z_w5_0_0 : L < w5.heap.size := (by omega); have z_w5_0_1 : L < w5.heap.size + 1 := (by omega); have z_w5_0_2 : L < w5.heap.size + 1 + 1 := (by omega); have q_w5_0_0 : w5.cell? ⟨L, 0, none⟩ = some (.int .i64 (k + 1)) := (ho5.cell (p := ⟨L, 0, none⟩) (by first | (show L < _; omega) | (show L < _; simp; done) | (show L < _; simp; omega)) (by show L ≠ _; omega)).trans (by first | assumption | (go_simp; done)); have q_w5_0_1 : w5.cell? ⟨L, 1, none⟩ = some (.int .i64 R) := (ho5.cell (p := ⟨L, 1, none⟩) (by first | (show L < _; omega) | (show L < _; simp; done) | (show L < _; simp; omega)) (by show L ≠ _; omega)).trans (by first | assumption | (go_simp; done)); have q_w5_0_2 : w5.cell? ⟨L, 2, none⟩ = some (.int .i64 D1) := (ho5.cell (p := ⟨L, 2, none⟩) (by first | (show L < _; omega) | (show L < _; simp; done) | (show L < _; simp; omega)) (by show L ≠ _; omega)).trans (by first | assumption | (go_simp; done)); have q_w5_0_3 : w5.cell? ⟨L, 3, none⟩ = some (.int .i64 B1) := (ho5.cell (p := ⟨L, 3, none⟩) (by first | (show L < _; omega) | (show L < _; simp; done) | (show L < _; simp; omega)) (by show L ≠ _; omega)).trans (by first | assumption | (go_simp; done)); have q_w5_0_4 : w5.cell? ⟨L, 4, none⟩ = some (.int .i64 G1) := (ho5.cell (p := ⟨L, 4, none⟩) (by first | (show L < _; omega) | (show L < _; simp; done) | (show L < _; simp; omega)) (by show L ≠ _; omega)).trans (by first | assumption | (go_simp; done)); have wf : ∀ o, w5.frozen? ⟨L, o, none⟩ = false := (fun o => (ho5.frozen (p := ⟨L, o, none⟩) ls (by show L ≠ _; omega)).trans (lf o)))
      refine gen_world (F := fun V3 => Sn V3 b E P at' (k + 1 + 1 + 1) ∧ V3.cell? ⟨L, 0, none⟩ = some (.int .i64 ((k : Int) + 1)) ∧ V3.cell? ⟨L, 1, none⟩ = some (.int .i64 (R)) ∧ V3.cell? ⟨L, 2, none⟩ = some (.int .i64 (D1)) ∧ V3.cell? ⟨L, 3, none⟩ = some (.int .i64 (B1)) ∧ V3.cell? ⟨L, 4, none⟩ = some (.int .i64 (G1)) ∧ (∀ o, V3.frozen? ⟨L, o, none⟩ = false) ∧ L < V3.heap.size ∧ V3.cell? ⟨w5.heap.size, 0, none⟩ = some (.int .i64 ((k : Int) + 1 + 1)) ∧ V3.cell? ⟨w5.heap.size, 1, none⟩ = some (.int .i64 (R2)) ∧ V3.cell? ⟨w5.heap.size, 2, none⟩ = some (.int .i64 (D2)) ∧ V3.cell? ⟨w5.heap.size, 3, none⟩ = some (.int .i64 (B2)) ∧ V3.cell? ⟨w5.heap.size, 4, none⟩ = some (.int .i64 (G2)) ∧ (∀ o, V3.frozen? ⟨w5.heap.size, o, none⟩ = false) ∧ w5.heap.size < V3.heap.size ∧ Below w.heap.size w V3) ⟨hsn.keepb (by repeat' (first | (with_reducible exact Below.refl _ _) | (with_reducible refine Below.alloc ?_ ?_ _) | (with_reducible refine below_drewN ?_ _) | (with_reducible refine Below.drew ?_) | (with_reducible refine Below.setCell ?_ ?_ _) | omega | (simp; omega) | (simp; done))), ?_, ?_, ?_, ?_, ?_, ?_, ?_, ?_, ?_, ?_, ?_, ?_, ?_, ?_, ?_⟩ ?_
      iterate 5 (focus (go_simp; done))
      · intro o; go_simp
      · simp; omega
      iterate 5 (focus (go_simp; done))
      · intro o; go_simp
      · simp
      · exact (bel_only hbv (by have := hbv.size; omega) gb ho5).alloc (by have := hbv.size; omega) _
      have hLX : L < w5.heap.size := by omega
      generalize w5.heap.size = X at *
      clear l0 l1 l2 l3 l4 lf ls hbv HS ho5 wf
      rintro V3 ⟨hsn, l0, l1, l2, l3, l4, lf, ls, x0, x1, x2, x3, x4, xf, xs, hbv⟩
      have S3 := Lib.hid hsn
      clear hsn
      have c1' : IntKind.i64.wrap (D1 - B1) = R2 := by rw [wrap_in' _ (by omega) (by omega)]; omega
      have HC1 := Lib.hid c1
      have hk1 : Hid (((k + 1 : Nat) : Int) = (k : Int) + 1) := by show _ = _; omega
      go_wp2
      all_goals
        go_roundw
        case rel =>
          refine ⟨k + 1, by go_num, by rw [hk1.out]; omega, by rw [hk1.out]; exact S3.out.keep (c := L) (by repeat' (first | (with_reducible exact Only.refl _ _) | (with_reducible refine Only.alloc ?_ _) | (with_reducible refine only_drewN ?_ _) | (with_reducible refine Only.drew ?_) | (with_reducible refine Only.setCell ?_ ?_ _) | (exact Or.inl rfl) | (right; first | omega | (simp; done) | (simp; omega)) | omega | (simp; omega) | (simp; done))) (by omega), by rw [hk1.out]; go_simp, by rw [hk1.out, HR2.out, HC1.out]; go_simp, by rw [hk1.out, HD2.out]; go_simp, by rw [hk1.out, HB2.out]; go_simp, by rw [hk1.out, HG2.out]; go_simp, by intro o; go_simp, by simp; omega, ?_⟩
          exact bel_chain0 hbv (by repeat' (first | (with_reducible exact Below.refl _ _) | (with_reducible refine Below.alloc ?_ ?_ _) | (with_reducible refine below_drewN ?_ _) | (with_reducible refine Below.drew ?_) | (with_reducible refine Below.setCell ?_ ?_ _) | omega | (simp; omega) | (simp; done)))
        case measure =>
          simp [intOf]; omega
    · go_wp2
      go_ret
      exact ⟨rfl, hbv⟩
end Go.Proofs.Ytamonmhicjejoaa
