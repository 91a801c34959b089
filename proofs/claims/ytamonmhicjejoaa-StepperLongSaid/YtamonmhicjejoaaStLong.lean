/- The walk of the law StepperLong. -/
import Derived.Test.YtamonmhicjejoaaSto
import Derived.Test.YtamonmhicjejoaaRfo
namespace Go.Proofs.Ytamonmhicjejoaa
open Go.RowKit
set_option linter.unusedVariables false
set_option linter.unusedSimpArgs false

theorem held_sn {W x : World} {b : Nat} {E P off n : Int} (h : Below W.heap.size W x ∧ (∀ b o, b < W.heap.size → x.cell? ⟨b, o, none⟩ = W.cell? ⟨b, o, none⟩) ∧ (∀ b o, b < W.heap.size → x.frozen? ⟨b, o, none⟩ = W.frozen? ⟨b, o, none⟩)) (hs : Sn W b E P off n) : Sn x b E P off n := hs.keepb h.1

set_option maxRecDepth 8000 in
set_option maxHeartbeats 6400000 in
theorem walk_StepperLong (a00 a01 a1 : Int) (w : World) (_f00 : (Lit.int .i64 a00).wf = true) (_f01 : (Lit.int .i64 a01).wf = true) (_f1 : (Lit.int .i64 a1).wf = true) :
    Calls Try.prog 3 #[.agg #[.int .i64 a00, .int .i64 a01], .int .i64 a1] w fun e w' => e = .returned (.bool true) ∧ Below w.heap.size w w' := by
  obtain ⟨p1, p2⟩ := pOf_bd a01
  obtain ⟨e1, e2⟩ := eOf_bd a00 (pOf a01) p1
  have hm := fun w => made5 a00 a01 w
  generalize eOf a00 (pOf a01) = E at *
  generalize pOf a01 = P at *
  have HM := Lib.hid hm
  clear hm
  have m1 : 0 ≤ a1.tmod 4001 + 4001 := by have := Int.lt_tmod_of_pos a1 (b := 4001) (by omega); omega
  have m3 : 0 ≤ (a1.tmod 4001 + 4001) % 4001 := Int.emod_nonneg _ (by omega)
  have m4 : (a1.tmod 4001 + 4001) % 4001 < 4001 := Int.emod_lt_of_pos _ (by omega)
  have m2 : a1.tmod 4001 + 4001 ≤ 8002 := by have := Int.tmod_lt_of_pos a1 (b := 4001) (by omega); omega
  go_enter Try.func3, Try.ntmps3
  go_upto_region 6 with (first
    | (go_at_call 14; (with_reducible refine (awake05 _).mono ?_); rintro e w1 ⟨rfl, hb1⟩; have s_w1 := hb1.size; (try simp only [World.size_alloc, World.size_setCell, World.size_drew, sz_drewN] at s_w1); have z_w1_0_0 : w.heap.size < w1.heap.size := (by omega); have z_w1_0_1 : w.heap.size < w1.heap.size + 1 := (by omega); have z_w1_0_2 : w.heap.size < w1.heap.size + 1 + 1 := (by omega); have q_w1_0_0 : w1.cell? ⟨w.heap.size, 0, none⟩ = some (.int .i64 a00) := (hb1.cell (p := ⟨w.heap.size, 0, none⟩) (by first | (show w.heap.size < _; omega) | (show w.heap.size < _; simp; done) | (show w.heap.size < _; simp; omega))).trans (by first | assumption | (go_simp; done)); have q_w1_0_1 : w1.cell? ⟨w.heap.size, 1, none⟩ = some (.int .i64 a01) := (hb1.cell (p := ⟨w.heap.size, 1, none⟩) (by first | (show w.heap.size < _; omega) | (show w.heap.size < _; simp; done) | (show w.heap.size < _; simp; omega))).trans (by first | assumption | (go_simp; done)))
    | (go_at_call 15; (with_reducible refine (HM.out _).mono ?_); rintro e w2 ⟨rfl, hb2⟩; have s_w2 := hb2.size; (try simp only [World.size_alloc, World.size_setCell, World.size_drew, sz_drewN] at s_w2))
    | (go_at_call 16; (with_reducible refine (new_yes E P 0 _ e1 e2 p2 (by omega) (by omega)).mono ?_); rintro e w3 ⟨⟨s, gs, rfl, hss⟩, hb3⟩; have s_w3 := hb3.size; (try simp only [World.size_alloc, World.size_setCell, World.size_drew, sz_drewN] at s_w3); have z_w3_0_0 : w2.heap.size < w3.heap.size := (by omega); have z_w3_0_1 : w2.heap.size < w3.heap.size + 1 := (by omega); have z_w3_0_2 : w2.heap.size < w3.heap.size + 1 + 1 := (by omega); have q_w3_0_0 : w3.cell? ⟨w2.heap.size, 0, none⟩ = some (.int .i64 E) := (hb3.cell (p := ⟨w2.heap.size, 0, none⟩) (by first | (show w2.heap.size < _; omega) | (show w2.heap.size < _; simp; done) | (show w2.heap.size < _; simp; omega))).trans (by first | assumption | (go_simp; done)); have q_w3_0_1 : w3.cell? ⟨w2.heap.size, 1, none⟩ = some (.int .i64 P) := (hb3.cell (p := ⟨w2.heap.size, 1, none⟩) (by first | (show w2.heap.size < _; omega) | (show w2.heap.size < _; simp; done) | (show w2.heap.size < _; simp; omega))).trans (by first | assumption | (go_simp; done))))
  have ss := st_size hss
  refine gen_world (F := fun V => Sn V s E P 0 (0 + 1) ∧ V.cell? ⟨w2.heap.size, 0, none⟩ = some (.int .i64 E) ∧ V.cell? ⟨w2.heap.size, 1, none⟩ = some (.int .i64 P) ∧ w2.heap.size < s ∧ w.heap.size ≤ w2.heap.size ∧ Below w.heap.size w V) ⟨(by show Sn _ s E P 0 1; exact hss), q_w3_0_0, q_w3_0_1, by simp at gs; omega, by omega, (by have s0_ := hb1.size; have s1_ := hb2.size; have s2_ := hb3.size; (try simp only [World.size_alloc, World.size_setCell, World.size_drew, sz_drewN] at s0_ s1_ s2_); repeat' (first | (with_reducible exact Below.refl _ _) | (with_reducible refine bel_call ?_ ?_ hb3) | (with_reducible refine bel_call ?_ ?_ hb2) | (with_reducible refine bel_call ?_ ?_ hb1) | (with_reducible refine Below.alloc ?_ ?_ _) | (with_reducible refine below_drewN ?_ _) | (with_reducible refine Below.drew ?_) | (with_reducible refine Below.setCell ?_ ?_ _) | omega | (simp; omega) | (simp; done)))⟩ ?_
  clear hb1 hb2 hb3 s_w1 s_w2 s_w3 gs hss HM ss q_w3_0_0 q_w3_0_1 q_w1_0_0 q_w1_0_1
  generalize w2.heap.size = Q at *
  rintro V ⟨hss, nc0, nc1, gs, gq, hbv⟩
  have SS := Lib.hid hss
  clear hss
  go_wp2
  generalize (a1.tmod 4001 + 4001) % 4001 = K at *
  go_loopw [9] (fun i wr => ∃ k : Nat, i = .int .i64 k ∧ (k : Int) ≤ K ∧ Sn wr s E P 0 (k + 1) ∧ wr.cell? ⟨Q, 0, none⟩ = some (.int .i64 E) ∧ wr.cell? ⟨Q, 1, none⟩ = some (.int .i64 P) ∧ Below w.heap.size w wr) (fun i _ => (K - intOf i).toNat)
  case atStart => exact ⟨0, rfl, by simp; omega, SS.out, nc0, nc1, hbv⟩
  case round =>
    clear SS hbv nc0 nc1
    obtain ⟨k, rfl, hk, hss, nc0, nc1, hbv⟩ := hrel
    have SS := Lib.hid hss
    have ssz := st_size hss
    have hs := hbv.size
    clear hss
    by_cases hlt : (k : Int) < K
    · have hk1 : Hid (((k + 1 : Nat) : Int) = (k : Int) + 1) := by show _ = _; omega
      go_wp2_with (go_at_call 17; (with_reducible refine (next_any s E P 0 (k + 1) _ SS.out e1 e2 p2 (by omega) (by omega) (by omega) (by omega)).mono ?_); rintro e w5 ⟨rfl, hss5, ho5⟩; have SS5 := Lib.hid hss5; clear hss5)
      go_roundw
      case rel => first | exact ⟨k + 1, by go_num, by rw [hk1.out]; omega, by rw [hk1.out]; exact SS5.out, (ho5.cell (p := ⟨Q, 0, none⟩) (by show Q < _; omega) (by show Q ≠ _; omega)).trans nc0, (ho5.cell (p := ⟨Q, 1, none⟩) (by show Q < _; omega) (by show Q ≠ _; omega)).trans nc1, bel_only hbv hs (by omega) ho5⟩ | ((repeat apply Exists.intro); exact ⟨⟨k + 1, by go_num, by rw [hk1.out]; omega, by rw [hk1.out]; exact SS5.out, (ho5.cell (p := ⟨Q, 0, none⟩) (by show Q < _; omega) (by show Q ≠ _; omega)).trans nc0, (ho5.cell (p := ⟨Q, 1, none⟩) (by show Q < _; omega) (by show Q ≠ _; omega)).trans nc1, bel_only hbv hs (by omega) ho5⟩, rfl⟩)
      case measure => simp [intOf]; omega
    · have hn : (k : Int) = K := by omega
      have hof := fun w => rof_yes E P (k + 1) 0 w e1 e2 p2 (by omega) (by omega) (by omega) (by omega)
      have hpk := fun w h => peek_any s E P 0 (k + 1) w h e1 e2 p2 (by omega) (by omega) (by omega) (by omega)
      rw [hn] at hof hpk SS
      generalize Win.rel E P (K + 1) + 0 = R at *
      generalize Win.dl E P (K + 1) + 0 = D at *
      generalize Win.bit E P (K + 1) = B at *
      generalize shG 0 (Win.grp E P (K + 1)) = G at *
      have HOF := Lib.hid hof
      have HPK := Lib.hid hpk
      have qsz : Q < wr.heap.size := by omega
      clear hn hof hpk
      obtain ⟨w9, rfl⟩ : ∃ x, x = wr := ⟨wr, rfl⟩
      go_upto_region 12 with (go_at_call 18; (with_reducible refine (HOF.out _).mono ?_); rintro e w6 ⟨rfl, hb6⟩; have s6 := hb6.size)
      refine gen_world (F := fun V => Sn V s E P 0 (K + 1) ∧ V.cell? ⟨w6.heap.size, 0, none⟩ = some (.int .i64 (K + 1)) ∧ V.cell? ⟨w6.heap.size, 1, none⟩ = some (.int .i64 (R)) ∧ V.cell? ⟨w6.heap.size, 2, none⟩ = some (.int .i64 (D)) ∧ V.cell? ⟨w6.heap.size, 3, none⟩ = some (.int .i64 (B)) ∧ V.cell? ⟨w6.heap.size, 4, none⟩ = some (.int .i64 (G)) ∧ (∀ o, V.frozen? ⟨w6.heap.size, o, none⟩ = false) ∧ w6.heap.size < V.heap.size ∧ Below w.heap.size w V) ⟨(SS.out.keepb hb6).keepb (by repeat' (first | (with_reducible exact Below.refl _ _) | (with_reducible refine Below.alloc ?_ ?_ _) | (with_reducible refine below_drewN ?_ _) | (with_reducible refine Below.drew ?_) | (with_reducible refine Below.setCell ?_ ?_ _) | omega | (simp; omega) | (simp; done))), ?_, ?_, ?_, ?_, ?_, ?_, ?_, (bel_call hbv hs hb6).alloc (by omega) _⟩ ?_
      iterate 5 (focus (go_simp; done))
      · intro o; go_simp
      · simp
      clear hb6 s6 SS nc0 nc1 hbv hs
      generalize w6.heap.size = H at *
      rintro W ⟨hss, l0, l1, l2, l3, l4, lf, ls, hbv⟩
      have SS := Lib.hid hss
      have hs := hbv.size
      clear hss
      go_region_held3 (fun x => Below (W).heap.size (W) x ∧ (∀ b o, b < (W).heap.size → x.cell? ⟨b, o, none⟩ = (W).cell? ⟨b, o, none⟩) ∧ (∀ b o, b < (W).heap.size → x.frozen? ⟨b, o, none⟩ = (W).frozen? ⟨b, o, none⟩)) ((first | (simp only [mark_set]; refine held_of ?_; repeat' (first | (with_reducible exact (by with_reducible assumption : Below _ _ _ ∧ _).1) | (with_reducible refine below_setc ?_ ?_) | omega | (simp; done) | (simp; omega))) | (with_reducible exact held_of ((by with_reducible assumption : Below _ _ _ ∧ _).1.trans (hb.mono (by with_reducible assumption : Below _ _ _ ∧ _).1.size))) | (with_reducible exact held_of (Below.drew (Below.refl _ _))) | (with_reducible exact held_of ((by with_reducible assumption : Below _ _ _ ∧ _).1.alloc (by with_reducible assumption : Below _ _ _ ∧ _).1.size _)) | (with_reducible exact held_of (below_realloc hz (by with_reducible assumption : Below _ _ (World.alloc _ _) ∧ _).1)))) (first
        | (go_at_call 19; (with_reducible refine (HPK.out _ ?_).mono ?_); (focus (refine held_sn (W := W) ?_ SS.out; with_reducible assumption)); rintro e w1 ⟨rfl, hb⟩))
      go_wp2
      go_ret
      exact ⟨rfl, bel_call hbv hs (by with_reducible assumption : Below W.heap.size W _ ∧ _).1⟩
end Go.Proofs.Ytamonmhicjejoaa
