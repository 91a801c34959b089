/- The walk of the law TaskFull. -/
import Derived.Test.YtkmgkggkdmlkeaaAf
import Derived.Test.YtkmgkggkdmlkeaaAw10
import Derived.Test.YtkmgkggkdmlkeaaFrame
namespace Go.Proofs.Ytkmgkggkdmlkeaa
open Go.RowKit
set_option linter.unusedVariables false
set_option linter.unusedSimpArgs false

theorem mask6f (x : Int) : bits .and .i64 x 63 = x % 64 := i64_mask 6 (by decide) x

theorem bel_ts {B t s : Nat} {v : Value} {a w w1 : World} (h : Below B a w) (hs : B ≤ w.heap.size) (ht : B ≤ t) (hsB : B ≤ s) (hv : ∀ g, v.ownBlock = some g → B ≤ g) (k : Keeps (fun k => k = t ∨ k = s ∨ v.ownBlock = some k) w w1) : Below B a w1 :=
  h.trans (k.to_below hs (fun j hj h => by
    rcases h with h | h | h
    · omega
    · omega
    · have := hv j h; omega))

set_option maxRecDepth 8000 in
set_option maxHeartbeats 12800000 in
theorem walk_TaskFull (a00 a01 a1 a2 : Int) (w : World) (_f00 : (Lit.int .i64 a00).wf = true) (_f01 : (Lit.int .i64 a01).wf = true) (_f1 : (Lit.int .i64 a1).wf = true) (_f2 : (Lit.int .i64 a2).wf = true) :
    Calls Try.prog 3 #[.agg #[.int .i64 a00, .int .i64 a01], .int .i64 a1, .int .i64 a2] w fun e w' => e = .returned (.bool true) ∧ Below w.heap.size w w' := by
  obtain ⟨p1, p2⟩ := pOf_bd a01
  obtain ⟨e1, e2⟩ := eOf_bd a00 (pOf a01) p1
  have hm := fun w => made_any a00 a01 w
  generalize eOf a00 (pOf a01) = E at *
  generalize pOf a01 = P at *
  have HM := Lib.hid hm
  clear hm
  obtain ⟨A, hA, A1, A2⟩ : ∃ m : Nat, 1 + bits .and .i64 a1 63 = (m : Int) ∧ 1 ≤ m ∧ m ≤ 64 := by
    rw [mask6f]; exact ⟨(1 + a1 % 64).toNat, by omega, by omega, by omega⟩
  obtain ⟨B, hB, B1, B2⟩ : ∃ m : Nat, 1 + bits .and .i64 a2 63 = (m : Int) ∧ 1 ≤ m ∧ m ≤ 64 := by
    rw [mask6f]; exact ⟨(1 + a2 % 64).toNat, by omega, by omega, by omega⟩
  go_enter Try.func3, Try.ntmps3
  go_upto_region 5 with (first
    | (go_at_call 9; (with_reducible refine (awake10 _).mono ?_); rintro e w1 ⟨rfl, hb1⟩; have s_w1 := hb1.size; (try simp only [World.size_alloc, World.size_setCell, World.size_drew, sz_drewN] at s_w1); have z_w1_0_0 : w.heap.size < w1.heap.size := (by omega); have z_w1_0_1 : w.heap.size < w1.heap.size + 1 := (by omega); have z_w1_0_2 : w.heap.size < w1.heap.size + 1 + 1 := (by omega); have q_w1_0_0 : w1.cell? ⟨w.heap.size, 0, none⟩ = some (.int .i64 a00) := (hb1.cell (p := ⟨w.heap.size, 0, none⟩) (by first | (show w.heap.size < _; omega) | (show w.heap.size < _; simp; done) | (show w.heap.size < _; simp; omega))).trans (by first | assumption | (go_simp; done)); have q_w1_0_1 : w1.cell? ⟨w.heap.size, 1, none⟩ = some (.int .i64 a01) := (hb1.cell (p := ⟨w.heap.size, 1, none⟩) (by first | (show w.heap.size < _; omega) | (show w.heap.size < _; simp; done) | (show w.heap.size < _; simp; omega))).trans (by first | assumption | (go_simp; done)))
    | (go_at_call 11; (with_reducible refine (HM.out _).mono ?_); rintro e w2 ⟨rfl, hb2⟩; have s_w2 := hb2.size; (try simp only [World.size_alloc, World.size_setCell, World.size_drew, sz_drewN] at s_w2))
    | (go_at_call 10; (with_reducible refine (tnew_yes E P 0 false _ e1 e2 p2 (by omega) (by omega)).mono ?_); rintro e w3 ⟨⟨t, s, gt, gs, gst, rfl, hT1, hS1⟩, hb3⟩; have s_w3 := hb3.size; (try simp only [World.size_alloc, World.size_setCell, World.size_drew, sz_drewN] at s_w3)))
  have hbv : Below w.heap.size w w3 := (by have s0_ := hb1.size; have s1_ := hb2.size; have s2_ := hb3.size; (try simp only [World.size_alloc, World.size_setCell, World.size_drew, sz_drewN] at s0_ s1_ s2_); repeat' (first | (with_reducible exact Below.refl _ _) | (with_reducible refine bel_call ?_ ?_ hb3) | (with_reducible refine bel_call ?_ ?_ hb2) | (with_reducible refine bel_call ?_ ?_ hb1) | (with_reducible refine Below.alloc ?_ ?_ _) | (with_reducible refine below_drewN ?_ _) | (with_reducible refine Below.drew ?_) | (with_reducible refine Below.setCell ?_ ?_ _) | omega | (simp; omega) | (simp; done)))
  have ht' : w.heap.size ≤ t := by omega
  have hs' : w.heap.size ≤ s := by omega
  have s3 := hbv.size
  have HA1 := Lib.hid (arrive_row t s E P 0 1 0 false none 0 0 [] 0 0 0 0 0 0 A w3.heap.size w3 hT1 hS1 (RowAt.nil _ _ _) (by omega) (fun g hg => by cases hg) e1 e2 p2 (by omega) (by omega) (by omega) (by omega) (by omega) (by omega) A1 (by omega) (Nat.le_refl _))
  clear hb1 hb2 hb3 hT1 hS1 s_w1 s_w2 s_w3 z_w1_0_0 z_w1_0_1 z_w1_0_2 q_w1_0_0 q_w1_0_1 gt gs HM
  go_upto_region 8 with (go_at_call 12; (with_reducible refine HA1.out.mono ?_); rintro e w4 ⟨rfl, ⟨p4, cap4, hT4, hS4, hR4, hn4⟩, hk4⟩)
  obtain ⟨x0, x1⟩ := aoff_bd E P 0 0 1 e1 (by omega) (by omega) (by omega) A
  have x2 : aoff E P 0 0 1 A = 0 := by omega
  rw [x2] at hS4
  obtain ⟨y0, y1, y2, y3, y4, rest, hy⟩ := asub_head E P 0 0 1 A A1
  rw [Nat.zero_add] at hT4 hR4 hn4
  rw [hy, List.nil_append] at hR4
  have hbv4 := bel_ts hbv s3 ht' hs' (fun g hg => by cases hg) hk4
  refine gen_world (F := fun V => TC V t E P false false s (.slice p4 A cap4) 0 0 0 0 0 0 ∧ Sn V s E P 0 (1 + A) ∧ RowAt V w.heap.size 5 (.slice p4 A cap4) A ([.int .i64 y0, .int .i64 y1, .int .i64 y2, .int .i64 y3, .int .i64 y4] ++ rest) ∧ Below w.heap.size w V) ⟨hT4, hS4, hR4.mono s3, hbv4⟩ ?_
  clear hT4 hS4 hR4 hbv4 hk4 HA1 hbv s3 x0 x1 x2 hy
  rintro V ⟨hT, hS, hR, hbv⟩
  have hs4 := hbv.size
  have tsn : t ≠ s := by omega
  by_cases hf : 64 < A + B
  · have HAF := Lib.hid (arrive_full t s E P 0 false p4 A cap4 0 0 0 0 0 0 B V hT (by omega) (by omega) B1 B2 A2 hf)
    have hfi : (64 : Int) < (A : Int) + B := by omega
    have wAB : IntKind.i64.wrap ((A : Int) + B) = (A : Int) + B := IntWalk.i64_in _ (by omega)
    go_upto_region 15 with (go_at_call 12; (with_reducible refine HAF.out.mono ?_); rintro e w5 ⟨rfl, hb5⟩)
    refine gen_world (F := fun V => TC V t E P false false s (.slice p4 A cap4) 0 0 0 0 0 0 ∧ Sn V s E P 0 (1 + A) ∧ RowAt V w.heap.size 5 (.slice p4 A cap4) A ([.int .i64 y0, .int .i64 y1, .int .i64 y2, .int .i64 y3, .int .i64 y4] ++ rest) ∧ Below w.heap.size w V) ⟨hT.keepb hb5, hS.keepb hb5, row_only hR (only_of_below (b := V.heap.size) hb5) (fun g hg => by have := (hR.lt g hg).2; omega), bel_call hbv hs4 hb5⟩ ?_
    clear hT hS hR hbv hs4 hb5 HAF
    rintro V2 ⟨hT, hS, hR, hbv⟩
    have tz2 := tc_size hT
    have c5 := hT.2.2.2.2.2.1
    have HW := Lib.hid (fun w1 (hb : Below V2.heap.size V2 w1) => waits_any t p4 A cap4 w1 ((hb.cell (p := ⟨t, 5, none⟩) tz2).trans c5))
    have HRUN := Lib.hid (fun w1 (hb : Below V2.heap.size V2 w1) => run_row t cap4 A s w.heap.size p4 E P false false 0 0 0 0 0 0 y0 y1 y2 y3 y4 rest w1 (hT.keepb hb) (row_only hR (only_of_below (b := V2.heap.size) hb) (fun g hg => by have := (hR.lt g hg).2; omega)) (by omega) (by omega) (fun g hg => (hn4 g hg).1) (by omega) (by omega))
    have HS := Lib.hid hS
    have hs5 := hbv.size
    clear hT hR hS c5
    go_upto_region 18 with (first
      | (go_at_call 13; (with_reducible refine (HW.out _ (Below.refl _ _)).mono ?_); rintro e w6 ⟨rfl, hb6⟩; have s6 := hb6.size)
      | (go_at_call 14; (with_reducible refine (HRUN.out _ hb6).mono ?_); rintro e w7 ⟨rfl, ⟨q, cc, hT7, hR7, hq7⟩, ho7⟩; have s7 := ho7.size))
    refine gen_world (F := fun V => TC V t E P false false s (.slice q (A - 1) cc) y0 y1 y2 y3 y4 (0 + 1) ∧ Sn V s E P 0 (1 + A) ∧ RowAt V w.heap.size 5 (.slice q (A - 1) cc) (A - 1) rest ∧ Below w.heap.size w V) ⟨hT7.keepb (by repeat' (first | (with_reducible exact Below.refl _ _) | (with_reducible refine Below.alloc ?_ ?_ _) | (with_reducible refine below_drewN ?_ _) | (with_reducible refine Below.drew ?_) | (with_reducible refine Below.setCell ?_ ?_ _) | omega | (simp; omega) | (simp; done))), ((HS.out.keepb hb6).keep ho7 (Ne.symm tsn)).keepb (by repeat' (first | (with_reducible exact Below.refl _ _) | (with_reducible refine Below.alloc ?_ ?_ _) | (with_reducible refine below_drewN ?_ _) | (with_reducible refine Below.drew ?_) | (with_reducible refine Below.setCell ?_ ?_ _) | omega | (simp; omega) | (simp; done))), row_only hR7 (only_of_below (b := w7.heap.size) (by repeat' (first | (with_reducible exact Below.refl _ _) | (with_reducible refine Below.alloc ?_ ?_ _) | (with_reducible refine below_drewN ?_ _) | (with_reducible refine Below.drew ?_) | (with_reducible refine Below.setCell ?_ ?_ _) | omega | (simp; omega) | (simp; done)))) (fun g hg => by have := (hR7.lt g hg).2; omega), ?_⟩ ?_
    · exact bel_call (bel_only (bel_call hbv hs5 hb6) (by omega) ht' ho7) (by omega) (by repeat' (first | (with_reducible exact Below.refl _ _) | (with_reducible refine Below.alloc ?_ ?_ _) | (with_reducible refine below_drewN ?_ _) | (with_reducible refine Below.drew ?_) | (with_reducible refine Below.setCell ?_ ?_ _) | omega | (simp; omega) | (simp; done)))
    clear hT7 hR7 ho7 hb6 HS hbv HW HRUN
    rintro V3 ⟨hT, hS, hR, hbv⟩
    have hs6 := hbv.size
    obtain ⟨N, hN, hN2⟩ : ∃ N : Nat, (65 : Int) - (A : Int) = (N : Int) ∧ N = 65 - A := ⟨65 - A, by omega, rfl⟩
    have wN : IntKind.i64.wrap ((65 : Int) - (A : Int)) = (65 : Int) - (A : Int) := IntWalk.i64_in _ (by omega)
    have HA3 := Lib.hid (arrive_row t s E P 0 (1 + A) 0 false q (A - 1) cc rest y0 y1 y2 y3 y4 (0 + 1) N w.heap.size V3 hT hS hR tsn (fun g hg => hn4 g (hq7 g hg)) e1 e2 p2 (by omega) (by omega) (by omega) (by omega) (by omega) (by omega) (by omega) (by omega) hs6)
    have hWN : A - 1 + N = 64 := by omega
    rw [hWN] at HA3
    clear hN2 hWN
    have HLT := Lib.hid hR.lt
    clear hT hS hR
    go_wp2_with (first
      | (go_at_call 12; (with_reducible refine HA3.out.mono ?_); rintro e w8 ⟨rfl, ⟨p8, cap8, hT8, _, _, _⟩, hk8⟩; have hw9 := fun w1 (hb : Below w8.heap.size w8 w1) => waits_any t p8 64 cap8 w1 ((hb.cell (p := ⟨t, 5, none⟩) (tc_size hT8)).trans hT8.2.2.2.2.2.1); have HW9 := Lib.hid hw9; clear hw9 hT8; have hb8 := bel_ts hbv hs6 ht' hs' (fun g hg => (HLT.out g hg).1) hk8; have s8 := hb8.size; clear hk8)
      | (go_at_call 13; (with_reducible refine (HW9.out _ (Below.refl _ _)).mono ?_); rintro e w9 ⟨rfl, hb9⟩))
    go_ret
    exact ⟨rfl, bel_call hb8 s8 hb9⟩
  · have HA2 := Lib.hid (arrive_row t s E P 0 (1 + A) 0 false p4 A cap4 _ 0 0 0 0 0 0 B w.heap.size V hT hS hR tsn hn4 e1 e2 p2 (by omega) (by omega) (by omega) (by omega) (by omega) (by omega) B1 (by omega) hs4)
    have hfi : decide ((64 : Int) < (A : Int) + B) = false := by rw [decide_eq_false_iff_not]; omega
    have wAB : IntKind.i64.wrap ((A : Int) + B) = (A : Int) + B := IntWalk.i64_in _ (by omega)
    have hlt := Lib.hid hR.lt
    clear hT hS hR
    go_upto_region 15 with (go_at_call 12; (with_reducible refine HA2.out.mono ?_); rintro e w5 ⟨rfl, ⟨p5, cap5, hT5, hS5, hR5, hn5⟩, hk5⟩)
    obtain ⟨x0, x1⟩ := aoff_bd E P 0 0 (1 + A) e1 (by omega) (by omega) (by omega) B
    have x2 : aoff E P 0 0 (1 + A) B = 0 := by omega
    rw [x2] at hS5
    rw [List.append_assoc] at hR5
    generalize rest ++ asub E P 0 0 (1 + A) B = rest2 at hR5
    refine gen_world (F := fun V => TC V t E P false false s (.slice p5 (A + B) cap5) 0 0 0 0 0 0 ∧ Sn V s E P 0 (1 + A + B) ∧ RowAt V w.heap.size 5 (.slice p5 (A + B) cap5) (A + B) ([.int .i64 y0, .int .i64 y1, .int .i64 y2, .int .i64 y3, .int .i64 y4] ++ rest2) ∧ Below w.heap.size w V) ⟨hT5, hS5, hR5, bel_ts hbv hs4 ht' hs' (fun g hg => (hlt.out g hg).1) hk5⟩ ?_
    clear hT5 hS5 hR5 hbv hs4 hk5 HA2 hlt x0 x1 x2
    rintro V2 ⟨hT, hS, hR, hbv⟩
    have tz2 := tc_size hT
    have c5 := hT.2.2.2.2.2.1
    have HW := Lib.hid (fun w1 (hb : Below V2.heap.size V2 w1) => waits_any t p5 (A + B) cap5 w1 ((hb.cell (p := ⟨t, 5, none⟩) tz2).trans c5))
    have HRUN := Lib.hid (fun w1 (hb : Below V2.heap.size V2 w1) => run_row t cap5 (A + B) s w.heap.size p5 E P false false 0 0 0 0 0 0 y0 y1 y2 y3 y4 rest2 w1 (hT.keepb hb) (row_only hR (only_of_below (b := V2.heap.size) hb) (fun g hg => by have := (hR.lt g hg).2; omega)) (by omega) (by omega) (fun g hg => (hn5 g hg).1) (by omega) (by omega))
    have HS := Lib.hid hS
    have hs5 := hbv.size
    clear hT hR hS c5
    go_upto_region 18 with (first
      | (go_at_call 13; (with_reducible refine (HW.out _ (Below.refl _ _)).mono ?_); rintro e w6 ⟨rfl, hb6⟩; have s6 := hb6.size)
      | (go_at_call 14; (with_reducible refine (HRUN.out _ hb6).mono ?_); rintro e w7 ⟨rfl, ⟨q, cc, hT7, hR7, hq7⟩, ho7⟩; have s7 := ho7.size))
    refine gen_world (F := fun V => TC V t E P false false s (.slice q ((A + B) - 1) cc) y0 y1 y2 y3 y4 (0 + 1) ∧ Sn V s E P 0 (1 + A + B) ∧ RowAt V w.heap.size 5 (.slice q ((A + B) - 1) cc) ((A + B) - 1) rest2 ∧ Below w.heap.size w V) ⟨hT7.keepb (by repeat' (first | (with_reducible exact Below.refl _ _) | (with_reducible refine Below.alloc ?_ ?_ _) | (with_reducible refine below_drewN ?_ _) | (with_reducible refine Below.drew ?_) | (with_reducible refine Below.setCell ?_ ?_ _) | omega | (simp; omega) | (simp; done))), ((HS.out.keepb hb6).keep ho7 (Ne.symm tsn)).keepb (by repeat' (first | (with_reducible exact Below.refl _ _) | (with_reducible refine Below.alloc ?_ ?_ _) | (with_reducible refine below_drewN ?_ _) | (with_reducible refine Below.drew ?_) | (with_reducible refine Below.setCell ?_ ?_ _) | omega | (simp; omega) | (simp; done))), row_only hR7 (only_of_below (b := w7.heap.size) (by repeat' (first | (with_reducible exact Below.refl _ _) | (with_reducible refine Below.alloc ?_ ?_ _) | (with_reducible refine below_drewN ?_ _) | (with_reducible refine Below.drew ?_) | (with_reducible refine Below.setCell ?_ ?_ _) | omega | (simp; omega) | (simp; done)))) (fun g hg => by have := (hR7.lt g hg).2; omega), ?_⟩ ?_
    · exact bel_call (bel_only (bel_call hbv hs5 hb6) (by omega) ht' ho7) (by omega) (by repeat' (first | (with_reducible exact Below.refl _ _) | (with_reducible refine Below.alloc ?_ ?_ _) | (with_reducible refine below_drewN ?_ _) | (with_reducible refine Below.drew ?_) | (with_reducible refine Below.setCell ?_ ?_ _) | omega | (simp; omega) | (simp; done)))
    clear hT7 hR7 ho7 hb6 HS hbv HW HRUN
    rintro V3 ⟨hT, hS, hR, hbv⟩
    have hs6 := hbv.size
    obtain ⟨N, hN, hN2⟩ : ∃ N : Nat, (65 : Int) - ((A : Int) + B) = (N : Int) ∧ N = 65 - (A + B) := ⟨65 - (A + B), by omega, rfl⟩
    have wN : IntKind.i64.wrap ((65 : Int) - ((A : Int) + B)) = (65 : Int) - ((A : Int) + B) := IntWalk.i64_in _ (by omega)
    have HA3 := Lib.hid (arrive_row t s E P 0 (1 + A + B) 0 false q ((A + B) - 1) cc rest2 y0 y1 y2 y3 y4 (0 + 1) N w.heap.size V3 hT hS hR tsn (fun g hg => hn5 g (hq7 g hg)) e1 e2 p2 (by omega) (by omega) (by omega) (by omega) (by omega) (by omega) (by omega) (by omega) hs6)
    have hWN : (A + B) - 1 + N = 64 := by omega
    rw [hWN] at HA3
    clear hN2 hWN
    have HLT := Lib.hid hR.lt
    clear hT hS hR
    go_wp2_with (first
      | (go_at_call 12; (with_reducible refine HA3.out.mono ?_); rintro e w8 ⟨rfl, ⟨p8, cap8, hT8, _, _, _⟩, hk8⟩; have hw9 := fun w1 (hb : Below w8.heap.size w8 w1) => waits_any t p8 64 cap8 w1 ((hb.cell (p := ⟨t, 5, none⟩) (tc_size hT8)).trans hT8.2.2.2.2.2.1); have HW9 := Lib.hid hw9; clear hw9 hT8; have hb8 := bel_ts hbv hs6 ht' hs' (fun g hg => (HLT.out g hg).1) hk8; have s8 := hb8.size; clear hk8)
      | (go_at_call 13; (with_reducible refine (HW9.out _ (Below.refl _ _)).mono ?_); rintro e w9 ⟨rfl, hb9⟩))
    go_ret
    exact ⟨rfl, bel_call hb8 s8 hb9⟩
end Go.Proofs.Ytkmgkggkdmlkeaa
