/- The helpers of chapter 5's laws: 'awake', 'made'; the law StepperNil. -/
import Derived.Test.YtamonmhicjejoaaNw
namespace Go.Proofs.Ytamonmhicjejoaa
open Go.RowKit
set_option linter.unusedVariables false
set_option linter.unusedSimpArgs false

set_option maxHeartbeats 1600000 in
theorem awake05 (w : World) : Calls Try.prog 14 #[] w fun e w' => e = .returned (.bool true) ∧ Below w.heap.size w w' := by
  have hn1 := fun b w h => next_any b 2 3 0 1 w h (by omega) (by omega) (by omega) (by omega) (by omega) (by omega) (by omega)
  have hn2 := fun b w h => next_any b 2 3 0 2 w h (by omega) (by omega) (by omega) (by omega) (by omega) (by omega) (by omega)
  rw [show Win.rel 2 3 1 + 0 = 0 by decide, show Win.dl 2 3 1 + 0 = 2 by decide] at hn1
  rw [show Win.rel 2 3 2 + 0 = 1 by decide, show Win.dl 2 3 2 + 0 = 3 by decide] at hn2
  generalize Win.bit 2 3 1 = B1 at *
  generalize shG 0 (Win.grp 2 3 1) = G1 at *
  generalize Win.bit 2 3 2 = B2 at *
  generalize shG 0 (Win.grp 2 3 2) = G2 at *
  have HN1 := Lib.hid hn1
  have HN2 := Lib.hid hn2
  clear hn1 hn2
  go_enter Try.func14, Try.ntmps14
  go_upto_region 5 with (first
    | (go_at_call 16; (with_reducible refine (new_yes 2 3 0 _ (by omega) (by omega) (by omega) (by omega) (by omega)).mono ?_); rintro e w1 ⟨⟨b, gb, rfl, hsn⟩, hb1⟩; have S1 := Lib.hid hsn; have bs := hsn.2.2.2.2.2.2.2.2.2.2.2.2.2.2.2.2.2.2.2.2; clear hsn)
    | (go_at_call 17; (with_reducible refine (HN1.out b _ ?_).mono ?_); (focus (exact S1.out)); rintro e w2 ⟨rfl, hsn, ho2⟩; have S2 := Lib.hid hsn; clear hsn; have s2 := ho2.size))
  go_upto_region 6 with (go_at_call 17; (with_reducible refine (HN2.out b _ ?_).mono ?_); (focus (exact S2.out.keepb (by repeat' (first | (with_reducible exact Below.refl _ _) | (with_reducible refine Below.alloc ?_ ?_ _) | (with_reducible refine below_drewN ?_ _) | (with_reducible refine Below.drew ?_) | (with_reducible refine Below.setCell ?_ ?_ _) | omega | (simp; omega) | (simp; done))))); rintro e w3 ⟨rfl, hsn, ho3⟩; have S3 := Lib.hid hsn; clear hsn; have s_w3 := ho3.size; (try simp only [World.size_alloc, World.size_setCell, World.size_drew, sz_drewN] at s_w3); have z_w3_0_0 : w2.heap.size < w3.heap.size := (by omega); have z_w3_0_1 : w2.heap.size < w3.heap.size + 1 := (by omega); have z_w3_0_2 : w2.heap.size < w3.heap.size + 1 + 1 := (by omega); have q_w3_0_0 : w3.cell? ⟨w2.heap.size, 0, none⟩ = some (.int .i64 1) := (ho3.cell (p := ⟨w2.heap.size, 0, none⟩) (by first | (show w2.heap.size < _; omega) | (show w2.heap.size < _; simp; done) | (show w2.heap.size < _; simp; omega)) (by show w2.heap.size ≠ _; omega)).trans (by first | assumption | (go_simp; done)); have q_w3_0_1 : w3.cell? ⟨w2.heap.size, 1, none⟩ = some (.int .i64 0) := (ho3.cell (p := ⟨w2.heap.size, 1, none⟩) (by first | (show w2.heap.size < _; omega) | (show w2.heap.size < _; simp; done) | (show w2.heap.size < _; simp; omega)) (by show w2.heap.size ≠ _; omega)).trans (by first | assumption | (go_simp; done)); have q_w3_0_2 : w3.cell? ⟨w2.heap.size, 2, none⟩ = some (.int .i64 2) := (ho3.cell (p := ⟨w2.heap.size, 2, none⟩) (by first | (show w2.heap.size < _; omega) | (show w2.heap.size < _; simp; done) | (show w2.heap.size < _; simp; omega)) (by show w2.heap.size ≠ _; omega)).trans (by first | assumption | (go_simp; done)); have q_w3_0_3 : w3.cell? ⟨w2.heap.size, 3, none⟩ = some (.int .i64 B1) := (ho3.cell (p := ⟨w2.heap.size, 3, none⟩) (by first | (show w2.heap.size < _; omega) | (show w2.heap.size < _; simp; done) | (show w2.heap.size < _; simp; omega)) (by show w2.heap.size ≠ _; omega)).trans (by first | assumption | (go_simp; done)); have q_w3_0_4 : w3.cell? ⟨w2.heap.size, 4, none⟩ = some (.int .i64 G1) := (ho3.cell (p := ⟨w2.heap.size, 4, none⟩) (by first | (show w2.heap.size < _; omega) | (show w2.heap.size < _; simp; done) | (show w2.heap.size < _; simp; omega)) (by show w2.heap.size ≠ _; omega)).trans (by first | assumption | (go_simp; done)))
  go_wp2
  go_ret
  exact ⟨rfl, bel_only (b := b) (bel_only (b := b) (by have s0_ := hb1.size; (try simp only [World.size_alloc, World.size_setCell, World.size_drew, sz_drewN] at s0_); repeat' (first | (with_reducible exact Below.refl _ _) | (with_reducible refine bel_call ?_ ?_ hb1) | (with_reducible refine Below.alloc ?_ ?_ _) | (with_reducible refine below_drewN ?_ _) | (with_reducible refine Below.drew ?_) | (with_reducible refine Below.setCell ?_ ?_ _) | omega | (simp; omega) | (simp; done))) (by omega) (by omega) ho2 |>.alloc (by omega) _) (by simp; omega) (by omega) ho3 |>.alloc (by omega) _⟩
set_option maxHeartbeats 800000 in
theorem made5 (q0 q1 : Int) (w : World) :
    Calls Try.prog 15 #[.agg #[.int .i64 q0, .int .i64 q1]] w fun e w' => e = .returned (.agg #[.int .i64 (eOf q0 (pOf q1)), .int .i64 (pOf q1)]) ∧ Below w.heap.size w w' := by
  have hp := mask20 q1
  have b1 : 1 ≤ 1 + q1 % 1048576 := by omega
  have b2 : 1 + q1 % 1048576 ≤ 1048576 := by omega
  have b3 : 0 ≤ q0.tmod (1 + q1 % 1048576) + (1 + q1 % 1048576) := by
    have := Int.lt_tmod_of_pos q0 (b := 1 + q1 % 1048576) (by omega); omega
  have b4 : q0.tmod (1 + q1 % 1048576) + (1 + q1 % 1048576) ≤ 2097152 := by
    have := Int.tmod_lt_of_pos q0 (b := 1 + q1 % 1048576) (by omega); omega
  have b5 : 0 ≤ (q0.tmod (1 + q1 % 1048576) + (1 + q1 % 1048576)) % (1 + q1 % 1048576) := Int.emod_nonneg _ (by omega)
  have b6 : (q0.tmod (1 + q1 % 1048576) + (1 + q1 % 1048576)) % (1 + q1 % 1048576) ≤ 1048576 := by
    have := Int.emod_lt_of_pos (q0.tmod (1 + q1 % 1048576) + (1 + q1 % 1048576)) (b := 1 + q1 % 1048576) (by omega); omega
  have b7 := Int.emod_nonneg (q0.tmod (1 + q1 % 1048576)) (b := 1 + q1 % 1048576) (by omega)
  have b8 := Int.emod_lt_of_pos (q0.tmod (1 + q1 % 1048576)) (b := 1 + q1 % 1048576) (by omega)
  go_enter Try.func15, Try.ntmps15
  go_wp2
  exact bodyPost_ret (v := .agg #[.int .i64 (eOf q0 (pOf q1)), .int .i64 (pOf q1)]) (by simp [results, Try.results15, go_sem]; exact ⟨rfl, rfl⟩) rfl ⟨rfl, (by repeat' (first | (with_reducible exact Below.refl _ _) | (with_reducible refine Below.alloc ?_ ?_ _) | (with_reducible refine below_drewN ?_ _) | (with_reducible refine Below.drew ?_) | (with_reducible refine Below.setCell ?_ ?_ _) | omega | (simp; omega) | (simp; done)))⟩

theorem wrap_in' (n : Int) (h0 : -9223372036854775808 ≤ n) (h1 : n ≤ 9223372036854775807) : IntKind.i64.wrap n = n := IntWalk.i64_in n ⟨h0, h1⟩
theorem mask40 (x : Int) : bits .and .i64 x 1099511627775 = x % 1099511627776 := i64_mask 40 (by decide) x

theorem shG_mono {o g g' : Int} (h : g ≤ g') (h0 : 0 ≤ o) : shG o g ≤ shG o g' := by unfold shG; split <;> split <;> omega
theorem bit01 (E P n : Int) : 0 ≤ Win.bit E P n ∧ Win.bit E P n ≤ 1 := by unfold Win.bit; split <;> omega
/-- One subtask and the next one. -/
theorem chain (E P o n : Int) (e1 : 1 ≤ E) (e2 : E ≤ P) (e3 : P ≤ 1048576) (n0 : 1 ≤ n) (n1 : n + 1 ≤ 1099511627776) (o0 : 0 ≤ o) :
    Win.rel E P (n + 1) + o = Win.dl E P n + o - Win.bit E P n ∧ Win.dl E P n + o < Win.dl E P (n + 1) + o ∧ shG o (Win.grp E P n) ≤ shG o (Win.grp E P (n + 1)) ∧ (0 < shG o (Win.grp E P (n + 1)) → Win.dl E P (n + 1) + o ≤ shG o (Win.grp E P (n + 1))) := by
  have a := Win.next_rel E P n (by omega)
  have b := Win.dl_lt E P n (by omega) e2
  refine ⟨by omega, by omega, ?_, ?_⟩
  · by_cases h : P - E > E
    · have g1 : Win.grp E P n = 0 := if_pos h
      have g2 : Win.grp E P (n + 1) = 0 := if_pos h
      rw [g1, g2]; exact Int.le_refl _
    · exact shG_mono (Win.grp_mono E P n (by omega) e2 h) o0
  · intro hg
    by_cases h : P - E > E
    · have g2 : Win.grp E P (n + 1) = 0 := if_pos h
      rw [g2] at hg; simp [shG] at hg
    · have c := Win.grp_ge E P (n + 1) (by omega) e2 h
      have d := (sn_bd E P (n + 1) e1 e2 e3 (by omega) n1).2.2.1
      unfold shG at hg ⊢
      split at hg <;> split <;> omega
end Go.Proofs.Ytamonmhicjejoaa

