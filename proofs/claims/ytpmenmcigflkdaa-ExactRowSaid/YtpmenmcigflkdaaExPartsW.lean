/- The walk of the law ExactParts. -/
import Derived.Test.YtpmenmcigflkdaaExParts
namespace Go.Proofs.Ytpmenmcigflkdaa
open Go.RowKit
set_option linter.unusedVariables false
set_option linter.unusedSimpArgs false

theorem getD_take (z : List Int) (n i : Nat) (h : i < n) : (z.take n).getD i 0 = z.getD i 0 := by
  rw [List.getD_eq_getElem?_getD, List.getD_eq_getElem?_getD, List.getElem?_take_of_lt h]

theorem fits_wf {n : Int} (h : (Lit.int .i64 n).wf = true) : Fits n := by obtain ⟨a, b⟩ := bounds_i64 h; exact ⟨a, b⟩

set_option maxHeartbeats 3200000 in
theorem walk_ExactParts (a0 a1 : Int) (a2 : Option Addr) (len2 cap2 : Nat) (z2 : List Int) (w : World) (f0 : (Lit.int .i64 a0).wf = true) (f1 : (Lit.int .i64 a1).wf = true) (f2 : IsRow .i64 w a2 len2 cap2 z2) :
    Calls Try.prog 3 #[.int .i64 a0, .int .i64 a1, .slice a2 len2 cap2] w fun e w' => e = .returned (.bool true) ∧ Below w.heap.size w w' := by
  have h1 := fun w => floor_every a0 a1 w (fits_wf f0) (fits_wf f1)
  have h2 := fun w => rfloor_every a0 a1 w (fits_wf f0) (fits_wf f1)
  have h3 := fun w => ceil_every a0 a1 w (fits_wf f0) (fits_wf f1)
  have h4 := fun w => rceil_every a0 a1 w (fits_wf f0) (fits_wf f1)
  have h5 := fun w => gcd_any a0 a1 w (fits_wf f0) (fits_wf f1)
  have h6 := fun w => rgcd_any a0 a1 w (fits_wf f0) (fits_wf f1)
  generalize partS (a0 / a1) a1 = p1 at *
  generalize partS (Win.up a0 a1) a1 = p2 at *
  generalize gcdS a0 a1 = p3 at *
  obtain ⟨p11, p12⟩ := p1
  obtain ⟨p21, p22⟩ := p2
  obtain ⟨p31, p32⟩ := p3
  have H0 := Lib.hid awake01
  have H1 := Lib.hid h1
  have H2 := Lib.hid h2
  have H3 := Lib.hid h3
  have H4 := Lib.hid h4
  have H5 := Lib.hid h5
  have H6 := Lib.hid h6
  clear h1 h2 h3 h4 h5 h6 f0 f1
  by_cases z : len2 = 0
  · subst z
    clear f2
    go_enter Try.func3, Try.ntmps3
    go_wp2_with (first
      | (go_at_call 15; (with_reducible refine (H0.out _).mono ?_); rintro e w1 ⟨rfl, hb1⟩; have s_w1 := hb1.size; (try simp only [World.size_alloc, World.size_setCell, World.size_drew, sz_drewN] at s_w1))
      | (go_at_call 16; (with_reducible refine (H1.out _).mono ?_); rintro e w2 ⟨rfl, rfl⟩)
      | (go_at_call 17; (with_reducible refine (H2.out _).mono ?_); rintro e w2 ⟨rfl, rfl⟩)
      | (go_at_call 18; (with_reducible refine (H3.out _).mono ?_); rintro e w2 ⟨rfl, rfl⟩)
      | (go_at_call 19; (with_reducible refine (H4.out _).mono ?_); rintro e w2 ⟨rfl, rfl⟩)
      | (go_at_call 20; (with_reducible refine (H5.out _).mono ?_); rintro e w2 ⟨rfl, hb2⟩; have s_w2 := hb2.size; (try simp only [World.size_alloc, World.size_setCell, World.size_drew, sz_drewN] at s_w2))
      | (go_at_call 21; (with_reducible refine (H6.out _).mono ?_); rintro e w3 ⟨rfl, hb3⟩; have s_w3 := hb3.size; (try simp only [World.size_alloc, World.size_setCell, World.size_drew, sz_drewN] at s_w3))
      | (go_at_call 22; (with_reducible refine (lcm_empty _ _ _).mono ?_); rintro e w4 ⟨rfl, hb4⟩; have s_w4 := hb4.size; (try simp only [World.size_alloc, World.size_setCell, World.size_drew, sz_drewN] at s_w4))
      | (go_at_call 23; (with_reducible refine (rlcm_empty _ _ _).mono ?_); rintro e w5 ⟨rfl, hb5⟩; have s_w5 := hb5.size; (try simp only [World.size_alloc, World.size_setCell, World.size_drew, sz_drewN] at s_w5)))
    go_ret
    exact ⟨by first | rfl | simp [*], (by have s0_ := hb1.size; have s1_ := hb2.size; have s2_ := hb3.size; have s3_ := hb4.size; have s4_ := hb5.size; (try simp only [World.size_alloc, World.size_setCell, World.size_drew, sz_drewN] at s0_ s1_ s2_ s3_ s4_); repeat' (first | (with_reducible exact Below.refl _ _) | (with_reducible refine bel_call ?_ ?_ hb5) | (with_reducible refine bel_call ?_ ?_ hb4) | (with_reducible refine bel_call ?_ ?_ hb3) | (with_reducible refine bel_call ?_ ?_ hb2) | (with_reducible refine bel_call ?_ ?_ hb1) | (with_reducible refine Below.alloc ?_ ?_ _) | (with_reducible refine below_drewN ?_ _) | (with_reducible refine Below.drew ?_) | (with_reducible refine Below.setCell ?_ ?_ _) | omega | (simp; omega) | (simp; done)))⟩
  · obtain ⟨x, rfl, hl, hm, hz, hc, hw, hx⟩ : ∃ x, a2 = some x ∧ len2 ≤ cap2 ∧ cap2 ≤ maxLen ∧ z2.length = cap2 ∧ (∀ i, i < z2.length → w.cell? (x.add i) = some (.int .i64 (z2.getD i 0))) ∧ (∀ n ∈ z2, (Lit.int .i64 n).wf = true) ∧ (0 < cap2 → x.block < w.heap.size) := by
      rcases f2 with ⟨_, h, _⟩ | h
      · exact absurd h z
      · exact h
    have hxb : x.block < w.heap.size := hx (by omega)
    have hmx : len2 ≤ 9223372036854775807 := by have : maxLen ≤ 9223372036854775807 := by decide
                                                omega
    have key : ∀ n, n ≤ len2 → ∀ w1, Below w.heap.size w w1 → (∃ q1 q2 : Int, (∀ cap w2, Below w.heap.size w w2 → Calls Try.prog 22 #[.slice (some x) n cap] w2 fun e w' => e = .returned (.tuple #[.int .i64 q1, .int .i64 q2]) ∧ Below w2.heap.size w2 w') ∧ (∀ cap w2, Below w.heap.size w w2 → Calls Try.prog 23 #[.slice (some x) n cap] w2 fun e w' => e = .returned (.tuple #[.int .i64 q1, .int .i64 q2]) ∧ Below w2.heap.size w2 w')) := by
      intro n hn w1 _
      have g1 : (z2.take n).length = n := by rw [List.length_take]; omega
      have g2 : ∀ w2, Below w.heap.size w w2 → ∀ i, i < n → w2.cell? (x.add i) = some (.int .i64 ((z2.take n).getD i 0)) := fun w2 hb i hi => by
        rw [getD_take _ _ _ hi]
        exact (hb.cell (p := x.add i) (by rw [add_block]; exact hxb)).trans (hc i (by omega))
      have g3 : ∀ i, i < n → Fits ((z2.take n).getD i 0) := fun i hi => by
        rw [getD_take _ _ _ hi, List.getD_eq_getElem?_getD, List.getElem?_eq_getElem (by omega)]
        exact fits_wf (hw _ (List.getElem_mem _))
      exact ⟨_, _, fun cap w2 hb => lcm_row x n cap (z2.take n) w2 (Nat.lt_of_lt_of_le hxb hb.size) g1 (by omega) (g2 w2 hb) g3, fun cap w2 hb => rlcm_row x n cap (z2.take n) w2 (Nat.lt_of_lt_of_le hxb hb.size) g1 (by omega) (g2 w2 hb) g3⟩
    by_cases h8 : len2 ≤ 8
    · obtain ⟨q1, q2, k1, k2⟩ := key len2 (Nat.le_refl _) w (Below.refl _ _)
      have K1 := Lib.hid k1
      have K2 := Lib.hid k2
      clear k1 k2 key hc hw hx
      go_enter Try.func3, Try.ntmps3
      go_wp2_with (first
        | (go_at_call 15; (with_reducible refine (H0.out _).mono ?_); rintro e w1 ⟨rfl, hb1⟩; have s_w1 := hb1.size; (try simp only [World.size_alloc, World.size_setCell, World.size_drew, sz_drewN] at s_w1))
        | (go_at_call 16; (with_reducible refine (H1.out _).mono ?_); rintro e w2 ⟨rfl, rfl⟩)
        | (go_at_call 17; (with_reducible refine (H2.out _).mono ?_); rintro e w2 ⟨rfl, rfl⟩)
        | (go_at_call 18; (with_reducible refine (H3.out _).mono ?_); rintro e w2 ⟨rfl, rfl⟩)
        | (go_at_call 19; (with_reducible refine (H4.out _).mono ?_); rintro e w2 ⟨rfl, rfl⟩)
        | (go_at_call 20; (with_reducible refine (H5.out _).mono ?_); rintro e w2 ⟨rfl, hb2⟩; have s_w2 := hb2.size; (try simp only [World.size_alloc, World.size_setCell, World.size_drew, sz_drewN] at s_w2))
        | (go_at_call 21; (with_reducible refine (H6.out _).mono ?_); rintro e w3 ⟨rfl, hb3⟩; have s_w3 := hb3.size; (try simp only [World.size_alloc, World.size_setCell, World.size_drew, sz_drewN] at s_w3))
        | (go_at_call 22; refine (K1.out _ _ (by have s0_ := hb1.size; have s1_ := hb2.size; have s2_ := hb3.size; (try simp only [World.size_alloc, World.size_setCell, World.size_drew, sz_drewN] at s0_ s1_ s2_); repeat' (first | (with_reducible exact Below.refl _ _) | (with_reducible refine bel_call ?_ ?_ hb3) | (with_reducible refine bel_call ?_ ?_ hb2) | (with_reducible refine bel_call ?_ ?_ hb1) | (with_reducible refine Below.alloc ?_ ?_ _) | (with_reducible refine below_drewN ?_ _) | (with_reducible refine Below.drew ?_) | (with_reducible refine Below.setCell ?_ ?_ _) | omega | (simp; omega) | (simp; done)))).mono ?_; rintro e w4 ⟨rfl, hb4⟩; have s_w4 := hb4.size; (try simp only [World.size_alloc, World.size_setCell, World.size_drew, sz_drewN] at s_w4))
        | (go_at_call 23; refine (K2.out _ _ (by have s0_ := hb1.size; have s1_ := hb2.size; have s2_ := hb3.size; have s3_ := hb4.size; (try simp only [World.size_alloc, World.size_setCell, World.size_drew, sz_drewN] at s0_ s1_ s2_ s3_); repeat' (first | (with_reducible exact Below.refl _ _) | (with_reducible refine bel_call ?_ ?_ hb4) | (with_reducible refine bel_call ?_ ?_ hb3) | (with_reducible refine bel_call ?_ ?_ hb2) | (with_reducible refine bel_call ?_ ?_ hb1) | (with_reducible refine Below.alloc ?_ ?_ _) | (with_reducible refine below_drewN ?_ _) | (with_reducible refine Below.drew ?_) | (with_reducible refine Below.setCell ?_ ?_ _) | omega | (simp; omega) | (simp; done)))).mono ?_; rintro e w5 ⟨rfl, hb5⟩; have s_w5 := hb5.size; (try simp only [World.size_alloc, World.size_setCell, World.size_drew, sz_drewN] at s_w5)))
      go_ret
      exact ⟨by first | rfl | simp [*], (by have s0_ := hb1.size; have s1_ := hb2.size; have s2_ := hb3.size; have s3_ := hb4.size; have s4_ := hb5.size; (try simp only [World.size_alloc, World.size_setCell, World.size_drew, sz_drewN] at s0_ s1_ s2_ s3_ s4_); repeat' (first | (with_reducible exact Below.refl _ _) | (with_reducible refine bel_call ?_ ?_ hb5) | (with_reducible refine bel_call ?_ ?_ hb4) | (with_reducible refine bel_call ?_ ?_ hb3) | (with_reducible refine bel_call ?_ ?_ hb2) | (with_reducible refine bel_call ?_ ?_ hb1) | (with_reducible refine Below.alloc ?_ ?_ _) | (with_reducible refine below_drewN ?_ _) | (with_reducible refine Below.drew ?_) | (with_reducible refine Below.setCell ?_ ?_ _) | omega | (simp; omega) | (simp; done)))⟩
    · obtain ⟨q1, q2, k1, k2⟩ := key 8 (by omega) w (Below.refl _ _)
      have K1 := Lib.hid k1
      have K2 := Lib.hid k2
      clear k1 k2 key hc hw hx
      go_enter Try.func3, Try.ntmps3
      go_wp2_with (first
        | (go_at_call 15; (with_reducible refine (H0.out _).mono ?_); rintro e w1 ⟨rfl, hb1⟩; have s_w1 := hb1.size; (try simp only [World.size_alloc, World.size_setCell, World.size_drew, sz_drewN] at s_w1))
        | (go_at_call 16; (with_reducible refine (H1.out _).mono ?_); rintro e w2 ⟨rfl, rfl⟩)
        | (go_at_call 17; (with_reducible refine (H2.out _).mono ?_); rintro e w2 ⟨rfl, rfl⟩)
        | (go_at_call 18; (with_reducible refine (H3.out _).mono ?_); rintro e w2 ⟨rfl, rfl⟩)
        | (go_at_call 19; (with_reducible refine (H4.out _).mono ?_); rintro e w2 ⟨rfl, rfl⟩)
        | (go_at_call 20; (with_reducible refine (H5.out _).mono ?_); rintro e w2 ⟨rfl, hb2⟩; have s_w2 := hb2.size; (try simp only [World.size_alloc, World.size_setCell, World.size_drew, sz_drewN] at s_w2))
        | (go_at_call 21; (with_reducible refine (H6.out _).mono ?_); rintro e w3 ⟨rfl, hb3⟩; have s_w3 := hb3.size; (try simp only [World.size_alloc, World.size_setCell, World.size_drew, sz_drewN] at s_w3))
        | (go_at_call 22; refine (K1.out _ _ (by have s0_ := hb1.size; have s1_ := hb2.size; have s2_ := hb3.size; (try simp only [World.size_alloc, World.size_setCell, World.size_drew, sz_drewN] at s0_ s1_ s2_); repeat' (first | (with_reducible exact Below.refl _ _) | (with_reducible refine bel_call ?_ ?_ hb3) | (with_reducible refine bel_call ?_ ?_ hb2) | (with_reducible refine bel_call ?_ ?_ hb1) | (with_reducible refine Below.alloc ?_ ?_ _) | (with_reducible refine below_drewN ?_ _) | (with_reducible refine Below.drew ?_) | (with_reducible refine Below.setCell ?_ ?_ _) | omega | (simp; omega) | (simp; done)))).mono ?_; rintro e w4 ⟨rfl, hb4⟩; have s_w4 := hb4.size; (try simp only [World.size_alloc, World.size_setCell, World.size_drew, sz_drewN] at s_w4))
        | (go_at_call 23; refine (K2.out _ _ (by have s0_ := hb1.size; have s1_ := hb2.size; have s2_ := hb3.size; have s3_ := hb4.size; (try simp only [World.size_alloc, World.size_setCell, World.size_drew, sz_drewN] at s0_ s1_ s2_ s3_); repeat' (first | (with_reducible exact Below.refl _ _) | (with_reducible refine bel_call ?_ ?_ hb4) | (with_reducible refine bel_call ?_ ?_ hb3) | (with_reducible refine bel_call ?_ ?_ hb2) | (with_reducible refine bel_call ?_ ?_ hb1) | (with_reducible refine Below.alloc ?_ ?_ _) | (with_reducible refine below_drewN ?_ _) | (with_reducible refine Below.drew ?_) | (with_reducible refine Below.setCell ?_ ?_ _) | omega | (simp; omega) | (simp; done)))).mono ?_; rintro e w5 ⟨rfl, hb5⟩; have s_w5 := hb5.size; (try simp only [World.size_alloc, World.size_setCell, World.size_drew, sz_drewN] at s_w5)))
      go_ret
      exact ⟨by first | rfl | simp [*], (by have s0_ := hb1.size; have s1_ := hb2.size; have s2_ := hb3.size; have s3_ := hb4.size; have s4_ := hb5.size; (try simp only [World.size_alloc, World.size_setCell, World.size_drew, sz_drewN] at s0_ s1_ s2_ s3_ s4_); repeat' (first | (with_reducible exact Below.refl _ _) | (with_reducible refine bel_call ?_ ?_ hb5) | (with_reducible refine bel_call ?_ ?_ hb4) | (with_reducible refine bel_call ?_ ?_ hb3) | (with_reducible refine bel_call ?_ ?_ hb2) | (with_reducible refine bel_call ?_ ?_ hb1) | (with_reducible refine Below.alloc ?_ ?_ _) | (with_reducible refine below_drewN ?_ _) | (with_reducible refine Below.drew ?_) | (with_reducible refine Below.setCell ?_ ?_ _) | omega | (simp; omega) | (simp; done)))⟩
end Go.Proofs.Ytpmenmcigflkdaa
