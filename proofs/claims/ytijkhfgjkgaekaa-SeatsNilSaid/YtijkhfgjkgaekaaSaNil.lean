/- The walk of the law SeatsNil. -/
import Derived.Test.YtijkhfgjkgaekaaSj
namespace Go.Proofs.Ytijkhfgjkgaekaa
open Go.RowKit Go.Conc
set_option linter.unusedVariables false
set_option linter.unusedSimpArgs false

set_option maxRecDepth 8000 in
set_option maxHeartbeats 6400000 in
theorem walk_SeatsNil (a0 : Int) (w : World) (_f0 : (Lit.int .i64 a0).wf = true) :
    Calls Try.prog 6 #[.int .i64 a0] w fun e w' => e = .returned (.bool true) ∧ Below w.heap.size w w' := by
  by_cases h : 1 ≤ a0 ∧ a0 ≤ 64
  · obtain ⟨h1, h2⟩ := h
    obtain ⟨n, rfl⟩ : ∃ n : Nat, a0 = n := ⟨a0.toNat, by omega⟩
    have hnew := fun w => snew_yes n w (by omega) (by omega)
    have HNEW := Lib.hid hnew
    clear hnew
    go_enter Try.func6, Try.ntmps6
    go_upto_region 3 with (go_at_call 8; (with_reducible refine (HNEW.out _).mono ?_); rintro e w1 ⟨q, c, d, rfl, hS1, gq, gc, gd, hb1⟩)
    go_upto_region 4 with (go_at_call 9; (with_reducible refine (take_nil _).mono ?_); rintro e w2 ⟨rfl, hb2⟩)
    go_wp2_with (first
      | (go_at_call 7; (with_reducible refine (awake17 _).mono ?_); rintro e w3 ⟨rfl, hb3⟩)
      | (go_at_call 10; (with_reducible refine (give_nil _ _).mono ?_); rintro e w4 ⟨rfl, hb4⟩)
      | (go_at_call 18; (with_reducible refine (taken_nil _ _).mono ?_); rintro e w5 ⟨rfl, hb5⟩)
      | (go_at_call 11; (with_reducible refine (left_nil _).mono ?_); rintro e w6 ⟨rfl, hb6⟩)
      | (go_at_call 12; (with_reducible refine (ids_nil _).mono ?_); rintro e w7 ⟨rfl, hb7⟩))
    go_ret
    exact ⟨rfl, (by have s0_ := hb1.size; have s1_ := hb2.size; have s2_ := hb3.size; have s3_ := hb4.size; have s4_ := hb5.size; have s5_ := hb6.size; have s6_ := hb7.size; (try simp only [World.size_alloc, World.size_setCell, World.size_drew, sz_drewN] at s0_ s1_ s2_ s3_ s4_ s5_ s6_); repeat' (first | (with_reducible exact Below.refl _ _) | (with_reducible refine bel_call ?_ ?_ hb7) | (with_reducible refine bel_call ?_ ?_ hb6) | (with_reducible refine bel_call ?_ ?_ hb5) | (with_reducible refine bel_call ?_ ?_ hb4) | (with_reducible refine bel_call ?_ ?_ hb3) | (with_reducible refine bel_call ?_ ?_ hb2) | (with_reducible refine bel_call ?_ ?_ hb1) | (with_reducible refine Below.alloc ?_ ?_ _) | (with_reducible refine below_drewN ?_ _) | (with_reducible refine Below.drew ?_) | (with_reducible refine Below.setCell ?_ ?_ _) | omega | (simp; omega) | (simp; done)))⟩
  · have hnew := fun w => snew_no a0 w (by omega)
    have HNEW := Lib.hid hnew
    clear hnew
    have hd : (decide (1 ≤ a0) && decide (a0 ≤ 64)) = false := by
      rw [← Bool.not_eq_true]; simp; omega
    go_enter Try.func6, Try.ntmps6
    go_upto_region 3 with (go_at_call 8; (with_reducible refine (HNEW.out _).mono ?_); rintro e w1 ⟨rfl, hb1⟩)
    go_upto_region 4 with (go_at_call 9; (with_reducible refine (take_nil _).mono ?_); rintro e w2 ⟨rfl, hb2⟩)
    rcases (show decide (1 ≤ a0) = false ∨ (decide (1 ≤ a0) = true ∧ decide (a0 ≤ 64) = false) by simp; omega) with h3 | ⟨h3, h4⟩
    all_goals
      go_wp2_with (first
        | (go_at_call 7; (with_reducible refine (awake17 _).mono ?_); rintro e w3 ⟨rfl, hb3⟩)
        | (go_at_call 10; (with_reducible refine (give_nil _ _).mono ?_); rintro e w4 ⟨rfl, hb4⟩)
        | (go_at_call 18; (with_reducible refine (taken_nil _ _).mono ?_); rintro e w5 ⟨rfl, hb5⟩)
        | (go_at_call 11; (with_reducible refine (left_nil _).mono ?_); rintro e w6 ⟨rfl, hb6⟩)
        | (go_at_call 12; (with_reducible refine (ids_nil _).mono ?_); rintro e w7 ⟨rfl, hb7⟩))
      go_ret
      exact ⟨rfl, (by have s0_ := hb1.size; have s1_ := hb2.size; have s2_ := hb3.size; have s3_ := hb4.size; have s4_ := hb5.size; have s5_ := hb6.size; have s6_ := hb7.size; (try simp only [World.size_alloc, World.size_setCell, World.size_drew, sz_drewN] at s0_ s1_ s2_ s3_ s4_ s5_ s6_); repeat' (first | (with_reducible exact Below.refl _ _) | (with_reducible refine bel_call ?_ ?_ hb7) | (with_reducible refine bel_call ?_ ?_ hb6) | (with_reducible refine bel_call ?_ ?_ hb5) | (with_reducible refine bel_call ?_ ?_ hb4) | (with_reducible refine bel_call ?_ ?_ hb3) | (with_reducible refine bel_call ?_ ?_ hb2) | (with_reducible refine bel_call ?_ ?_ hb1) | (with_reducible refine Below.alloc ?_ ?_ _) | (with_reducible refine below_drewN ?_ _) | (with_reducible refine Below.drew ?_) | (with_reducible refine Below.setCell ?_ ?_ _) | omega | (simp; omega) | (simp; done)))⟩
end Go.Proofs.Ytijkhfgjkgaekaa
