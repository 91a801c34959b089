/- Contracts of the seats: what is asked of none; the chapter's example. -/
import Derived.Test.YtijkhfgjkgaekaaSi
namespace Go.Proofs.Ytijkhfgjkgaekaa
open Go.RowKit Go.Conc
set_option linter.unusedVariables false
set_option linter.unusedSimpArgs false

set_option maxHeartbeats 1600000 in
theorem there_nil (k : Int) (w : World) : Calls Try.prog 20 #[.pointer none, .int .i64 k] w fun e w' => e = .returned (.bool false) ∧ Below w.heap.size w w' := by
  go_enter Try.func20, Try.ntmps20
  go_wp2
  go_ret
  exact ⟨rfl, (by repeat' (first | (with_reducible exact Below.refl _ _) | (with_reducible refine Below.alloc ?_ ?_ _) | (with_reducible refine below_drewN ?_ _) | (with_reducible refine Below.drew ?_) | (with_reducible refine Below.setCell ?_ ?_ _) | omega | (simp; omega) | (simp; done)))⟩
set_option maxHeartbeats 1600000 in
theorem give_nil (k : Int) (w : World) : Calls Try.prog 10 #[.pointer none, .int .i64 k] w fun e w' => e = .returned (.int .i64 1) ∧ Below w.heap.size w w' := by
  go_enter Try.func10, Try.ntmps10
  go_wp2_with (go_at_call 20; (with_reducible refine (there_nil _ _).mono ?_); rintro e w1 ⟨rfl, hb1⟩)
  go_ret
  exact ⟨rfl, (by have s0_ := hb1.size; (try simp only [World.size_alloc, World.size_setCell, World.size_drew, sz_drewN] at s0_); repeat' (first | (with_reducible exact Below.refl _ _) | (with_reducible refine bel_call ?_ ?_ hb1) | (with_reducible refine Below.alloc ?_ ?_ _) | (with_reducible refine below_drewN ?_ _) | (with_reducible refine Below.drew ?_) | (with_reducible refine Below.setCell ?_ ?_ _) | omega | (simp; omega) | (simp; done)))⟩
set_option maxHeartbeats 1600000 in
theorem taken_nil (k : Int) (w : World) : Calls Try.prog 18 #[.pointer none, .int .i64 k] w fun e w' => e = .returned (.bool false) ∧ Below w.heap.size w w' := by
  go_enter Try.func18, Try.ntmps18
  go_wp2_with (go_at_call 20; (with_reducible refine (there_nil _ _).mono ?_); rintro e w1 ⟨rfl, hb1⟩)
  go_ret
  exact ⟨rfl, (by have s0_ := hb1.size; (try simp only [World.size_alloc, World.size_setCell, World.size_drew, sz_drewN] at s0_); repeat' (first | (with_reducible exact Below.refl _ _) | (with_reducible refine bel_call ?_ ?_ hb1) | (with_reducible refine Below.alloc ?_ ?_ _) | (with_reducible refine below_drewN ?_ _) | (with_reducible refine Below.drew ?_) | (with_reducible refine Below.setCell ?_ ?_ _) | omega | (simp; omega) | (simp; done)))⟩
set_option maxHeartbeats 1600000 in
theorem left_nil (w : World) : Calls Try.prog 11 #[.pointer none] w fun e w' => e = .returned (.int .i64 0) ∧ Below w.heap.size w w' := by
  go_enter Try.func11, Try.ntmps11
  go_wp2
  go_ret
  exact ⟨rfl, (by repeat' (first | (with_reducible exact Below.refl _ _) | (with_reducible refine Below.alloc ?_ ?_ _) | (with_reducible refine below_drewN ?_ _) | (with_reducible refine Below.drew ?_) | (with_reducible refine Below.setCell ?_ ?_ _) | omega | (simp; omega) | (simp; done)))⟩
set_option maxHeartbeats 1600000 in
theorem ids_nil (w : World) : Calls Try.prog 12 #[.pointer none] w fun e w' => e = .returned (.slice none 0 0) ∧ Below w.heap.size w w' := by
  go_enter Try.func12, Try.ntmps12
  go_wp2
  go_ret
  exact ⟨rfl, (by repeat' (first | (with_reducible exact Below.refl _ _) | (with_reducible refine Below.alloc ?_ ?_ _) | (with_reducible refine below_drewN ?_ _) | (with_reducible refine Below.drew ?_) | (with_reducible refine Below.setCell ?_ ?_ _) | omega | (simp; omega) | (simp; done)))⟩
set_option maxRecDepth 8000 in
set_option maxHeartbeats 1600000 in
theorem take_nil (w : World) : Calls Try.prog 9 #[.pointer none] w fun e w' => e = .returned (.tuple #[.int .i64 0, .int .i64 1]) ∧ Below w.heap.size w w' := by
  go_enter Try.func9, Try.ntmps9
  go_wp2
  exact bodyPost_ret (v := .tuple #[.int .i64 0, .int .i64 1]) (by simp only [results, Try.results9]; go_simp) rfl ⟨rfl, (by repeat' (first | (with_reducible exact Below.refl _ _) | (with_reducible refine Below.alloc ?_ ?_ _) | (with_reducible refine below_drewN ?_ _) | (with_reducible refine Below.drew ?_) | (with_reducible refine Below.setCell ?_ ?_ _) | omega | (simp; omega) | (simp; done)))⟩

/-- Below a call's own new blocks nothing turns. -/
theorem bel_keeps {B : Nat} {a w w1 : World} {c d : Nat} (h : Below B a w) (hs : B ≤ w.heap.size) (hc : B ≤ c) (hd : B ≤ d) (k : Keeps (fun b => b = c ∨ b = d) w w1) : Below B a w1 :=
  h.trans (k.to_below hs (fun j hj h => by rcases h with h | h <;> omega))

set_option maxRecDepth 8000 in
set_option maxHeartbeats 6400000 in
theorem awake17 (w : World) : Calls Try.prog 7 #[] w fun e w' => e = .returned (.bool true) ∧ Below w.heap.size w w' := by
  go_enter Try.func7, Try.ntmps7
  go_upto_region 4 with (go_at_call 8; (refine (snew_yes 2 _ (by omega) (by omega)).mono ?_); rintro e w1 ⟨q, c, d, rfl, hS1, gq, gc, gd, hb1⟩; have s1 := hb1.size)
  go_upto_region 5 with (go_at_call 9; (refine (take_some q c d 2 0 [1] _ _ hS1 (by omega)).mono ?_); rintro e w2 ⟨rfl, hS2, hk2⟩; have hb2 := bel_keeps hb1 s1 gc gd hk2; have s2 := hb2.size)
  go_upto_region 6 with (go_at_call 9; (refine (take_some q c d 2 1 [] _ _ hS2 (by omega)).mono ?_); rintro e w3 ⟨rfl, hS3, hk3⟩; have hb3 := bel_keeps hb2 s2 gc gd hk3; have s3 := hb3.size)
  go_upto_region 7 with (go_at_call 9; (refine (take_none q c d 2 _ _ hS3).mono ?_); rintro e w4 ⟨rfl, hk4⟩; have hS4 := hS3.keepb hk4; have hb4 := bel_call hb3 s3 hk4; have s4 := hb4.size)
  go_upto_region 8 with (go_at_call 10; (refine (give_yes q c d 2 1 [] _ _ hS4 (by omega) rfl (by simp)).mono ?_); rintro e w5 ⟨rfl, hS5, hk5⟩; have hb5 := bel_keeps hb4 s4 gc gd hk5; have s5 := hb5.size)
  go_upto_region 9 with (go_at_call 10; (refine (give_yes q c d 2 0 [1] _ _ hS5 (by omega) rfl (by simp)).mono ?_); rintro e w6 ⟨rfl, hS6, hk6⟩; have hb6 := bel_keeps hb5 s5 gc gd hk6; have s6 := hb6.size)
  go_upto_region 10 with (go_at_call 9; (refine (take_some q c d 2 1 [0] _ _ hS6 (by omega)).mono ?_); rintro e w7 ⟨rfl, hS7, hk7⟩; have hb7 := bel_keeps hb6 s6 gc gd hk7)
  go_wp2
  go_ret
  exact ⟨rfl, hb7⟩
end Go.Proofs.Ytijkhfgjkgaekaa
