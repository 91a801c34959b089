/- The walk of the law WindowNext. -/
import Derived.Test.YtamonmhicjejoaaWc
import Derived.Lib.Hide
namespace Go.Proofs.Ytamonmhicjejoaa
open Go.RowKit

theorem masked39 (x : Int) : ∃ n, bits .and .i64 x 549755813887 = n ∧ 0 ≤ n ∧ n ≤ 549755813887 := ⟨_, mask39 x, by omega, by omega⟩
theorem wrap_in (n : Int) (h0 : -9223372036854775808 ≤ n) (h1 : n ≤ 9223372036854775807) : IntKind.i64.wrap n = n := IntWalk.i64_in n ⟨h0, h1⟩

set_option maxHeartbeats 3200000 in
theorem walk_WindowNext (a00 a01 a1 : Int) (w : World) (_f00 : (Lit.int .i64 a00).wf = true) (_f01 : (Lit.int .i64 a01).wf = true) (_f1 : (Lit.int .i64 a1).wf = true) :
    Calls Try.prog 12 #[.agg #[.int .i64 a00, .int .i64 a01], .int .i64 a1] w fun e w' => e = .returned (.bool true) ∧ Below w.heap.size w w' := by
  obtain ⟨e3, p2⟩ := pOf_bd a01
  obtain ⟨e1, e2⟩ := eOf_bd a00 (pOf a01) e3
  have hm := fun w => made_any a00 a01 w
  generalize eOf a00 (pOf a01) = E at *
  generalize pOf a01 = P at *
  obtain ⟨n, hn, n0, n1⟩ := masked39 a1
  have i1 : 1 ≤ 1 + n := by omega
  have i2 : 1 + n ≤ 1099511627776 := by omega
  have j1 : 1 ≤ 1 + n + 1 := by omega
  have j2 : 1 + n + 1 ≤ 1099511627776 := by omega
  have k1 : (1 : Int) ≤ 1 := by omega
  have k2 : (1 : Int) ≤ 1099511627776 := by omega
  obtain ⟨b1, b2, b3⟩ := long_bd E P (1 + n) e1 e2 p2 i1 i2
  have F1 : (Win.rel E P (1 + n + 1) == IntKind.i64.wrap (Win.dl E P (1 + n) - Win.bit E P (1 + n))) = true := by
    have h := Win.next_rel E P (1 + n) (by omega)
    have h2 : Win.bit E P (1 + n) = 0 ∨ Win.bit E P (1 + n) = 1 := by unfold Win.bit; split <;> simp
    rw [wrap_in _ (by omega) (by omega), h]; simp
  have F2 : Win.rel E P (1 + n) < Win.dl E P (1 + n) := Win.rel_lt_dl E P (1 + n) (by omega) (by omega)
  have F3 : ((Win.dl E P (1 + n) - Win.rel E P (1 + n)) == IntKind.i64.wrap (Win.dl E P (1 + n) - Win.rel E P (1 + n))) = true := by
    rw [wrap_in _ (by omega) (by omega)]; simp
  have F4 : (Win.rel E P 1 == 0) = true := by unfold Win.rel; simp
  have F5 : Win.dl E P (1 + n) < Win.dl E P (1 + n + 1) := Win.dl_lt E P (1 + n) (by omega) e2
  have HM := Lib.hid hm
  clear hm
  go_enter Try.func12, Try.ntmps12
  go_wp2_with (first
    | (go_at_call 24; refine (awake04 _).mono ?_; rintro e w1 ⟨rfl, hb1⟩; have s_w1 := hb1.size; (try simp only [World.size_alloc, World.size_setCell, World.size_drew, sz_drewN] at s_w1); have z_w1_0_0 : w.heap.size < w1.heap.size := (by omega); have z_w1_0_1 : w.heap.size < w1.heap.size + 1 := (by omega); have z_w1_0_2 : w.heap.size < w1.heap.size + 1 + 1 := (by omega); have q_w1_0_0 : w1.cell? ⟨w.heap.size, 0, none⟩ = some (.int .i64 a00) := (hb1.cell (p := ⟨w.heap.size, 0, none⟩) (by first | (show w.heap.size < _; omega) | (show w.heap.size < _; simp; done) | (show w.heap.size < _; simp; omega))).trans (by first | assumption | (go_simp; done)); have q_w1_0_1 : w1.cell? ⟨w.heap.size, 1, none⟩ = some (.int .i64 a01) := (hb1.cell (p := ⟨w.heap.size, 1, none⟩) (by first | (show w.heap.size < _; omega) | (show w.heap.size < _; simp; done) | (show w.heap.size < _; simp; omega))).trans (by first | assumption | (go_simp; done)))
    | (go_at_call 25; refine (HM.out _).mono ?_; rintro e w2 ⟨rfl, hb2⟩; have s_w2 := hb2.size; (try simp only [World.size_alloc, World.size_setCell, World.size_drew, sz_drewN] at s_w2)))
  have W1 : IntKind.i64.wrap (1 + n + 1) = 1 + n + 1 := wrap_in _ (by omega) (by omega)
  go_region_held3 (fun x => Below (w2.alloc (.cells #[.int .i64 E, .int .i64 P] 25)).heap.size (w2.alloc (.cells #[.int .i64 E, .int .i64 P] 25)) x ∧ (∀ b o, b < (w2.alloc (.cells #[.int .i64 E, .int .i64 P] 25)).heap.size → x.cell? ⟨b, o, none⟩ = (w2.alloc (.cells #[.int .i64 E, .int .i64 P] 25)).cell? ⟨b, o, none⟩) ∧ (∀ b o, b < (w2.alloc (.cells #[.int .i64 E, .int .i64 P] 25)).heap.size → x.frozen? ⟨b, o, none⟩ = (w2.alloc (.cells #[.int .i64 E, .int .i64 P] 25)).frozen? ⟨b, o, none⟩)) ((first | (simp only [mark_set]; refine held_of ?_; repeat' (first | (with_reducible exact (by with_reducible assumption : Below _ _ _ ∧ _).1) | (with_reducible refine below_setc ?_ ?_) | omega | (simp; done) | (simp; omega))) | (with_reducible exact held_of ((by with_reducible assumption : Below _ _ _ ∧ _).1.trans (hb.mono (by with_reducible assumption : Below _ _ _ ∧ _).1.size))) | (with_reducible exact held_of (Below.drew (Below.refl _ _))) | (with_reducible exact held_of ((by with_reducible assumption : Below _ _ _ ∧ _).1.alloc (by with_reducible assumption : Below _ _ _ ∧ _).1.size _)) | (with_reducible exact held_of (below_realloc hz (by with_reducible assumption : Below _ _ (World.alloc _ _) ∧ _).1)))) (first
    | (go_at_call 29; (first | ((with_reducible refine (Release_any E P (1 + n + 1) _ e1 e2 p2 j1 j2).mono ?_)) | ((with_reducible refine (Release_any E P (1 + n) _ e1 e2 p2 i1 i2).mono ?_)) | ((with_reducible refine (Release_any E P 1 _ e1 e2 p2 k1 k2).mono ?_))); rintro e w1 ⟨rfl, hb⟩)
    | (go_at_call 28; (first | ((with_reducible refine (Deadline_any E P (1 + n + 1) _ e1 e2 p2 j1 j2).mono ?_)) | ((with_reducible refine (Deadline_any E P (1 + n) _ e1 e2 p2 i1 i2).mono ?_))); rintro e w1 ⟨rfl, hb⟩)
    | (go_at_call 30; (with_reducible refine (Bit_any E P (1 + n) _ e1 e2 p2 i1 i2).mono ?_); rintro e w1 ⟨rfl, hb⟩)
    | (go_at_call 33; (with_reducible refine (Long_any E P (1 + n) _ e1 e2 p2 i1 i2).mono ?_); rintro e w1 ⟨rfl, hb⟩))
  clear W1
  go_wp2
  go_ret
  exact ⟨rfl, bel_call (w := w2.alloc (.cells #[.int .i64 E, .int .i64 P] 25)) (by have s0_ := hb1.size; have s1_ := hb2.size; (try simp only [World.size_alloc, World.size_setCell, World.size_drew, sz_drewN] at s0_ s1_); repeat' (first | (with_reducible exact Below.refl _ _) | (with_reducible refine bel_call ?_ ?_ hb2) | (with_reducible refine bel_call ?_ ?_ hb1) | (with_reducible refine Below.alloc ?_ ?_ _) | (with_reducible refine below_drewN ?_ _) | (with_reducible refine Below.drew ?_) | (with_reducible refine Below.setCell ?_ ?_ _) | omega | (simp; omega) | (simp; done))) (by simp; omega) (by assumption : Below _ _ _ ∧ _).1⟩
end Go.Proofs.Ytamonmhicjejoaa
