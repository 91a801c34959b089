/- Contract of the task's closure 'late'. -/
import Derived.Test.YtkmgkggkdmlkeaaTk
namespace Go.Proofs.Ytkmgkggkdmlkeaa
open Go.RowKit
set_option linter.unusedVariables false
set_option linter.unusedSimpArgs false

theorem held_sn {W x : World} {b : Nat} {E P off n : Int} (h : Below W.heap.size W x ∧ (∀ b o, b < W.heap.size → x.cell? ⟨b, o, none⟩ = W.cell? ⟨b, o, none⟩) ∧ (∀ b o, b < W.heap.size → x.frozen? ⟨b, o, none⟩ = W.frozen? ⟨b, o, none⟩)) (hs : Sn W b E P off n) : Sn x b E P off n := hs.keepb h.1

theorem field1 (x0 x1 x2 x3 x4 : Int) (w : World) : (Instr.field 33 (.agg #[.int .i64 x0, .int .i64 x1, .int .i64 x2, .int .i64 x3, .int .i64 x4]) 1).run Try.prog w = .ok (.int .i64 x1) w := by
  kernel_rfl

set_option maxHeartbeats 1600000 in
theorem late_any (A Tb t s : Nat) (E P off i a : Int) (w : World) (hA : w.cell? ⟨A, 0, none⟩ = some (.int .i64 a)) (hT : w.cell? ⟨Tb, 0, none⟩ = some (.pointer (some ⟨t, 0, none⟩))) (h4 : w.cell? ⟨t, 4, none⟩ = some (.pointer (some ⟨s, 0, none⟩)))
    (sA : A < w.heap.size) (sT : Tb < w.heap.size) (st : t < w.heap.size) (hs : Sn w s E P off i) (e1 : 1 ≤ E) (e2 : E ≤ P) (e3 : P ≤ 1048576) (i1 : 1 ≤ i) (i2 : i ≤ 1099511627776) (o0 : 0 ≤ off) (o1 : off ≤ 2305843009213693952) (a0 : 0 ≤ a) (a1 : a ≤ 1099511627776) :
    Calls Try.prog 36 #[.pointer (some ⟨A, 0, none⟩), .pointer (some ⟨Tb, 0, none⟩)] w fun e w' => e = .returned (.int .i64 (max (a - (Win.rel E P i + off)) 0)) ∧ Below w.heap.size w w' := by
  obtain ⟨d1, d2, d3, d4, d5, d6⟩ := sn_bd E P i e1 e2 e3 i1 i2
  have hp := fun w h => peek_any s E P off i w h e1 e2 e3 i1 i2 o0 o1
  obtain ⟨R, hR⟩ : ∃ R, Win.rel E P i + off = R := ⟨_, rfl⟩
  have b1 : 0 ≤ R := by omega
  have b2 : R ≤ 4611686018427387904 := by omega
  rw [hR] at hp ⊢
  have HS := Lib.hid hs
  have HP := Lib.hid hp
  clear hs hp hR d1 d2 d3 d4 d5 d6
  have wr : IntKind.i64.wrap (a - R) = a - R := IntWalk.i64_in _ (by omega)
  have hfl := field1
  go_enter Try.func36, Try.ntmps36
  go_wp2
  go_region_held3 (fun x => Below (w).heap.size (w) x ∧ (∀ b o, b < (w).heap.size → x.cell? ⟨b, o, none⟩ = (w).cell? ⟨b, o, none⟩) ∧ (∀ b o, b < (w).heap.size → x.frozen? ⟨b, o, none⟩ = (w).frozen? ⟨b, o, none⟩)) (first | (with_reducible assumption) | (with_reducible exact held_of (by with_reducible assumption : Below _ _ _ ∧ _).1) | (first | (simp only [mark_set]; refine held_of ?_; repeat' (first | (with_reducible exact (by with_reducible assumption : Below _ _ _ ∧ _).1) | (with_reducible refine below_setc ?_ ?_) | omega | (simp; done) | (simp; omega))) | (with_reducible exact held_of ((by with_reducible assumption : Below _ _ _ ∧ _).1.trans (hb.mono (by with_reducible assumption : Below _ _ _ ∧ _).1.size))) | (with_reducible exact held_of (Below.drew (Below.refl _ _))) | (with_reducible exact held_of ((by with_reducible assumption : Below _ _ _ ∧ _).1.alloc (by with_reducible assumption : Below _ _ _ ∧ _).1.size _)) | (with_reducible exact held_of (below_realloc hz (by with_reducible assumption : Below _ _ (World.alloc _ _) ∧ _).1)))) (first
    | (go_at_call 37; (with_reducible refine (HP.out _ ?_).mono ?_); (focus (refine held_sn (W := w) ?_ HS.out; with_reducible assumption)); rintro e w1 ⟨rfl, hb⟩))
  all_goals go_wp2
  all_goals
    go_ret
    refine ⟨?_, (by with_reducible assumption : Below w.heap.size w _ ∧ _).1⟩
    first
      | (show Ending.returned (Value.int .i64 0) = _; rw [show max (a - R) 0 = 0 by omega])
      | (show Ending.returned (Value.int .i64 (a - R)) = _; rw [show max (a - R) 0 = a - R by omega])
end Go.Proofs.Ytkmgkggkdmlkeaa
