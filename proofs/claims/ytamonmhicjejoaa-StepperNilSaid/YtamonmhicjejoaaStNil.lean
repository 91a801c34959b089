/- The walk of the law StepperNil. -/
import Derived.Test.YtamonmhicjejoaaSto
import Derived.Test.YtamonmhicjejoaaRf
namespace Go.Proofs.Ytamonmhicjejoaa
open Go.RowKit
set_option linter.unusedVariables false
set_option linter.unusedSimpArgs false

theorem held_cell {W x : World} {b o : Nat} {v : Option Value} (h : Below W.heap.size W x ∧ (∀ b o, b < W.heap.size → x.cell? ⟨b, o, none⟩ = W.cell? ⟨b, o, none⟩) ∧ (∀ b o, b < W.heap.size → x.frozen? ⟨b, o, none⟩ = W.frozen? ⟨b, o, none⟩)) (hb : b < W.heap.size) (hv : W.cell? ⟨b, o, none⟩ = v) : x.cell? ⟨b, o, none⟩ = v := (h.2.1 b o hb).trans hv
theorem held_size {W x : World} {b : Nat} (h : Below W.heap.size W x ∧ (∀ b o, b < W.heap.size → x.cell? ⟨b, o, none⟩ = W.cell? ⟨b, o, none⟩) ∧ (∀ b o, b < W.heap.size → x.frozen? ⟨b, o, none⟩ = W.frozen? ⟨b, o, none⟩)) (hb : b < W.heap.size) : b < x.heap.size := Nat.lt_of_lt_of_le hb h.1.size
theorem held_st {W x : World} {b : Nat} {E P off n : Int} {x0 x1 x2 x3 x4 : Int} (h : Below W.heap.size W x ∧ (∀ b o, b < W.heap.size → x.cell? ⟨b, o, none⟩ = W.cell? ⟨b, o, none⟩) ∧ (∀ b o, b < W.heap.size → x.frozen? ⟨b, o, none⟩ = W.frozen? ⟨b, o, none⟩)) (hs : St W b E P off n x0 x1 x2 x3 x4) : St x b E P off n x0 x1 x2 x3 x4 := hs.keepb h.1

theorem st_null (w : World) (b : Nat) (h : ∀ j, j < 19 → w.cell? ⟨b, j, none⟩ = some (.int .i64 0)) (hf : ∀ o, w.frozen? ⟨b, o, none⟩ = false) (hs : b < w.heap.size) : St w b 0 0 0 0 0 0 0 0 0 := by
  have z1 : (0 / 0 : Int) = 0 := by decide
  have z2 : (0 % 0 : Int) = 0 := by decide
  have z3 : (0 * 0 / 0 : Int) = 0 := by decide
  have z4 : (0 * 0 % 0 : Int) = 0 := by decide
  have g1 : glong 0 0 = 0 := if_neg (by omega)
  have g2 : gpart 0 0 = 0 := if_neg (by omega)
  have g3 : ∀ k, gwh 0 0 k = 0 := fun k => if_neg (by omega)
  have g4 : ∀ k, glf 0 0 k = 0 := fun k => if_neg (by omega)
  have g5 : gof 0 0 = 0 := if_neg (by omega)
  unfold St
  rw [z1, z2, z3, z4, g1, g2, g3, g4, g5]
  exact ⟨h 0 (by omega), h 1 (by omega), h 2 (by omega), h 3 (by omega), h 4 (by omega), h 5 (by omega), h 6 (by omega), h 7 (by omega), h 8 (by omega), h 9 (by omega), h 10 (by omega), h 11 (by omega), h 12 (by omega), h 13 (by omega), h 14 (by omega), h 15 (by omega), h 16 (by omega), h 17 (by omega), h 18 (by omega), hf, hs⟩

theorem zeros19 (j : Nat) (h : j < 19) : (#[Value.int .i64 0, .int .i64 0, .int .i64 0, .int .i64 0, .int .i64 0, .int .i64 0, .int .i64 0, .int .i64 0, .int .i64 0, .int .i64 0, .int .i64 0, .int .i64 0, .int .i64 0, .int .i64 0, .int .i64 0, .int .i64 0, .int .i64 0, .int .i64 0, .int .i64 0] : Array Value)[j]? = some (.int .i64 0) := by
  match j, h with
  | 0, _ => rfl
  | 1, _ => rfl
  | 2, _ => rfl
  | 3, _ => rfl
  | 4, _ => rfl
  | 5, _ => rfl
  | 6, _ => rfl
  | 7, _ => rfl
  | 8, _ => rfl
  | 9, _ => rfl
  | 10, _ => rfl
  | 11, _ => rfl
  | 12, _ => rfl
  | 13, _ => rfl
  | 14, _ => rfl
  | 15, _ => rfl
  | 16, _ => rfl
  | 17, _ => rfl
  | 18, _ => rfl
  | j + 19, h => omega

set_option maxHeartbeats 6400000 in
theorem walk_StepperNil (a00 a01 : Int) (w : World) (_f00 : (Lit.int .i64 a00).wf = true) (_f01 : (Lit.int .i64 a01).wf = true) :
    Calls Try.prog 11 #[.agg #[.int .i64 a00, .int .i64 a01]] w fun e w' => e = .returned (.bool true) ∧ Below w.heap.size w w' := by
  have hnew : ∀ w, Calls Try.prog 16 #[.agg #[.int .i64 a00, .int .i64 a01], .int .i64 0] w fun e w' => (∃ q, e = .returned (.pointer q) ∧ ((q = none ∧ may a00 a01 = false) ∨ (∃ b, q = some b ∧ may a00 a01 = true))) ∧ Below w.heap.size w w' := by
    intro w
    by_cases hm : may a00 a01 = true
    · have h := hm
      simp only [may, Bool.and_eq_true, decide_eq_true_eq] at h
      refine (new_yes a00 a01 0 w h.1 h.2.1 h.2.2 (by omega) (by omega)).mono ?_
      rintro e w' ⟨⟨b, _, rfl, _⟩, hb⟩
      exact ⟨⟨_, rfl, .inr ⟨_, rfl, hm⟩⟩, hb⟩
    · have hm' : may a00 a01 = false := by simpa using hm
      refine (new_no a00 a01 0 w (.inl hm')).mono ?_
      rintro e w' ⟨rfl, hb⟩
      exact ⟨⟨none, rfl, .inl ⟨rfl, hm'⟩⟩, hb⟩
  have HNEW := Lib.hid hnew
  clear hnew
  go_enter Try.func11, Try.ntmps11
  go_upto_region 6 with (first
    | (go_at_call 16; (with_reducible refine (HNEW.out _).mono ?_); rintro e w1 ⟨⟨q, rfl, hq⟩, hb1⟩; have HQ := Lib.hid hq; clear hq; have s_w1 := hb1.size; (try simp only [World.size_alloc, World.size_setCell, World.size_drew, sz_drewN] at s_w1); have z_w1_0_0 : w.heap.size < w1.heap.size := (by omega); have z_w1_0_1 : w.heap.size < w1.heap.size + 1 := (by omega); have z_w1_0_2 : w.heap.size < w1.heap.size + 1 + 1 := (by omega); have q_w1_0_0 : w1.cell? ⟨w.heap.size, 0, none⟩ = some (.int .i64 a00) := (hb1.cell (p := ⟨w.heap.size, 0, none⟩) (by first | (show w.heap.size < _; omega) | (show w.heap.size < _; simp; done) | (show w.heap.size < _; simp; omega))).trans (by first | assumption | (go_simp; done)); have q_w1_0_1 : w1.cell? ⟨w.heap.size, 1, none⟩ = some (.int .i64 a01) := (hb1.cell (p := ⟨w.heap.size, 1, none⟩) (by first | (show w.heap.size < _; omega) | (show w.heap.size < _; simp; done) | (show w.heap.size < _; simp; omega))).trans (by first | assumption | (go_simp; done)))
    | (go_at_call 32; (with_reducible refine (rcheck_any a00 a01 _).mono ?_); rintro e w2 ⟨rfl, hb2⟩; have s_w2 := hb2.size; (try simp only [World.size_alloc, World.size_setCell, World.size_drew, sz_drewN] at s_w2)))
  refine gen_world (F := fun V => St V w2.heap.size 0 0 0 0 0 0 0 0 0 ∧ V.cell? ⟨w2.heap.size + 1, 0, none⟩ = some (.int .i64 (0)) ∧ V.cell? ⟨w2.heap.size + 1, 1, none⟩ = some (.int .i64 (0)) ∧ V.cell? ⟨w2.heap.size + 1, 2, none⟩ = some (.int .i64 (0)) ∧ V.cell? ⟨w2.heap.size + 1, 3, none⟩ = some (.int .i64 (0)) ∧ V.cell? ⟨w2.heap.size + 1, 4, none⟩ = some (.int .i64 (0)) ∧ (∀ o, V.frozen? ⟨w2.heap.size + 1, o, none⟩ = false) ∧ w2.heap.size + 1 < V.heap.size ∧ Below w.heap.size w V) ⟨?_, ?_, ?_, ?_, ?_, ?_, ?_, ?_, (by have s0_ := hb1.size; have s1_ := hb2.size; (try simp only [World.size_alloc, World.size_setCell, World.size_drew, sz_drewN] at s0_ s1_); repeat' (first | (with_reducible exact Below.refl _ _) | (with_reducible refine bel_call ?_ ?_ hb2) | (with_reducible refine bel_call ?_ ?_ hb1) | (with_reducible refine Below.alloc ?_ ?_ _) | (with_reducible refine below_drewN ?_ _) | (with_reducible refine Below.drew ?_) | (with_reducible refine Below.setCell ?_ ?_ _) | omega | (simp; omega) | (simp; done)))⟩ ?_
  · refine st_null _ _ (fun j hj => ?_) (fun o => by go_simp) (by simp; omega)
    have hz := zeros19 j hj
    rw [← hz]; go_simp
  iterate 5 (focus (go_simp; done))
  · intro o; go_simp
  · simp
  have e1 : w.heap.size < w2.heap.size := by omega
  generalize w2.heap.size = O at *
  clear hb1 hb2 s_w1 s_w2
  rintro W ⟨so, l0, l1, l2, l3, l4, lf, ls, hbv⟩
  have SO := Lib.hid so
  have hs := hbv.size
  have osz := st_size so
  clear so
  rcases HQ.out with ⟨rfl, hm⟩ | ⟨b, rfl, hm⟩
  all_goals
    go_region_held3 (fun x => Below (W).heap.size (W) x ∧ (∀ b o, b < (W).heap.size → x.cell? ⟨b, o, none⟩ = (W).cell? ⟨b, o, none⟩) ∧ (∀ b o, b < (W).heap.size → x.frozen? ⟨b, o, none⟩ = (W).frozen? ⟨b, o, none⟩)) ((first | (simp only [mark_set]; refine held_of ?_; repeat' (first | (with_reducible exact (by with_reducible assumption : Below _ _ _ ∧ _).1) | (with_reducible refine below_setc ?_ ?_) | omega | (simp; done) | (simp; omega))) | (with_reducible exact held_of ((by with_reducible assumption : Below _ _ _ ∧ _).1.trans (hb.mono (by with_reducible assumption : Below _ _ _ ∧ _).1.size))) | (with_reducible exact held_of (Below.drew (Below.refl _ _))) | (with_reducible exact held_of ((by with_reducible assumption : Below _ _ _ ∧ _).1.alloc (by with_reducible assumption : Below _ _ _ ∧ _).1.size _)) | (with_reducible exact held_of (below_realloc hz (by with_reducible assumption : Below _ _ (World.alloc _ _) ∧ _).1)))) (first
    | (go_at_call 14; (with_reducible refine (awake05 _).mono ?_); rintro e w3 ⟨rfl, hb⟩)
    | (go_at_call 17; (with_reducible refine (next_nil _).mono ?_); rintro e w3 ⟨rfl, hb⟩)
    | (go_at_call 17; (with_reducible refine (next_zero O _ ?_ ?_).mono ?_); (focus (refine held_cell (W := W) ?_ osz SO.out.2.2.2.2.2.2.2.2.2.2.2.2.2.2.1; with_reducible assumption)); (focus (refine held_size (W := W) ?_ osz; with_reducible assumption)); rintro e w3 ⟨rfl, hb⟩)
    | (go_at_call 19; (with_reducible refine (peek_nil _).mono ?_); rintro e w3 ⟨rfl, hb⟩)
    | (go_at_call 19; (with_reducible refine (peek_zero O _ ?_ ?_).mono ?_); (focus (refine held_cell (W := W) ?_ osz SO.out.2.2.2.2.2.2.2.2.2.2.2.2.2.2.1; with_reducible assumption)); (focus (refine held_size (W := W) ?_ osz; with_reducible assumption)); rintro e w3 ⟨rfl, hb⟩)
    | (go_at_call 20; (with_reducible refine (shift_none _ _).mono ?_); rintro e w3 ⟨rfl, hb⟩)
    | (go_at_call 20; (with_reducible refine (shift_zero O _ _ ?_).mono ?_); (focus (refine held_cell (W := W) ?_ osz SO.out.2.1; with_reducible assumption)); rintro e w3 ⟨rfl, hb⟩)
    | (go_at_call 31; (with_reducible refine (copy_nil _).mono ?_); rintro e w3 ⟨rfl, hb⟩)
    | (go_at_call 31; (with_reducible refine (copy_st O 0 0 0 0 0 0 0 0 0 _ ?_).mono ?_); (focus (refine held_st (W := W) ?_ SO.out; with_reducible assumption)); rintro e w3 ⟨⟨cc, gc, rfl, _⟩, hb⟩))
    go_wp2
    go_ret
    exact ⟨rfl, bel_call hbv hs (by with_reducible assumption : Below W.heap.size W _ ∧ _).1⟩
end Go.Proofs.Ytamonmhicjejoaa
