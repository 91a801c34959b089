/- The walk of the law TaskCut. -/
import Derived.Test.YtkmgkggkdmlkeaaCt
import Derived.Test.YtkmgkggkdmlkeaaLr
import Derived.Test.YtkmgkggkdmlkeaaRf
import Derived.Test.YtkmgkggkdmlkeaaAw10
import Derived.Test.YtkmgkggkdmlkeaaFrame
namespace Go.Proofs.Ytkmgkggkdmlkeaa
open Go.RowKit
set_option linter.unusedVariables false
set_option linter.unusedSimpArgs false

theorem mask6c (x : Int) : bits .and .i64 x 63 = x % 64 := i64_mask 6 (by decide) x
theorem mask20c (x : Int) : bits .and .i64 x 1048575 = x % 1048576 := i64_mask 20 (by decide) x
theorem asub_len (E P a off i : Int) (n : Nat) : (asub E P a off i n).length = n * 5 := by
  induction n with
  | zero => rfl
  | succ n ih => show (asub E P a off i n ++ _).length = _; rw [List.length_append, ih]; simp; omega
theorem asub_get (E P a off i : Int) (n j r : Nat) (hj : j < n) (hr : r < 5) :
    (asub E P a off i n)[j * 5 + r]? = [Value.int .i64 (i + j), .int .i64 (Win.rel E P (i + j) + aoff E P a off i (j + 1)), .int .i64 (Win.dl E P (i + j) + aoff E P a off i (j + 1)), .int .i64 (Win.bit E P (i + j)), .int .i64 (shG (aoff E P a off i (j + 1)) (Win.grp E P (i + j)))][r]? := by
  induction n with
  | zero => omega
  | succ n ih =>
    show (asub E P a off i n ++ _)[j * 5 + r]? = _
    by_cases h : j < n
    · rw [List.getElem?_append_left (by rw [asub_len]; omega)]; exact ih h
    · have e : j = n := by omega
      subst e
      rw [List.getElem?_append_right (by rw [asub_len]; omega), asub_len, show j * 5 + r - j * 5 = r by omega]
theorem own_same (p : Option Addr) (a b c d : Nat) : (Value.slice p a b).ownBlock = (Value.slice p c d).ownBlock := by cases p <;> rfl
theorem rel_mono (E P : Int) (hE : 0 < E) (hP : 0 ≤ P) {x y : Int} (h : x ≤ y) : Win.rel E P x ≤ Win.rel E P y := by
  unfold Win.rel
  exact Int.ediv_le_ediv hE (Int.mul_le_mul_of_nonneg_right (by omega) hP)
theorem bel_ts {B t s : Nat} {v : Value} {a w w1 : World} (h : Below B a w) (hs : B ≤ w.heap.size) (ht : B ≤ t) (hsB : B ≤ s) (hv : ∀ g, v.ownBlock = some g → B ≤ g) (k : Keeps (fun k => k = t ∨ k = s ∨ v.ownBlock = some k) w w1) : Below B a w1 :=
  h.trans (k.to_below hs (fun j hj h => by
    rcases h with h | h | h
    · omega
    · omega
    · have := hv j h; omega))

set_option maxRecDepth 8000 in
set_option maxHeartbeats 12800000 in
theorem walk_TaskCut (a00 a01 a1 a2 : Int) (w : World) (_f00 : (Lit.int .i64 a00).wf = true) (_f01 : (Lit.int .i64 a01).wf = true) (_f1 : (Lit.int .i64 a1).wf = true) (_f2 : (Lit.int .i64 a2).wf = true) :
    Calls Try.prog 6 #[.agg #[.int .i64 a00, .int .i64 a01], .int .i64 a1, .int .i64 a2] w fun e w' => e = .returned (.bool true) ∧ Below w.heap.size w w' := by
  obtain ⟨p1, p2⟩ := pOf_bd a01
  obtain ⟨e1, e2⟩ := eOf_bd a00 (pOf a01) p1
  have hm := fun w => made_any a00 a01 w
  generalize eOf a00 (pOf a01) = E at *
  generalize pOf a01 = P at *
  have HM := Lib.hid hm
  clear hm
  obtain ⟨A, hA, A1, A2⟩ : ∃ m : Nat, 1 + bits .and .i64 a1 63 = (m : Int) ∧ 1 ≤ m ∧ m ≤ 64 := by
    rw [mask6c]; exact ⟨(1 + a1 % 64).toNat, by omega, by omega, by omega⟩
  obtain ⟨C, hC, C1, C2⟩ : ∃ m : Int, bits .and .i64 a2 1048575 = m ∧ 0 ≤ m ∧ m ≤ 1048575 := by
    rw [mask20c]; exact ⟨a2 % 1048576, rfl, by omega, by omega⟩
  go_enter Try.func6, Try.ntmps6
  go_upto_region 6 with (first
    | (go_at_call 9; (with_reducible refine (awake10 _).mono ?_); rintro e w1 ⟨rfl, hb1⟩; have s_w1 := hb1.size; (try simp only [World.size_alloc, World.size_setCell, World.size_drew, sz_drewN] at s_w1); have z_w1_0_0 : w.heap.size < w1.heap.size := (by omega); have z_w1_0_1 : w.heap.size < w1.heap.size + 1 := (by omega); have z_w1_0_2 : w.heap.size < w1.heap.size + 1 + 1 := (by omega); have q_w1_0_0 : w1.cell? ⟨w.heap.size, 0, none⟩ = some (.int .i64 a00) := (hb1.cell (p := ⟨w.heap.size, 0, none⟩) (by first | (show w.heap.size < _; omega) | (show w.heap.size < _; simp; done) | (show w.heap.size < _; simp; omega))).trans (by first | assumption | (go_simp; done)); have q_w1_0_1 : w1.cell? ⟨w.heap.size, 1, none⟩ = some (.int .i64 a01) := (hb1.cell (p := ⟨w.heap.size, 1, none⟩) (by first | (show w.heap.size < _; omega) | (show w.heap.size < _; simp; done) | (show w.heap.size < _; simp; omega))).trans (by first | assumption | (go_simp; done)))
    | (go_at_call 11; (with_reducible refine (HM.out _).mono ?_); rintro e w2 ⟨rfl, hb2⟩; have s_w2 := hb2.size; (try simp only [World.size_alloc, World.size_setCell, World.size_drew, sz_drewN] at s_w2))
    | (go_at_call 10; (with_reducible refine (tnew_yes E P 0 true _ e1 e2 p2 (by omega) (by omega)).mono ?_); rintro e w3 ⟨⟨t, s, gt, gs, gst, rfl, hT1, hS1⟩, hb3⟩; have s_w3 := hb3.size; (try simp only [World.size_alloc, World.size_setCell, World.size_drew, sz_drewN] at s_w3); have z_w3_0_0 : w2.heap.size < w3.heap.size := (by omega); have z_w3_0_1 : w2.heap.size < w3.heap.size + 1 := (by omega); have z_w3_0_2 : w2.heap.size < w3.heap.size + 1 + 1 := (by omega); have q_w3_0_0 : w3.cell? ⟨w2.heap.size, 0, none⟩ = some (.int .i64 E) := (hb3.cell (p := ⟨w2.heap.size, 0, none⟩) (by first | (show w2.heap.size < _; omega) | (show w2.heap.size < _; simp; done) | (show w2.heap.size < _; simp; omega))).trans (by first | assumption | (go_simp; done)); have q_w3_0_1 : w3.cell? ⟨w2.heap.size, 1, none⟩ = some (.int .i64 P) := (hb3.cell (p := ⟨w2.heap.size, 1, none⟩) (by first | (show w2.heap.size < _; omega) | (show w2.heap.size < _; simp; done) | (show w2.heap.size < _; simp; omega))).trans (by first | assumption | (go_simp; done))))
  have hbv : Below w.heap.size w w3 := (by have s0_ := hb1.size; have s1_ := hb2.size; have s2_ := hb3.size; (try simp only [World.size_alloc, World.size_setCell, World.size_drew, sz_drewN] at s0_ s1_ s2_); repeat' (first | (with_reducible exact Below.refl _ _) | (with_reducible refine bel_call ?_ ?_ hb3) | (with_reducible refine bel_call ?_ ?_ hb2) | (with_reducible refine bel_call ?_ ?_ hb1) | (with_reducible refine Below.alloc ?_ ?_ _) | (with_reducible refine below_drewN ?_ _) | (with_reducible refine Below.drew ?_) | (with_reducible refine Below.setCell ?_ ?_ _) | omega | (simp; omega) | (simp; done)))
  have ht' : w.heap.size ≤ t := by simp at gt; omega
  have hs' : w.heap.size ≤ s := by simp at gs; omega
  have s3 := hbv.size
  have gQ : w2.heap.size < s := by simp at gs; omega
  have gQ2 : w.heap.size ≤ w2.heap.size := by omega
  have zQ := z_w3_0_0
  clear hb1 hb2 hb3 s_w1 s_w2 s_w3 z_w1_0_0 z_w1_0_1 z_w1_0_2 q_w1_0_0 q_w1_0_1 gt gs HM z_w3_0_0 z_w3_0_1 z_w3_0_2
  generalize w2.heap.size = Q at *
  have HA1 := Lib.hid (arrive_row t s E P 0 1 0 true none 0 0 [] 0 0 0 0 0 0 A w3.heap.size w3 hT1 hS1 (RowAt.nil _ _ _) (by omega) (fun g hg => by cases hg) e1 e2 p2 (by omega) (by omega) (by omega) (by omega) (by omega) (by omega) A1 (by omega) (Nat.le_refl _))
  clear hT1 hS1
  go_upto_region 9 with (go_at_call 12; (with_reducible refine HA1.out.mono ?_); rintro e w4 ⟨rfl, ⟨p4, cap4, hT4, hS4, hR4, hn4⟩, hk4⟩)
  rw [Nat.zero_add] at hT4 hR4 hn4
  rw [List.nil_append] at hR4
  have hbv4 := bel_ts hbv s3 ht' hs' (fun g hg => by cases hg) hk4
  have nQ : ¬ (Q = t ∨ Q = s ∨ (Value.slice none 0 0).ownBlock = some Q) := fun h => by
    rcases h with h | h | h
    · omega
    · omega
    · cases h
  have gl := Lib.hid (fun g hg => (⟨by have := (hR4.lt g hg).1; omega, (hn4 g hg).1⟩ : g ≠ Q ∧ g ≠ t))
  have v0 : w4.cell? ⟨Q, 0, none⟩ = some (.int .i64 E) := (hk4.cell (p := ⟨Q, 0, none⟩) zQ nQ).trans q_w3_0_0
  have v1 : w4.cell? ⟨Q, 1, none⟩ = some (.int .i64 P) := (hk4.cell (p := ⟨Q, 1, none⟩) zQ nQ).trans q_w3_0_1
  refine gen_world (F := fun V => TC V t E P true false s (.slice p4 A cap4) 0 0 0 0 0 0 ∧ RowAt V w.heap.size 5 (.slice p4 A cap4) A (asub E P 0 0 1 A) ∧ V.cell? ⟨Q, 0, none⟩ = some (.int .i64 E) ∧ V.cell? ⟨Q, 1, none⟩ = some (.int .i64 P) ∧ Below w.heap.size w V) ⟨hT4, hR4.mono s3, v0, v1, hbv4⟩ ?_
  clear hT4 hS4 hR4 hbv4 hk4 HA1 hbv s3 v0 v1 q_w3_0_0 q_w3_0_1 zQ nQ
  rintro V ⟨hT, hR, v0, v1, hbv⟩
  have hsV := hbv.size
  have hQV := World.block_lt_of_cell? V _ v0
  obtain ⟨rels, hrels⟩ : ∃ rels : Nat → Int, ∀ j, rels j = Win.rel E P (1 + (j : Int)) := ⟨fun j => Win.rel E P (1 + (j : Int)), fun _ => rfl⟩
  have hmono : Hid (∀ i j, i ≤ j → rels i ≤ rels j) := fun i j h => by rw [hrels, hrels]; exact rel_mono E P (by omega) (by omega) (by omega)
  have hrel0 : rels 0 = 0 := by rw [hrels]; unfold Win.rel; simp
  have hao : Hid (∀ j, aoff E P 0 0 1 j = 0) := fun j => by obtain ⟨x0, x1⟩ := aoff_bd E P 0 0 1 e1 (by omega) (by omega) (by omega) j; omega
  have hget : Hid (∀ j r, j < A → r < 5 → (asub E P 0 0 1 A)[j * 5 + r]? = [Value.int .i64 (1 + j), .int .i64 (rels j), .int .i64 (Win.dl E P (1 + j)), .int .i64 (Win.bit E P (1 + j)), .int .i64 (shG 0 (Win.grp E P (1 + j)))][r]?) := fun j r hj hr => by
    rw [asub_get E P 0 0 1 A j r hj hr, hao.out, hrels, Int.add_zero, Int.add_zero]
  have HRLS := Lib.hid hrels
  clear hrels hao
  generalize asub E P 0 0 1 A = xs at *
  have HT := Lib.hid hT
  have HR := Lib.hid hR
  have HBV := Lib.hid hbv
  clear hT hR hbv
  go_wp2
  go_loopw [12, 13] (fun s12 s13 wr => ∃ (i m : Nat), s12 = .int .i64 m ∧ s13 = .int .i64 ((i : Int) + 1) ∧ i ≤ A ∧ m ≤ i ∧ Hid (∀ j, j < m → rels j ≤ C) ∧ Hid (m < i → C < rels m) ∧ Below V.heap.size V wr) (fun _ s13 _ => 66 - (intOf s13).toNat)
  case atStart => exact ⟨0, 0, rfl, rfl, by omega, by omega, fun j hj => by omega, fun h => by omega, Below.refl _ _⟩
  case round =>
    obtain ⟨i, m, rfl, rfl, hi, hmi, hle, hgt, hb⟩ := hrel
    have u0 : wr.cell? ⟨Q, 0, none⟩ = some (.int .i64 E) := (hb.cell (p := ⟨Q, 0, none⟩) hQV).trans v0
    have u1 : wr.cell? ⟨Q, 1, none⟩ = some (.int .i64 P) := (hb.cell (p := ⟨Q, 1, none⟩) hQV).trans v1
    by_cases hlt : i < A
    · have hrr := fun w => rrelease_yes E P ((i : Int) + 1) w e1 e2 p2 (by omega) (by omega)
      rw [show Win.rel E P ((i : Int) + 1) = rels i by rw [HRLS.out, Int.add_comm]] at hrr
      have HRR := Lib.hid hrr
      have il : ((i : Int) + 1) ≤ A := by omega
      have wk : IntKind.i64.wrap ((i : Int) + 1 + 1) = (i : Int) + 1 + 1 := IntWalk.i64_in _ (by omega)
      have wm : IntKind.i64.wrap ((m : Int) + 1) = (m : Int) + 1 := IntWalk.i64_in _ (by omega)
      clear hrr
      generalize hri : rels i = R at *
      by_cases hc : R ≤ C
      · have hmi2 : m = i := by
          by_cases h : m < i
          · have a := hgt.out h; have b := hmono.out m i (by omega); omega
          · omega
        have hle2 : Hid (∀ j, j < m + 1 → rels j ≤ C) := fun j hj => by
          by_cases e : j = m
          · subst e; subst hmi2; omega
          · exact hle.out j (by omega)
        have hgt3 : Hid (m + 1 < i + 1 → C < rels (m + 1)) := fun h => by omega
        clear hmi2
        go_wp2_with (go_at_call 20; (with_reducible refine (HRR.out _).mono ?_); rintro e w5 ⟨rfl, hb5⟩)
        go_roundw
        case rel => exact ⟨i + 1, m + 1, by go_num, by go_num, by omega, by omega, hle2, hgt3, bel_call hb hb.size hb5⟩
        case measure => simp [intOf]; omega
      · have hgt2 : Hid (m < i + 1 → C < rels m) := fun h => by
          by_cases e : m = i
          · subst e; omega
          · exact hgt.out (by omega)
        go_wp2_with (go_at_call 20; (with_reducible refine (HRR.out _).mono ?_); rintro e w5 ⟨rfl, hb5⟩)
        go_roundw
        case rel => exact ⟨i + 1, m, by go_num, by go_num, by omega, by omega, hle, hgt2, bel_call hb hb.size hb5⟩
        case measure => simp [intOf]; omega
    · have hiA : A = i := by omega
      subst hiA
      have hm1 : 1 ≤ m := by
        by_cases h : m = 0
        · subst h; have := hgt.out (by omega); omega
        · omega
      obtain ⟨w9, rfl⟩ : ∃ x, x = wr := ⟨wr, rfl⟩
      have hT9 := HT.out.keepb hb
      have hR9 := row_only HR.out (only_of_below (b := V.heap.size) hb) (fun g hg => by have := (HR.out.lt g hg).2; omega)
      have hb9 : Below w.heap.size w w9 := bel_call HBV.out hsV hb
      have s9 := hb9.size
      have HC1 := Lib.hid (cut_row t cap4 A s w.heap.size p4 E P true false 0 0 0 0 0 0 C rels xs w9 hT9 hR9 (fun j hj => hget.out j 1 hj (by omega)) A2 (fun g hg => (hn4 g hg).1))
      have nl : ¬ ((A : Int) + 1 ≤ A) := by omega
      have HR9 := Lib.hid hR9
      have HB9 := Lib.hid hb9
      clear hlt hT9 hR9 hb9 HT HR HBV hb u0 u1 v0 v1 hsV
      go_upto_region 17 with (go_at_call 21; (with_reducible refine HC1.out.mono ?_); rintro e w5 ⟨n5, hn5, hle5, hgt5, rfl, hT5, ho5⟩)
      have en : n5 = m := by
        rcases Nat.lt_trichotomy n5 m with h | h | h
        · have a := hgt5 (by omega); have b := hle.out n5 h; omega
        · exact h
        · have a := hgt.out (by omega); have b := hle5 m h; omega
      subst en
      have hR5 := row_only (RowAt.take HR9.out hn5) ho5 (fun g hg => (hn4 g (by rw [own_same p4 A cap4 n5 n5]; exact hg)).1)
      have hx5 : Hid (∀ j r, j < n5 → r < 5 → (xs.take (n5 * 5))[j * 5 + r]? = [Value.int .i64 (1 + j), .int .i64 (rels j), .int .i64 (Win.dl E P (1 + j)), .int .i64 (Win.bit E P (1 + j)), .int .i64 (shG 0 (Win.grp E P (1 + j)))][r]?) := fun j r hj hr => by
        rw [List.getElem?_take_of_lt (by omega)]; exact hget.out j r (by omega) hr
      have hb5 : Below w.heap.size w w5 := bel_only HB9.out s9 ht' ho5
      generalize xs.take (n5 * 5) = ys at *
      refine gen_world (F := fun V => TC V t E P true true s (.slice p4 n5 n5) 0 0 0 0 0 0 ∧ RowAt V w.heap.size 5 (.slice p4 n5 n5) n5 ys ∧ Below w.heap.size w V) ⟨hT5, hR5, hb5⟩ ?_
      clear hT5 hR5 hb5 ho5 HC1 HR9 HB9 s9 hget hle5 hgt5 hgt
      rintro V6 ⟨hT6, hR6, hb6⟩
      have s6 := hb6.size
      have HC2 := Lib.hid (cut_row t n5 n5 s w.heap.size p4 E P true true 0 0 0 0 0 0 C rels ys V6 hT6 hR6 (fun j hj => hx5.out j 1 hj (by omega)) (by omega) (fun g hg => (hn4 g (by rw [own_same p4 A cap4 n5 n5]; exact hg)).1))
      have HR6 := Lib.hid hR6
      clear hT6 hR6
      go_upto_region 18 with (go_at_call 21; (with_reducible refine HC2.out.mono ?_); rintro e w7 ⟨n7, hn7, hle7, hgt7, rfl, hT7, ho7⟩)
      have en : n7 = n5 := by
        by_cases h : n7 < n5
        · have a := hgt7 h; have b := hle.out n7 h; omega
        · omega
      subst en
      have e0 : (n7 : Int) - n7 = 0 := by omega
      rw [e0]
      have hR7 := row_only HR6.out ho7 (fun g hg => (hn4 g (by rw [own_same p4 A cap4 n7 n7]; exact hg)).1)
      have hb7 : Below w.heap.size w w7 := bel_only hb6 s6 ht' ho7
      refine gen_world (F := fun V => TC V t E P true true s (.slice p4 n7 n7) 0 0 0 0 0 0 ∧ RowAt V w.heap.size 5 (.slice p4 n7 n7) n7 ys ∧ Below w.heap.size w V) ⟨hT7, hR7, hb7⟩ ?_
      clear hT7 hR7 hb7 ho7 HC2 HR6 hb6 s6 hle7 hgt7 e0
      rintro V8 ⟨hT8, hR8, hb8⟩
      have s8 := hb8.size
      have tz8 := tc_size hT8
      have c58 := hT8.2.2.2.2.2.1
      obtain ⟨L, hL⟩ : ∃ L, n7 = L + 1 := ⟨n7 - 1, by omega⟩
      have hrL : rels L ≤ C := hle.out L (by omega)
      have iL : 1 + (L : Int) = (n7 : Int) := by omega
      have hac : ∀ w1, Below V8.heap.size V8 w1 → Calls Try.prog 12 #[.pointer (some ⟨t, 0, none⟩), .int .i64 C, .int .i64 1] w1 fun e w' => e = .returned (.int .i64 13) ∧ Below w1.heap.size w1 w' := fun w1 hb => arrive_cut t s E P C true p4 n7 n7 0 0 0 0 0 0 1 w1 (hT8.keepb hb) C1 (by omega) (by omega) (by omega)
      have HAC := Lib.hid hac
      clear hac
      have hla := fun w1 (hb : Below V8.heap.size V8 w1) => last_row t L n7 w.heap.size p4 (n7 : Int) (rels L) (Win.dl E P (1 + L)) (Win.bit E P (1 + L)) (shG 0 (Win.grp E P (1 + L))) ys w1 (by rw [← hL]; exact (hb.cell (p := ⟨t, 5, none⟩) tz8).trans c58) (Nat.lt_of_lt_of_le tz8 hb.size) (by omega) (by rw [← hL]; exact row_only hR8 (only_of_below (b := V8.heap.size) hb) (fun g hg => by have := (hR8.lt g hg).2; omega)) (fun r hr => by rw [← iL]; exact hx5.out L r (by omega) hr)
      have HLA := Lib.hid hla
      have HW := Lib.hid (fun w1 (hb : Below V8.heap.size V8 w1) => waits_any t p4 n7 n7 w1 ((hb.cell (p := ⟨t, 5, none⟩) tz8).trans c58))
      have wAn : IntKind.i64.wrap ((A : Int) - n7) = (A : Int) - n7 := IntWalk.i64_in _ (by omega)
      clear hT8 hR8 hla hx5 hle c58 hL iL
      generalize rels L = R at *
      generalize Win.dl E P (1 + L) = D at *
      generalize Win.bit E P (1 + L) = BB at *
      generalize shG 0 (Win.grp E P (1 + L)) = G at *
      go_upto_region 20 with (first
        | (go_at_call 12; (with_reducible refine (HAC.out _ (Below.refl _ _)).mono ?_); rintro e wa ⟨rfl, hba⟩)
        | (go_at_call 19; (with_reducible refine (HLA.out _ hba).mono ?_); rintro e wb ⟨rfl, hbb⟩; have sb := hbb.size))
      refine gen_world (F := fun V => Below V8.heap.size V8 V ∧ V.cell? ⟨wb.heap.size, 0, none⟩ = some (.int .i64 n7) ∧ V.cell? ⟨wb.heap.size, 1, none⟩ = some (.int .i64 R)) ⟨(bel_call (bel_call (Below.refl _ _) (Nat.le_refl _) hba) hba.size hbb).alloc (by have := hba.size; have := hbb.size; omega) _, by go_simp, by go_simp⟩ ?_
      clear hba hbb
      generalize wb.heap.size = Z at *
      rintro V9 ⟨hb9, z0, z1⟩
      have s9 := hb9.size
      have hZ9 : Z < V9.heap.size := World.block_lt_of_cell? V9 _ z0
      go_wp2_with (go_at_call 13; refine (HW.out _ hb9).mono ?_; rintro e wc ⟨rfl, hbc⟩; have y0 : wc.cell? ⟨Z, 0, none⟩ = some (.int .i64 n7) := (hbc.cell (p := ⟨Z, 0, none⟩) hZ9).trans z0; have y1 : wc.cell? ⟨Z, 1, none⟩ = some (.int .i64 R) := (hbc.cell (p := ⟨Z, 1, none⟩) hZ9).trans z1)

      go_ret
      exact ⟨rfl, bel_call (bel_call hb8 s8 hb9) (by omega) hbc⟩
end Go.Proofs.Ytkmgkggkdmlkeaa
