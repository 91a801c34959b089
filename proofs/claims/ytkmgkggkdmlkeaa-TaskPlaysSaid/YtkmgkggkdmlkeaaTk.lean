/- Contracts of the task's New, and of all that is asked of no task. -/
import Derived.Test.YtkmgkggkdmlkeaaSto
namespace Go.Proofs.Ytkmgkggkdmlkeaa
open Go.RowKit
set_option linter.unusedVariables false
set_option linter.unusedSimpArgs false

/-- A task's block: a weight, whether it is early, whether it is cut, its stepper, those that wait, the one that ran last, how many did. -/
def TC (w : World) (t : Nat) (E P : Int) (early cut : Bool) (s : Nat) (v : Value) (r0 r1 r2 r3 r4 done : Int) : Prop :=
  w.cell? ⟨t, 0, none⟩ = some (.int .i64 E) ∧ w.cell? ⟨t, 1, none⟩ = some (.int .i64 P) ∧ w.cell? ⟨t, 2, none⟩ = some (.bool early) ∧ w.cell? ⟨t, 3, none⟩ = some (.bool cut) ∧ w.cell? ⟨t, 4, none⟩ = some (.pointer (some ⟨s, 0, none⟩)) ∧ w.cell? ⟨t, 5, none⟩ = some v ∧
  w.cell? ⟨t, 6, none⟩ = some (.int .i64 r0) ∧ w.cell? ⟨t, 7, none⟩ = some (.int .i64 r1) ∧ w.cell? ⟨t, 8, none⟩ = some (.int .i64 r2) ∧ w.cell? ⟨t, 9, none⟩ = some (.int .i64 r3) ∧ w.cell? ⟨t, 10, none⟩ = some (.int .i64 r4) ∧ w.cell? ⟨t, 11, none⟩ = some (.int .i64 done) ∧
  (∀ o, w.frozen? ⟨t, o, none⟩ = false) ∧ t < w.heap.size
theorem TC.keep {w w' : World} {t c : Nat} {E P : Int} {early cut : Bool} {s : Nat} {v : Value} {r0 r1 r2 r3 r4 done : Int} (h : TC w t E P early cut s v r0 r1 r2 r3 r4 done) (k : Only c w w') (hc : t ≠ c) : TC w' t E P early cut s v r0 r1 r2 r3 r4 done := by
  obtain ⟨h0, h1, h2, h3, h4, h5, h6, h7, h8, h9, h10, h11, hf, hs⟩ := h
  have hk : ∀ o, w'.cell? ⟨t, o, none⟩ = w.cell? ⟨t, o, none⟩ := fun o => k.cell (p := ⟨t, o, none⟩) hs hc
  exact ⟨(hk _).trans h0, (hk _).trans h1, (hk _).trans h2, (hk _).trans h3, (hk _).trans h4, (hk _).trans h5, (hk _).trans h6, (hk _).trans h7, (hk _).trans h8, (hk _).trans h9, (hk _).trans h10, (hk _).trans h11,
    fun o => (k.frozen (p := ⟨t, o, none⟩) hs hc).trans (hf o), Nat.lt_of_lt_of_le hs k.size⟩
theorem tc_size {w : World} {t : Nat} {E P : Int} {early cut : Bool} {s : Nat} {v : Value} {r0 r1 r2 r3 r4 done : Int} (h : TC w t E P early cut s v r0 r1 r2 r3 r4 done) : t < w.heap.size := h.2.2.2.2.2.2.2.2.2.2.2.2.2
theorem TC.keepb {w w' : World} {t : Nat} {E P : Int} {early cut : Bool} {s : Nat} {v : Value} {r0 r1 r2 r3 r4 done : Int} (h : TC w t E P early cut s v r0 r1 r2 r3 r4 done) (k : Below w.heap.size w w') : TC w' t E P early cut s v r0 r1 r2 r3 r4 done := by
  have hs := tc_size h
  exact h.keep (c := t + 1) (only_of_below k) (by omega)

set_option maxHeartbeats 400000 in
theorem slot_any (a : Int) (w : World) : Calls Try.prog 34 #[.int .i64 a] w fun e w' => e = .returned (.bool (decide (0 ≤ a ∧ a ≤ 1099511627776))) ∧ Below w.heap.size w w' := by
  by_cases h0 : 0 ≤ a
  · by_cases h1 : a ≤ 1099511627776
    · go_enter Try.func34, Try.ntmps34
      go_wp2
      go_ret
      exact ⟨by simp [h0, h1], (by repeat' (first | (with_reducible exact Below.refl _ _) | (with_reducible refine Below.alloc ?_ ?_ _) | (with_reducible refine below_drewN ?_ _) | (with_reducible refine Below.drew ?_) | (with_reducible refine Below.setCell ?_ ?_ _) | omega | (simp; omega) | (simp; done)))⟩
    · go_enter Try.func34, Try.ntmps34
      go_wp2
      go_ret
      exact ⟨by simp [h0, h1], (by repeat' (first | (with_reducible exact Below.refl _ _) | (with_reducible refine Below.alloc ?_ ?_ _) | (with_reducible refine below_drewN ?_ _) | (with_reducible refine Below.drew ?_) | (with_reducible refine Below.setCell ?_ ?_ _) | omega | (simp; omega) | (simp; done)))⟩
  · go_enter Try.func34, Try.ntmps34
    go_wp2
    go_ret
    exact ⟨by simp; omega, (by repeat' (first | (with_reducible exact Below.refl _ _) | (with_reducible refine Below.alloc ?_ ?_ _) | (with_reducible refine below_drewN ?_ _) | (with_reducible refine Below.drew ?_) | (with_reducible refine Below.setCell ?_ ?_ _) | omega | (simp; omega) | (simp; done)))⟩

set_option maxHeartbeats 800000 in
theorem tnew_no (E P a : Int) (early : Bool) (w : World) (h : may E P = false ∨ a < 0 ∨ 1099511627776 < a) :
    Calls Try.prog 10 #[.agg #[.int .i64 E, .int .i64 P], .int .i64 a, .bool early] w fun e w' => e = .returned (.pointer none) ∧ Below w.heap.size w w' := by
  by_cases hm : may E P = true
  · have hs : decide (0 ≤ a ∧ a ≤ 1099511627776) = false := by
      rcases h with h | h | h
      · rw [hm] at h; exact absurd h (by decide)
      · simp; omega
      · simp; omega
    have hsl := fun w => slot_any a w
    rw [hs] at hsl
    have HSL := Lib.hid hsl
    clear hsl hs h
    go_enter Try.func10, Try.ntmps10
    go_wp2_with (first
      | (go_at_call 33; (with_reducible refine (check_any E P _).mono ?_); rintro e w1 ⟨rfl, hb1⟩; have s_w1 := hb1.size; (try simp only [World.size_alloc, World.size_setCell, World.size_drew, sz_drewN] at s_w1); have z_w1_0_0 : w.heap.size < w1.heap.size := (by omega); have z_w1_0_1 : w.heap.size < w1.heap.size + 1 := (by omega); have z_w1_0_2 : w.heap.size < w1.heap.size + 1 + 1 := (by omega); have q_w1_0_0 : w1.cell? ⟨w.heap.size, 0, none⟩ = some (.int .i64 E) := (hb1.cell (p := ⟨w.heap.size, 0, none⟩) (by first | (show w.heap.size < _; omega) | (show w.heap.size < _; simp; done) | (show w.heap.size < _; simp; omega))).trans (by first | assumption | (go_simp; done)); have q_w1_0_1 : w1.cell? ⟨w.heap.size, 1, none⟩ = some (.int .i64 P) := (hb1.cell (p := ⟨w.heap.size, 1, none⟩) (by first | (show w.heap.size < _; omega) | (show w.heap.size < _; simp; done) | (show w.heap.size < _; simp; omega))).trans (by first | assumption | (go_simp; done)))
      | (go_at_call 34; (with_reducible refine (HSL.out _).mono ?_); rintro e w2 ⟨rfl, hb2⟩))
    go_ret
    exact ⟨rfl, (by have s0_ := hb1.size; have s1_ := hb2.size; (try simp only [World.size_alloc, World.size_setCell, World.size_drew, sz_drewN] at s0_ s1_); repeat' (first | (with_reducible exact Below.refl _ _) | (with_reducible refine bel_call ?_ ?_ hb2) | (with_reducible refine bel_call ?_ ?_ hb1) | (with_reducible refine Below.alloc ?_ ?_ _) | (with_reducible refine below_drewN ?_ _) | (with_reducible refine Below.drew ?_) | (with_reducible refine Below.setCell ?_ ?_ _) | omega | (simp; omega) | (simp; done)))⟩
  · have hm' : may E P = false := by simpa using hm
    clear hm h
    go_enter Try.func10, Try.ntmps10
    go_wp2_with (go_at_call 33; (with_reducible refine (check_any E P _).mono ?_); rintro e w1 ⟨rfl, hb1⟩; have s_w1 := hb1.size; (try simp only [World.size_alloc, World.size_setCell, World.size_drew, sz_drewN] at s_w1); have z_w1_0_0 : w.heap.size < w1.heap.size := (by omega); have z_w1_0_1 : w.heap.size < w1.heap.size + 1 := (by omega); have z_w1_0_2 : w.heap.size < w1.heap.size + 1 + 1 := (by omega); have q_w1_0_0 : w1.cell? ⟨w.heap.size, 0, none⟩ = some (.int .i64 E) := (hb1.cell (p := ⟨w.heap.size, 0, none⟩) (by first | (show w.heap.size < _; omega) | (show w.heap.size < _; simp; done) | (show w.heap.size < _; simp; omega))).trans (by first | assumption | (go_simp; done)); have q_w1_0_1 : w1.cell? ⟨w.heap.size, 1, none⟩ = some (.int .i64 P) := (hb1.cell (p := ⟨w.heap.size, 1, none⟩) (by first | (show w.heap.size < _; omega) | (show w.heap.size < _; simp; done) | (show w.heap.size < _; simp; omega))).trans (by first | assumption | (go_simp; done)))
    go_ret
    exact ⟨rfl, (by have s0_ := hb1.size; (try simp only [World.size_alloc, World.size_setCell, World.size_drew, sz_drewN] at s0_); repeat' (first | (with_reducible exact Below.refl _ _) | (with_reducible refine bel_call ?_ ?_ hb1) | (with_reducible refine Below.alloc ?_ ?_ _) | (with_reducible refine below_drewN ?_ _) | (with_reducible refine Below.drew ?_) | (with_reducible refine Below.setCell ?_ ?_ _) | omega | (simp; omega) | (simp; done)))⟩

set_option maxHeartbeats 1600000 in
theorem tnew_yes (E P a : Int) (early : Bool) (w : World) (e1 : 1 ≤ E) (e2 : E ≤ P) (e3 : P ≤ 1048576) (a0 : 0 ≤ a) (a1 : a ≤ 1099511627776) :
    Calls Try.prog 10 #[.agg #[.int .i64 E, .int .i64 P], .int .i64 a, .bool early] w fun e w' => (∃ t s, w.heap.size ≤ t ∧ w.heap.size ≤ s ∧ s < t ∧ e = .returned (.pointer (some ⟨t, 0, none⟩)) ∧ TC w' t E P early false s (.slice none 0 0) 0 0 0 0 0 0 ∧ Sn w' s E P a 1) ∧ Below w.heap.size w w' := by
  have hsl := fun w => slot_any a w
  rw [show decide (0 ≤ a ∧ a ≤ 1099511627776) = true by simp [a0, a1]] at hsl
  have HSL := Lib.hid hsl
  clear hsl
  go_enter Try.func10, Try.ntmps10
  go_upto_region 3 with (first
    | (go_at_call 33; (with_reducible refine (check_yes E P _ e1 e2 e3).mono ?_); rintro e w1 ⟨rfl, hb1⟩; have s_w1 := hb1.size; (try simp only [World.size_alloc, World.size_setCell, World.size_drew, sz_drewN] at s_w1); have z_w1_0_0 : w.heap.size < w1.heap.size := (by omega); have z_w1_0_1 : w.heap.size < w1.heap.size + 1 := (by omega); have z_w1_0_2 : w.heap.size < w1.heap.size + 1 + 1 := (by omega); have q_w1_0_0 : w1.cell? ⟨w.heap.size, 0, none⟩ = some (.int .i64 E) := (hb1.cell (p := ⟨w.heap.size, 0, none⟩) (by first | (show w.heap.size < _; omega) | (show w.heap.size < _; simp; done) | (show w.heap.size < _; simp; omega))).trans (by first | assumption | (go_simp; done)); have q_w1_0_1 : w1.cell? ⟨w.heap.size, 1, none⟩ = some (.int .i64 P) := (hb1.cell (p := ⟨w.heap.size, 1, none⟩) (by first | (show w.heap.size < _; omega) | (show w.heap.size < _; simp; done) | (show w.heap.size < _; simp; omega))).trans (by first | assumption | (go_simp; done)))
    | (go_at_call 34; (with_reducible refine (HSL.out _).mono ?_); rintro e w2 ⟨rfl, hb2⟩; have s_w2 := hb2.size; (try simp only [World.size_alloc, World.size_setCell, World.size_drew, sz_drewN] at s_w2); have z_w2_0_0 : w.heap.size < w2.heap.size := (by omega); have z_w2_0_1 : w.heap.size < w2.heap.size + 1 := (by omega); have z_w2_0_2 : w.heap.size < w2.heap.size + 1 + 1 := (by omega); have q_w2_0_0 : w2.cell? ⟨w.heap.size, 0, none⟩ = some (.int .i64 E) := (hb2.cell (p := ⟨w.heap.size, 0, none⟩) (by first | (show w.heap.size < _; omega) | (show w.heap.size < _; simp; done) | (show w.heap.size < _; simp; omega))).trans (by first | assumption | (go_simp; done)); have q_w2_0_1 : w2.cell? ⟨w.heap.size, 1, none⟩ = some (.int .i64 P) := (hb2.cell (p := ⟨w.heap.size, 1, none⟩) (by first | (show w.heap.size < _; omega) | (show w.heap.size < _; simp; done) | (show w.heap.size < _; simp; omega))).trans (by first | assumption | (go_simp; done))))
  refine gen_world (F := fun V => V.cell? ⟨w.heap.size, 0, none⟩ = some (.int .i64 E) ∧ V.cell? ⟨w.heap.size, 1, none⟩ = some (.int .i64 P) ∧ w.heap.size < V.heap.size ∧ Below w.heap.size w V) ⟨q_w2_0_0, q_w2_0_1, by omega, (by have s0_ := hb1.size; have s1_ := hb2.size; (try simp only [World.size_alloc, World.size_setCell, World.size_drew, sz_drewN] at s0_ s1_); repeat' (first | (with_reducible exact Below.refl _ _) | (with_reducible refine bel_call ?_ ?_ hb2) | (with_reducible refine bel_call ?_ ?_ hb1) | (with_reducible refine Below.alloc ?_ ?_ _) | (with_reducible refine below_drewN ?_ _) | (with_reducible refine Below.drew ?_) | (with_reducible refine Below.setCell ?_ ?_ _) | omega | (simp; omega) | (simp; done)))⟩ ?_
  clear hb1 hb2 s_w1 s_w2 q_w1_0_0 q_w1_0_1 q_w2_0_0 q_w2_0_1
  rintro V ⟨c0, c1, vs, hbv⟩
  go_region_held3 (fun x => Below (V).heap.size (V) x ∧ (∀ b o, b < (V).heap.size → x.cell? ⟨b, o, none⟩ = (V).cell? ⟨b, o, none⟩) ∧ (∀ b o, b < (V).heap.size → x.frozen? ⟨b, o, none⟩ = (V).frozen? ⟨b, o, none⟩)) ((first | (simp only [mark_set]; refine held_of ?_; repeat' (first | (with_reducible exact (by with_reducible assumption : Below _ _ _ ∧ _).1) | (with_reducible refine below_setc ?_ ?_) | omega | (simp; done) | (simp; omega))) | (with_reducible exact held_of ((by with_reducible assumption : Below _ _ _ ∧ _).1.trans (hb.mono (by with_reducible assumption : Below _ _ _ ∧ _).1.size))) | (with_reducible exact held_of (Below.drew (Below.refl _ _))) | (with_reducible exact held_of ((by with_reducible assumption : Below _ _ _ ∧ _).1.alloc (by with_reducible assumption : Below _ _ _ ∧ _).1.size _)) | (with_reducible exact held_of (below_realloc hz (by with_reducible assumption : Below _ _ (World.alloc _ _) ∧ _).1)))) (first
    | (go_at_call 35; (with_reducible refine (new_yes E P a _ e1 e2 e3 a0 (by omega)).mono ?_); rintro e w1 ⟨⟨s, gs, rfl, hsn⟩, hb⟩; have HN := Lib.hid hsn; have ssz := st_size hsn; clear hsn; obtain ⟨hc, hf⟩ := bcell hb; (try (have hbc := bel_chain (by with_reducible assumption) hb; obtain ⟨hcc, hfc⟩ := bcell hbc)); have hz := Nat.le_trans (by with_reducible assumption : Below (V).heap.size (V) _ ∧ _).1.size hb.size))
  all_goals
    have hBB := (by with_reducible assumption : Below V.heap.size V _ ∧ _).1
    go_wp2
    go_ret
    refine ⟨⟨w1.heap.size, s, ?_, ?_, ?_, rfl, ⟨?_, ?_, ?_, ?_, ?_, ?_, ?_, ?_, ?_, ?_, ?_, ?_, ?_, ?_⟩, HN.out.keepb (by repeat' (first | (with_reducible exact Below.refl _ _) | (with_reducible refine Below.alloc ?_ ?_ _) | (with_reducible refine below_drewN ?_ _) | (with_reducible refine Below.drew ?_) | (with_reducible refine Below.setCell ?_ ?_ _) | omega | (simp; omega) | (simp; done)))⟩, bel_chain0 hbv ?_⟩
    · have := hbv.size; have := hb.size; simp at this gs; omega
    · have := hbv.size; simp at gs; omega
    · exact ssz
    iterate 12 (focus (go_simp; done))
    · intro o; go_simp
    · simp
    · exact hBB.mono (by omega)

set_option maxHeartbeats 400000 in
theorem waits_nil (w : World) : Calls Try.prog 13 #[.pointer none] w fun e w' => e = .returned (.int .i64 0) ∧ Below w.heap.size w w' := by
  go_enter Try.func13, Try.ntmps13
  go_wp2
  go_ret
  exact ⟨rfl, (by repeat' (first | (with_reducible exact Below.refl _ _) | (with_reducible refine Below.alloc ?_ ?_ _) | (with_reducible refine below_drewN ?_ _) | (with_reducible refine Below.drew ?_) | (with_reducible refine Below.setCell ?_ ?_ _) | omega | (simp; omega) | (simp; done)))⟩
set_option maxHeartbeats 400000 in
theorem done_nil (w : World) : Calls Try.prog 17 #[.pointer none] w fun e w' => e = .returned (.int .i64 0) ∧ Below w.heap.size w w' := by
  go_enter Try.func17, Try.ntmps17
  go_wp2
  go_ret
  exact ⟨rfl, (by repeat' (first | (with_reducible exact Below.refl _ _) | (with_reducible refine Below.alloc ?_ ?_ _) | (with_reducible refine below_drewN ?_ _) | (with_reducible refine Below.drew ?_) | (with_reducible refine Below.setCell ?_ ?_ _) | omega | (simp; omega) | (simp; done)))⟩
set_option maxHeartbeats 400000 in
theorem cut_nil (a : Int) (w : World) : Calls Try.prog 21 #[.pointer none, .int .i64 a] w fun e w' => e = .returned (.int .i64 0) ∧ Below w.heap.size w w' := by
  go_enter Try.func21, Try.ntmps21
  go_wp2
  try go_step3
  try go_wp2
  try rw [Exit.noGoto_ret]
  go_ret
  exact ⟨rfl, (by repeat' (first | (with_reducible exact Below.refl _ _) | (with_reducible refine Below.alloc ?_ ?_ _) | (with_reducible refine below_drewN ?_ _) | (with_reducible refine Below.drew ?_) | (with_reducible refine Below.setCell ?_ ?_ _) | omega | (simp; omega) | (simp; done)))⟩
set_option maxHeartbeats 400000 in
theorem arrive_nil (a n : Int) (w : World) : Calls Try.prog 12 #[.pointer none, .int .i64 a, .int .i64 n] w fun e w' => e = .returned (.int .i64 1) ∧ Below w.heap.size w w' := by
  go_enter Try.func12, Try.ntmps12
  go_wp2
  go_ret
  exact ⟨rfl, (by repeat' (first | (with_reducible exact Below.refl _ _) | (with_reducible refine Below.alloc ?_ ?_ _) | (with_reducible refine below_drewN ?_ _) | (with_reducible refine Below.drew ?_) | (with_reducible refine Below.setCell ?_ ?_ _) | omega | (simp; omega) | (simp; done)))⟩
set_option maxHeartbeats 400000 in
theorem weight_nil (w : World) : Calls Try.prog 31 #[.pointer none] w fun e w' => e = .returned (.agg #[.int .i64 0, .int .i64 0]) ∧ Below w.heap.size w w' := by
  go_enter Try.func31, Try.ntmps31
  go_wp2
  exact bodyPost_ret (v := .agg #[.int .i64 0, .int .i64 0]) (by simp only [results, Try.results31]; go_simp) rfl ⟨rfl, (by repeat' (first | (with_reducible exact Below.refl _ _) | (with_reducible refine Below.alloc ?_ ?_ _) | (with_reducible refine below_drewN ?_ _) | (with_reducible refine Below.drew ?_) | (with_reducible refine Below.setCell ?_ ?_ _) | omega | (simp; omega) | (simp; done)))⟩

set_option maxHeartbeats 800000 in
theorem head_none (p : Option Addr) (w : World) (hw : Hid (∀ w1, Below w.heap.size w w1 → Calls Try.prog 13 #[.pointer p] w1 fun e w' => e = .returned (.int .i64 0) ∧ Below w1.heap.size w1 w')) :
    Calls Try.prog 29 #[.pointer p] w fun e w' => e = .returned (.tuple #[.agg #[.int .i64 0, .int .i64 0, .int .i64 0, .int .i64 0, .int .i64 0], .bool false]) ∧ Below w.heap.size w w' := by
  go_enter Try.func29, Try.ntmps29
  go_upto_region 2 with (go_at_call 13; (with_reducible refine (hw.out _ ?_).mono ?_); (focus (exact (by repeat' (first | (with_reducible exact Below.refl _ _) | (with_reducible refine Below.alloc ?_ ?_ _) | (with_reducible refine below_drewN ?_ _) | (with_reducible refine Below.drew ?_) | (with_reducible refine Below.setCell ?_ ?_ _) | omega | (simp; omega) | (simp; done))))); rintro e w1 ⟨rfl, hb1⟩; have s_w1 := hb1.size; (try simp only [World.size_alloc, World.size_setCell, World.size_drew, sz_drewN] at s_w1); have z_w1_0_0 : w.heap.size < w1.heap.size := (by omega); have z_w1_0_1 : w.heap.size < w1.heap.size + 1 := (by omega); have z_w1_0_2 : w.heap.size < w1.heap.size + 1 + 1 := (by omega); have q_w1_0_0 : w1.cell? ⟨w.heap.size, 0, none⟩ = some (.int .i64 0) := (hb1.cell (p := ⟨w.heap.size, 0, none⟩) (by first | (show w.heap.size < _; omega) | (show w.heap.size < _; simp; done) | (show w.heap.size < _; simp; omega))).trans (by first | assumption | (go_simp; done)); have q_w1_0_1 : w1.cell? ⟨w.heap.size, 1, none⟩ = some (.int .i64 0) := (hb1.cell (p := ⟨w.heap.size, 1, none⟩) (by first | (show w.heap.size < _; omega) | (show w.heap.size < _; simp; done) | (show w.heap.size < _; simp; omega))).trans (by first | assumption | (go_simp; done)); have q_w1_0_2 : w1.cell? ⟨w.heap.size, 2, none⟩ = some (.int .i64 0) := (hb1.cell (p := ⟨w.heap.size, 2, none⟩) (by first | (show w.heap.size < _; omega) | (show w.heap.size < _; simp; done) | (show w.heap.size < _; simp; omega))).trans (by first | assumption | (go_simp; done)); have q_w1_0_3 : w1.cell? ⟨w.heap.size, 3, none⟩ = some (.int .i64 0) := (hb1.cell (p := ⟨w.heap.size, 3, none⟩) (by first | (show w.heap.size < _; omega) | (show w.heap.size < _; simp; done) | (show w.heap.size < _; simp; omega))).trans (by first | assumption | (go_simp; done)); have q_w1_0_4 : w1.cell? ⟨w.heap.size, 4, none⟩ = some (.int .i64 0) := (hb1.cell (p := ⟨w.heap.size, 4, none⟩) (by first | (show w.heap.size < _; omega) | (show w.heap.size < _; simp; done) | (show w.heap.size < _; simp; omega))).trans (by first | assumption | (go_simp; done)); have wf : ∀ o, w1.frozen? ⟨w.heap.size, o, none⟩ = false := (fun o => (hb1.frozen (p := ⟨w.heap.size, o, none⟩) (by simp)).trans (by go_simp)))
  refine gen_world (F := fun V => V.cell? ⟨w.heap.size, 0, none⟩ = some (.int .i64 (0)) ∧ V.cell? ⟨w.heap.size, 1, none⟩ = some (.int .i64 (0)) ∧ V.cell? ⟨w.heap.size, 2, none⟩ = some (.int .i64 (0)) ∧ V.cell? ⟨w.heap.size, 3, none⟩ = some (.int .i64 (0)) ∧ V.cell? ⟨w.heap.size, 4, none⟩ = some (.int .i64 (0)) ∧ (∀ o, V.frozen? ⟨w.heap.size, o, none⟩ = false) ∧ w.heap.size < V.heap.size ∧ Below w.heap.size w V) ⟨q_w1_0_0, q_w1_0_1, q_w1_0_2, q_w1_0_3, q_w1_0_4, wf, by omega, (by have s0_ := hb1.size; (try simp only [World.size_alloc, World.size_setCell, World.size_drew, sz_drewN] at s0_); repeat' (first | (with_reducible exact Below.refl _ _) | (with_reducible refine bel_call ?_ ?_ hb1) | (with_reducible refine Below.alloc ?_ ?_ _) | (with_reducible refine below_drewN ?_ _) | (with_reducible refine Below.drew ?_) | (with_reducible refine Below.setCell ?_ ?_ _) | omega | (simp; omega) | (simp; done)))⟩ ?_
  clear hb1 wf s_w1 q_w1_0_0 q_w1_0_1 q_w1_0_2 q_w1_0_3 q_w1_0_4 hw
  rintro V ⟨l0, l1, l2, l3, l4, lf, ls, vb⟩
  go_wp2
  exact bodyPost_ret (v := .tuple #[.agg #[.int .i64 0, .int .i64 0, .int .i64 0, .int .i64 0, .int .i64 0], .bool false]) (by simp only [results, Try.results29]; go_simp) rfl ⟨rfl, bel_chain0 vb (by repeat' (first | (with_reducible exact Below.refl _ _) | (with_reducible refine Below.alloc ?_ ?_ _) | (with_reducible refine below_drewN ?_ _) | (with_reducible refine Below.drew ?_) | (with_reducible refine Below.setCell ?_ ?_ _) | omega | (simp; omega) | (simp; done)))⟩
theorem head_nil (w : World) : Calls Try.prog 29 #[.pointer none] w fun e w' => e = .returned (.tuple #[.agg #[.int .i64 0, .int .i64 0, .int .i64 0, .int .i64 0, .int .i64 0], .bool false]) ∧ Below w.heap.size w w' := head_none none w (fun w1 _ => waits_nil w1)
end Go.Proofs.Ytkmgkggkdmlkeaa
