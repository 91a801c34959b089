/- Contracts of the task: Arrive where there is no room, Run of a row that lies anywhere. -/
import Derived.Test.YtkmgkggkdmlkeaaArr
import Derived.Test.YtkmgkggkdmlkeaaHd
namespace Go.Proofs.Ytkmgkggkdmlkeaa
open Go.RowKit
set_option linter.unusedVariables false
set_option linter.unusedSimpArgs false

set_option maxRecDepth 8000 in
set_option maxHeartbeats 1600000 in
theorem arrive_full (t s : Nat) (E P a : Int) (early : Bool) (p : Option Addr) (m cap : Nat) (r0 r1 r2 r3 r4 done : Int) (n : Nat) (w : World)
    (hT : TC w t E P early false s (.slice p m cap) r0 r1 r2 r3 r4 done) (a0 : 0 ≤ a) (a1 : a ≤ 1099511627776) (n1 : 1 ≤ n) (n2 : n ≤ 64) (hm : m ≤ 64) (hn : 64 < m + n) :
    Calls Try.prog 12 #[.pointer (some ⟨t, 0, none⟩), .int .i64 a, .int .i64 n] w fun e w' => e = .returned (.int .i64 15) ∧ Below w.heap.size w w' := by
  have tsz := tc_size hT
  have c3 := hT.2.2.2.1
  have c5 := hT.2.2.2.2.2.1
  have hsl := fun w => slot_any a w
  rw [show decide (0 ≤ a ∧ a ≤ 1099511627776) = true by simp [a0, a1]] at hsl
  have HSL := Lib.hid hsl
  have wmn : IntKind.i64.wrap ((m : Int) + n) = (m : Int) + n := IntWalk.i64_in _ (by omega)
  clear hsl hT
  go_enter Try.func12, Try.ntmps12
  go_wp2_with (go_at_call 34; (with_reducible refine (HSL.out _).mono ?_); rintro e w1 ⟨rfl, hb1⟩; have s_w1 := hb1.size; (try simp only [World.size_alloc, World.size_setCell, World.size_drew, sz_drewN] at s_w1); have z_w1_0_0 : w.heap.size < w1.heap.size := (by omega); have z_w1_0_1 : w.heap.size < w1.heap.size + 1 := (by omega); have z_w1_0_2 : w.heap.size < w1.heap.size + 1 + 1 := (by omega); have q_w1_0_0 : w1.cell? ⟨w.heap.size, 0, none⟩ = some (.pointer (some ⟨t, 0, none⟩)) := (hb1.cell (p := ⟨w.heap.size, 0, none⟩) (by first | (show w.heap.size < _; omega) | (show w.heap.size < _; simp; done) | (show w.heap.size < _; simp; omega))).trans (by first | assumption | (go_simp; done)); have z_w1_1_0 : w.heap.size + 1 < w1.heap.size := (by omega); have z_w1_1_1 : w.heap.size + 1 < w1.heap.size + 1 := (by omega); have z_w1_1_2 : w.heap.size + 1 < w1.heap.size + 1 + 1 := (by omega); have q_w1_1_0 : w1.cell? ⟨w.heap.size + 1, 0, none⟩ = some (.int .i64 a) := (hb1.cell (p := ⟨w.heap.size + 1, 0, none⟩) (by first | (show w.heap.size + 1 < _; omega) | (show w.heap.size + 1 < _; simp; done) | (show w.heap.size + 1 < _; simp; omega))).trans (by first | assumption | (go_simp; done)); have d3 : w1.cell? ⟨t, 3, none⟩ = some (.bool false) := (hb1.cell (p := ⟨t, 3, none⟩) (by first | (simp; done) | (simp; omega))).trans (by go_simp); have d5 : w1.cell? ⟨t, 5, none⟩ = some (.slice p m cap) := (hb1.cell (p := ⟨t, 5, none⟩) (by first | (simp; done) | (simp; omega))).trans (by go_simp))
  go_ret
  exact ⟨rfl, (by have s0_ := hb1.size; (try simp only [World.size_alloc, World.size_setCell, World.size_drew, sz_drewN] at s0_); repeat' (first | (with_reducible exact Below.refl _ _) | (with_reducible refine bel_call ?_ ?_ hb1) | (with_reducible refine Below.alloc ?_ ?_ _) | (with_reducible refine below_drewN ?_ _) | (with_reducible refine Below.drew ?_) | (with_reducible refine Below.setCell ?_ ?_ _) | omega | (simp; omega) | (simp; done)))⟩

theorem arrive_cut (t s : Nat) (E P a : Int) (early : Bool) (p : Option Addr) (m cap : Nat) (r0 r1 r2 r3 r4 done : Int) (n : Nat) (w : World)
    (hT : TC w t E P early true s (.slice p m cap) r0 r1 r2 r3 r4 done) (a0 : 0 ≤ a) (a1 : a ≤ 1099511627776) (n1 : 1 ≤ n) (n2 : n ≤ 64) :
    Calls Try.prog 12 #[.pointer (some ⟨t, 0, none⟩), .int .i64 a, .int .i64 n] w fun e w' => e = .returned (.int .i64 13) ∧ Below w.heap.size w w' := by
  have tsz := tc_size hT
  have c3 := hT.2.2.2.1
  have c5 := hT.2.2.2.2.2.1
  have hsl := fun w => slot_any a w
  rw [show decide (0 ≤ a ∧ a ≤ 1099511627776) = true by simp [a0, a1]] at hsl
  have HSL := Lib.hid hsl
  clear hsl hT
  go_enter Try.func12, Try.ntmps12
  go_wp2_with (go_at_call 34; (with_reducible refine (HSL.out _).mono ?_); rintro e w1 ⟨rfl, hb1⟩; have s_w1 := hb1.size; (try simp only [World.size_alloc, World.size_setCell, World.size_drew, sz_drewN] at s_w1); have z_w1_0_0 : w.heap.size < w1.heap.size := (by omega); have z_w1_0_1 : w.heap.size < w1.heap.size + 1 := (by omega); have z_w1_0_2 : w.heap.size < w1.heap.size + 1 + 1 := (by omega); have q_w1_0_0 : w1.cell? ⟨w.heap.size, 0, none⟩ = some (.pointer (some ⟨t, 0, none⟩)) := (hb1.cell (p := ⟨w.heap.size, 0, none⟩) (by first | (show w.heap.size < _; omega) | (show w.heap.size < _; simp; done) | (show w.heap.size < _; simp; omega))).trans (by first | assumption | (go_simp; done)); have z_w1_1_0 : w.heap.size + 1 < w1.heap.size := (by omega); have z_w1_1_1 : w.heap.size + 1 < w1.heap.size + 1 := (by omega); have z_w1_1_2 : w.heap.size + 1 < w1.heap.size + 1 + 1 := (by omega); have q_w1_1_0 : w1.cell? ⟨w.heap.size + 1, 0, none⟩ = some (.int .i64 a) := (hb1.cell (p := ⟨w.heap.size + 1, 0, none⟩) (by first | (show w.heap.size + 1 < _; omega) | (show w.heap.size + 1 < _; simp; done) | (show w.heap.size + 1 < _; simp; omega))).trans (by first | assumption | (go_simp; done)); have d3 : w1.cell? ⟨t, 3, none⟩ = some (.bool true) := (hb1.cell (p := ⟨t, 3, none⟩) (by first | (simp; done) | (simp; omega))).trans (by go_simp); have d5 : w1.cell? ⟨t, 5, none⟩ = some (.slice p m cap) := (hb1.cell (p := ⟨t, 5, none⟩) (by first | (simp; done) | (simp; omega))).trans (by go_simp))
  go_ret
  exact ⟨rfl, (by have s0_ := hb1.size; (try simp only [World.size_alloc, World.size_setCell, World.size_drew, sz_drewN] at s0_); repeat' (first | (with_reducible exact Below.refl _ _) | (with_reducible refine bel_call ?_ ?_ hb1) | (with_reducible refine Below.alloc ?_ ?_ _) | (with_reducible refine below_drewN ?_ _) | (with_reducible refine Below.drew ?_) | (with_reducible refine Below.setCell ?_ ?_ _) | omega | (simp; omega) | (simp; done)))⟩

/-- Run of a row that lies anywhere. -/
theorem run_row (t cap len s base : Nat) (p : Option Addr) (E P : Int) (early cut : Bool) (r0 r1 r2 r3 r4 done : Int) (x0 x1 x2 x3 x4 : Int) (rest : List Value) (w : World) (hT : TC w t E P early cut s (.slice p len cap) r0 r1 r2 r3 r4 done)
    (hR : RowAt w base 5 (.slice p len cap) len ([.int .i64 x0, .int .i64 x1, .int .i64 x2, .int .i64 x3, .int .i64 x4] ++ rest)) (hl : 1 ≤ len) (hl' : len ≤ 64) (hgt : ∀ g, (Value.slice p len cap).ownBlock = some g → g ≠ t) (d0 : 0 ≤ done) (d1 : done ≤ 1000000000) :
    Calls Try.prog 14 #[.pointer (some ⟨t, 0, none⟩)] w fun e w' => e = .returned (.tuple #[.agg #[.int .i64 x0, .int .i64 x1, .int .i64 x2, .int .i64 x3, .int .i64 x4], .bool true]) ∧
      (∃ q c, TC w' t E P early cut s (.slice q (len - 1) c) x0 x1 x2 x3 x4 (done + 1) ∧ RowAt w' base 5 (.slice q (len - 1) c) (len - 1) rest ∧ (∀ g, (Value.slice q (len - 1) c).ownBlock = some g → (Value.slice p len cap).ownBlock = some g)) ∧ Only t w w' := by
  obtain ⟨g, o, rfl, gb, gs, hcap, hcl, hsp⟩ := hR.some (by omega)
  have gt : g ≠ t := hgt g rfl
  have c0 : w.cell? ⟨g, o, none⟩ = some (.int .i64 x0) := hcl 0 (by omega)
  have c1 : w.cell? ⟨g, o + 1, none⟩ = some (.int .i64 x1) := hcl 1 (by omega)
  have c2 : w.cell? ⟨g, o + 2, none⟩ = some (.int .i64 x2) := hcl 2 (by omega)
  have c3 : w.cell? ⟨g, o + 3, none⟩ = some (.int .i64 x3) := hcl 3 (by omega)
  have c4 : w.cell? ⟨g, o + 4, none⟩ = some (.int .i64 x4) := hcl 4 (by omega)
  obtain ⟨n, rfl⟩ : ∃ n, len = n + 1 := ⟨len - 1, by omega⟩
  by_cases h : n = 0
  · subst h
    refine (run_last t g o cap s E P early cut r0 r1 r2 r3 r4 done x0 x1 x2 x3 x4 w hT hcap gt d0 d1 c0 c1 c2 c3 c4 gs).mono ?_
    rintro e w1 ⟨rfl, h1, h2⟩
    have hr2 := (hR.clip (cap' := 1) (by omega) hcap).tail rfl o (.inr rfl)
    exact ⟨rfl, ⟨_, _, h1, row_only hr2 h2 (fun g' hg => by cases hg; exact gt), fun g' hg => hg⟩, h2⟩
  · refine (run_more t g o cap (n + 1) s E P early cut r0 r1 r2 r3 r4 done x0 x1 x2 x3 x4 w hT (by omega) hl' hcap gt d0 d1 c0 c1 c2 c3 c4 gs).mono ?_
    rintro e w1 ⟨rfl, h1, h2⟩
    have hr2 := (hR.clip (cap' := n + 1) (by omega) hcap).tail rfl (o + 5) (.inl rfl)
    exact ⟨rfl, ⟨_, _, h1, row_only hr2 h2 (fun g' hg => by cases hg; exact gt), fun g' hg => by cases hg; rfl⟩, h2⟩

/-- The first that arrives, and the others. -/
theorem asub_head (E P a off i : Int) (n : Nat) (hn : 1 ≤ n) : ∃ (y0 y1 y2 y3 y4 : Int) (rest : List Value), asub E P a off i n = [.int .i64 y0, .int .i64 y1, .int .i64 y2, .int .i64 y3, .int .i64 y4] ++ rest := by
  induction n with
  | zero => omega
  | succ n ih =>
    by_cases h : n = 0
    · subst h
      exact ⟨_, _, _, _, _, [], rfl⟩
    · obtain ⟨y0, y1, y2, y3, y4, rest, e⟩ := ih (by omega)
      exact ⟨y0, y1, y2, y3, y4, rest ++ _, by show asub E P a off i n ++ _ = _; rw [e, List.append_assoc]⟩
end Go.Proofs.Ytkmgkggkdmlkeaa
