/- Contracts of the task's Done, Weight, of a task that is there; Last of one of which none waits. -/
import Derived.Test.YtkmgkggkdmlkeaaHd
namespace Go.Proofs.Ytkmgkggkdmlkeaa
open Go.RowKit
set_option linter.unusedVariables false
set_option linter.unusedSimpArgs false

set_option maxHeartbeats 400000 in
theorem done_any (t : Nat) (d : Int) (w : World) (h : w.cell? ⟨t, 11, none⟩ = some (.int .i64 d)) : Calls Try.prog 17 #[.pointer (some ⟨t, 0, none⟩)] w fun e w' => e = .returned (.int .i64 d) ∧ Below w.heap.size w w' := by
  go_enter Try.func17, Try.ntmps17
  go_wp2
  go_ret
  exact ⟨rfl, (by repeat' (first | (with_reducible exact Below.refl _ _) | (with_reducible refine Below.alloc ?_ ?_ _) | (with_reducible refine below_drewN ?_ _) | (with_reducible refine Below.drew ?_) | (with_reducible refine Below.setCell ?_ ?_ _) | omega | (simp; omega) | (simp; done)))⟩
set_option maxHeartbeats 800000 in
theorem weight_any (t : Nat) (E P : Int) (w : World) (h0 : w.cell? ⟨t, 0, none⟩ = some (.int .i64 E)) (h1 : w.cell? ⟨t, 1, none⟩ = some (.int .i64 P)) (ht : t < w.heap.size) : Calls Try.prog 31 #[.pointer (some ⟨t, 0, none⟩)] w fun e w' => e = .returned (.agg #[.int .i64 E, .int .i64 P]) ∧ Below w.heap.size w w' := by
  go_enter Try.func31, Try.ntmps31
  go_wp2
  exact bodyPost_ret (v := .agg #[.int .i64 E, .int .i64 P]) (by simp only [results, Try.results31]; go_simp) rfl ⟨rfl, (by repeat' (first | (with_reducible exact Below.refl _ _) | (with_reducible refine Below.alloc ?_ ?_ _) | (with_reducible refine below_drewN ?_ _) | (with_reducible refine Below.drew ?_) | (with_reducible refine Below.setCell ?_ ?_ _) | omega | (simp; omega) | (simp; done)))⟩
theorem head_empty (t : Nat) (p : Option Addr) (cap : Nat) (w : World) (h : w.cell? ⟨t, 5, none⟩ = some (.slice p 0 cap)) (ht : t < w.heap.size) :
    Calls Try.prog 29 #[.pointer (some ⟨t, 0, none⟩)] w fun e w' => e = .returned (.tuple #[.agg #[.int .i64 0, .int .i64 0, .int .i64 0, .int .i64 0, .int .i64 0], .bool false]) ∧ Below w.heap.size w w' :=
  head_none (some ⟨t, 0, none⟩) w (fun w1 hb => waits_any t p 0 cap w1 ((hb.cell (p := ⟨t, 5, none⟩) ht).trans h))

set_option maxHeartbeats 1600000 in
theorem run_empty (t : Nat) (p : Option Addr) (cap : Nat) (w : World) (h : w.cell? ⟨t, 5, none⟩ = some (.slice p 0 cap)) (ht : t < w.heap.size) : Calls Try.prog 14 #[.pointer (some ⟨t, 0, none⟩)] w fun e w' => e = .returned (.tuple #[.agg #[.int .i64 0, .int .i64 0, .int .i64 0, .int .i64 0, .int .i64 0], .bool false]) ∧ Below w.heap.size w w' := by
  have hh := fun w1 (hb : Below w.heap.size w w1) => head_empty t p cap w1 ((hb.cell (p := ⟨t, 5, none⟩) ht).trans h) (Nat.lt_of_lt_of_le ht hb.size)
  have HH := Lib.hid hh
  clear hh h
  go_enter Try.func14, Try.ntmps14
  go_upto_region 2 with (go_at_call 29; (with_reducible refine (HH.out _ ?_).mono ?_); (focus (exact (by repeat' (first | (with_reducible exact Below.refl _ _) | (with_reducible refine Below.alloc ?_ ?_ _) | (with_reducible refine below_drewN ?_ _) | (with_reducible refine Below.drew ?_) | (with_reducible refine Below.setCell ?_ ?_ _) | omega | (simp; omega) | (simp; done))))); rintro e w1 ⟨rfl, hw1⟩; have s_w1 := hw1.size; (try simp only [World.size_alloc, World.size_setCell, World.size_drew, sz_drewN] at s_w1); have z_w1_0_0 : w.heap.size < w1.heap.size := (by omega); have z_w1_0_1 : w.heap.size < w1.heap.size + 1 := (by omega); have z_w1_0_2 : w.heap.size < w1.heap.size + 1 + 1 := (by omega); have q_w1_0_0 : w1.cell? ⟨w.heap.size, 0, none⟩ = some (.int .i64 0) := (hw1.cell (p := ⟨w.heap.size, 0, none⟩) (by first | (show w.heap.size < _; omega) | (show w.heap.size < _; simp; done) | (show w.heap.size < _; simp; omega))).trans (by first | assumption | (go_simp; done)); have q_w1_0_1 : w1.cell? ⟨w.heap.size, 1, none⟩ = some (.int .i64 0) := (hw1.cell (p := ⟨w.heap.size, 1, none⟩) (by first | (show w.heap.size < _; omega) | (show w.heap.size < _; simp; done) | (show w.heap.size < _; simp; omega))).trans (by first | assumption | (go_simp; done)); have q_w1_0_2 : w1.cell? ⟨w.heap.size, 2, none⟩ = some (.int .i64 0) := (hw1.cell (p := ⟨w.heap.size, 2, none⟩) (by first | (show w.heap.size < _; omega) | (show w.heap.size < _; simp; done) | (show w.heap.size < _; simp; omega))).trans (by first | assumption | (go_simp; done)); have q_w1_0_3 : w1.cell? ⟨w.heap.size, 3, none⟩ = some (.int .i64 0) := (hw1.cell (p := ⟨w.heap.size, 3, none⟩) (by first | (show w.heap.size < _; omega) | (show w.heap.size < _; simp; done) | (show w.heap.size < _; simp; omega))).trans (by first | assumption | (go_simp; done)); have q_w1_0_4 : w1.cell? ⟨w.heap.size, 4, none⟩ = some (.int .i64 0) := (hw1.cell (p := ⟨w.heap.size, 4, none⟩) (by first | (show w.heap.size < _; omega) | (show w.heap.size < _; simp; done) | (show w.heap.size < _; simp; omega))).trans (by first | assumption | (go_simp; done)); have fw1 : ∀ o, w1.frozen? ⟨w.heap.size, o, none⟩ = false := (fun o => (hw1.frozen (p := ⟨w.heap.size, o, none⟩) (by first | (simp; done) | (simp; omega))).trans (by go_simp)))
  refine gen_world (F := fun V => V.cell? ⟨w.heap.size, 0, none⟩ = some (.int .i64 (0)) ∧ V.cell? ⟨w.heap.size, 1, none⟩ = some (.int .i64 (0)) ∧ V.cell? ⟨w.heap.size, 2, none⟩ = some (.int .i64 (0)) ∧ V.cell? ⟨w.heap.size, 3, none⟩ = some (.int .i64 (0)) ∧ V.cell? ⟨w.heap.size, 4, none⟩ = some (.int .i64 (0)) ∧ (∀ o, V.frozen? ⟨w.heap.size, o, none⟩ = false) ∧ w.heap.size < V.heap.size ∧ Below w.heap.size w V) ⟨?_, ?_, ?_, ?_, ?_, ?_, ?_, (by have s0_ := hw1.size; (try simp only [World.size_alloc, World.size_setCell, World.size_drew, sz_drewN] at s0_); repeat' (first | (with_reducible exact Below.refl _ _) | (with_reducible refine bel_call ?_ ?_ hw1) | (with_reducible refine Below.alloc ?_ ?_ _) | (with_reducible refine below_drewN ?_ _) | (with_reducible refine Below.drew ?_) | (with_reducible refine Below.setCell ?_ ?_ _) | omega | (simp; omega) | (simp; done)))⟩ ?_
  iterate 5 (focus (go_simp; done))
  · intro o; go_simp
  · first | (simp; done) | (simp; omega) | omega
  rintro V ⟨l0, l1, l2, l3, l4, lf, ls, vb⟩
  clear hw1 HH
  go_wp2
  exact bodyPost_ret (v := .tuple #[.agg #[.int .i64 0, .int .i64 0, .int .i64 0, .int .i64 0, .int .i64 0], .bool false]) (by simp only [results, Try.results14]; go_simp) rfl ⟨rfl, bel_chain0 vb (by repeat' (first | (with_reducible exact Below.refl _ _) | (with_reducible refine Below.alloc ?_ ?_ _) | (with_reducible refine below_drewN ?_ _) | (with_reducible refine Below.drew ?_) | (with_reducible refine Below.setCell ?_ ?_ _) | omega | (simp; omega) | (simp; done)))⟩
end Go.Proofs.Ytkmgkggkdmlkeaa
