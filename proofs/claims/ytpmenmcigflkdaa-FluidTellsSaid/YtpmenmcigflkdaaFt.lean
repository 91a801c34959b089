/- Due of any weight and slot; the document's Follows; tells: all that FluidTells asks. Written by genft.py. -/
import Derived.Test.YtpmenmcigflkdaaFd
import Derived.Deep.RegionHeld
namespace Go.Proofs.Ytpmenmcigflkdaa
open Go.RowKit
set_option linter.unusedVariables false
set_option linter.unusedSimpArgs false

theorem mayn_all (n : Int) (w : World) : Calls Try.prog 50 #[.int .i64 n] w fun e w' => e = .returned (.bool (mayN n)) ∧ Below w.heap.size w w' := by
  cases h : mayN n with
  | true => exact (mayn_yes n w (mayN_bd h).1 (mayN_bd h).2).mono fun _ _ k => ⟨k.1, by rw [← k.2]; exact Below.refl _ _⟩
  | false => exact (mayn_no n w h).mono fun _ _ k => ⟨k.1, by rw [← k.2]; exact Below.refl _ _⟩
def dueV (E P s : Int) : Bool := (mayN (IntKind.i64.wrap (s + 1)) && mayN s) && decide (lowV E P s < lowV E P (s + 1))

set_option maxRecDepth 8000 in
set_option maxHeartbeats 3200000 in
theorem due_in (E P s : Int) (w : World) (s0 : 0 ≤ s) (s1 : s ≤ 1099511627775) : Calls Try.prog 33 #[.agg #[.int .i64 E, .int .i64 P], .int .i64 s] w fun e w' => e = .returned (.bool (decide (lowV E P s < lowV E P (s + 1)))) ∧ Below w.heap.size w w' := by
  have W1 : IntKind.i64.wrap (s + 1) = s + 1 := wrap_in _ (by omega) (by omega)
  have m1 := fun w => mayn_all s w
  have m2 := fun w => mayn_all (s + 1) w
  rw [show mayN s = true by simp [mayN]; omega] at m1
  rw [show mayN (s + 1) = true by simp [mayN]; omega] at m2
  have h1 := fun w => low_any E P s w
  have h2 := fun w => low_any E P (s + 1) w
  generalize lowV E P s = L at *
  generalize lowV E P (s + 1) = M at *
  have H1 := Lib.hid h1
  have H2 := Lib.hid h2
  have M1 := Lib.hid m1
  have M2 := Lib.hid m2
  clear h1 h2 m1 m2
  go_enter Try.func33, Try.ntmps33
  go_wp2_with fail
  refine wp_region_held_drew (S := (fun x => x.cell? ⟨w.heap.size, 0, none⟩ = some (.int .i64 E) ∧ x.cell? ⟨w.heap.size, 1, none⟩ = some (.int .i64 P) ∧ w.heap.size < x.heap.size)) (by kernel_rfl) ?_ (fun hHeld => ?_)
  focus (exact ⟨by simp, by simp, by simp⟩)
  (refine wpAnyH_take (i := 0) (v := ?_) rfl (by kernel_rfl) (by kernel_rfl) (by kernel_rfl) (fun _ _ _ h => h) (Or.inl ⟨by kernel_rfl, ?_⟩) (by assumption) ?_; rotate_left; (focus (intro w hSw; (try dsimp only at hSw); go_simp; (try with_reducible rfl); done)); (try simp only [List.getElem_toArray, List.getElem_cons_succ, List.getElem_cons_zero, Act.put, List.setIfInBounds_toArray, List.set_cons_zero, List.set_cons_succ]))
  (refine wpAnyH_take (i := 1) (v := ?_) rfl (by kernel_rfl) (by kernel_rfl) (by kernel_rfl) (fun _ _ _ h => h) (Or.inl ⟨by kernel_rfl, ?_⟩) (by assumption) ?_; rotate_left; (focus (intro w hSw; (try dsimp only at hSw); go_simp; (try with_reducible rfl); done)); (try simp only [List.getElem_toArray, List.getElem_cons_succ, List.getElem_cons_zero, Act.put, List.setIfInBounds_toArray, List.set_cons_zero, List.set_cons_succ]))
  (refine wpAnyH_ready (rs := [2]) (by kernel_rfl) (by simp) ?_; refine (AllReadyH.cons rfl (fun K hK => ?_) AllReadyH.nil))
  (go_simp; (go_at_call 50; (first | (with_reducible refine (M1.out _).mono ?_) | (with_reducible refine (M2.out _).mono ?_)); rintro e w2 ⟨rfl, hb2⟩; have s2 := hb2.size; (try simp only [World.size_drew, sz_drewN, World.size_alloc] at s2); have y2_0 : w2.cell? ⟨w.heap.size, 0, none⟩ = some (.int .i64 E) := (hb2.cell (p := ⟨w.heap.size, 0, none⟩) (by first | (simp; done) | (show w.heap.size < _; omega) | (simp; omega))).trans (by go_simp); have y2_1 : w2.cell? ⟨w.heap.size, 1, none⟩ = some (.int .i64 P) := (hb2.cell (p := ⟨w.heap.size, 1, none⟩) (by first | (simp; done) | (show w.heap.size < _; omega) | (simp; omega))).trans (by go_simp); have z2 : w.heap.size < w2.heap.size := (by omega)); (refine hK.out _ _ ?_ (fun hHeld2 => ?_); (focus (refine ⟨?_, ?_, ?_⟩ <;> first | (with_reducible assumption) | (go_simp; done) | omega | (simp; done) | (simp; omega))); clear hK K; have hHeld := hHeld2; clear hHeld2; (try simp only [List.getElem_toArray, List.getElem_cons_succ, List.getElem_cons_zero, Act.put, List.setIfInBounds_toArray, List.set_cons_zero, List.set_cons_succ])))
  (refine wpAnyH_take (i := 3) (v := ?_) rfl (by kernel_rfl) (by kernel_rfl) (by kernel_rfl) (fun _ _ _ h => h) (Or.inl ⟨by kernel_rfl, ?_⟩) (by assumption) ?_; rotate_left; (focus (intro w hSw; (try dsimp only at hSw); go_simp; (try with_reducible rfl); done)); (try simp only [List.getElem_toArray, List.getElem_cons_succ, List.getElem_cons_zero, Act.put, List.setIfInBounds_toArray, List.set_cons_zero, List.set_cons_succ]))
  (refine wpAnyH_take (i := 4) (v := ?_) rfl (by kernel_rfl) (by kernel_rfl) (by kernel_rfl) (fun _ _ _ h => h) (Or.inl ⟨by kernel_rfl, ?_⟩) (by assumption) ?_; rotate_left; (focus (intro w hSw; (try dsimp only at hSw); go_simp; (try with_reducible rfl); done)); (try simp only [List.getElem_toArray, List.getElem_cons_succ, List.getElem_cons_zero, Act.put, List.setIfInBounds_toArray, List.set_cons_zero, List.set_cons_succ]))
  (refine wpAnyH_ready (rs := [5]) (by kernel_rfl) (by simp) ?_; refine (AllReadyH.cons rfl (fun K hK => ?_) AllReadyH.nil))
  (go_simp; (go_at_call 50; (first | (with_reducible refine (M1.out _).mono ?_) | (with_reducible refine (M2.out _).mono ?_)); rintro e w5 ⟨rfl, hb5⟩; have s5 := hb5.size; (try simp only [World.size_drew, sz_drewN, World.size_alloc] at s5); have y5_0 : w5.cell? ⟨w.heap.size, 0, none⟩ = some (.int .i64 E) := (hb5.cell (p := ⟨w.heap.size, 0, none⟩) (by first | (simp; done) | (show w.heap.size < _; omega) | (simp; omega))).trans (by go_simp); have y5_1 : w5.cell? ⟨w.heap.size, 1, none⟩ = some (.int .i64 P) := (hb5.cell (p := ⟨w.heap.size, 1, none⟩) (by first | (simp; done) | (show w.heap.size < _; omega) | (simp; omega))).trans (by go_simp); have z5 : w.heap.size < w5.heap.size := (by omega)); (refine hK.out _ _ ?_ (fun hHeld2 => ?_); (focus (refine ⟨?_, ?_, ?_⟩ <;> first | (with_reducible assumption) | (go_simp; done) | omega | (simp; done) | (simp; omega))); clear hK K; have hHeld := hHeld2; clear hHeld2; (try simp only [List.getElem_toArray, List.getElem_cons_succ, List.getElem_cons_zero, Act.put, List.setIfInBounds_toArray, List.set_cons_zero, List.set_cons_succ])))
  (refine wpAnyH_take (i := 6) (v := ?_) rfl (by kernel_rfl) (by kernel_rfl) (by kernel_rfl) (fun _ _ _ h => h) (Or.inl ⟨by kernel_rfl, ?_⟩) (by assumption) ?_; rotate_left; (focus (intro w hSw; (try dsimp only at hSw); go_simp; (try with_reducible rfl); done)); (try simp only [List.getElem_toArray, List.getElem_cons_succ, List.getElem_cons_zero, Act.put, List.setIfInBounds_toArray, List.set_cons_zero, List.set_cons_succ]))
  (refine wpAnyH_take (i := 7) (v := ?_) rfl (by kernel_rfl) (by kernel_rfl) (by kernel_rfl) (fun _ _ _ h => h) (Or.inl ⟨by kernel_rfl, ?_⟩) (by assumption) ?_; rotate_left; (focus (intro w hSw; (try dsimp only at hSw); go_simp; (try with_reducible rfl); done)); (try simp only [List.getElem_toArray, List.getElem_cons_succ, List.getElem_cons_zero, Act.put, List.setIfInBounds_toArray, List.set_cons_zero, List.set_cons_succ]))
  (refine wpAnyH_take (i := 8) (v := ?_) rfl (by kernel_rfl) (by kernel_rfl) (by kernel_rfl) (fun _ _ _ h => h) (Or.inl ⟨by kernel_rfl, ?_⟩) (by assumption) ?_; rotate_left; (focus (intro w hSw; (try dsimp only at hSw); go_simp; (try with_reducible rfl); done)); (try simp only [List.getElem_toArray, List.getElem_cons_succ, List.getElem_cons_zero, Act.put, List.setIfInBounds_toArray, List.set_cons_zero, List.set_cons_succ]))
  (refine wpAnyH_take (i := 9) (v := ?_) rfl (by kernel_rfl) (by kernel_rfl) (by kernel_rfl) (fun _ _ _ h => h) (Or.inl ⟨by kernel_rfl, ?_⟩) (by assumption) ?_; rotate_left; (focus (intro w hSw; (try dsimp only at hSw); go_simp; (try with_reducible rfl); done)); (try simp only [List.getElem_toArray, List.getElem_cons_succ, List.getElem_cons_zero, Act.put, List.setIfInBounds_toArray, List.set_cons_zero, List.set_cons_succ]))
  (refine wpAnyH_take (i := 10) (v := ?_) rfl (by kernel_rfl) (by kernel_rfl) (by kernel_rfl) (fun _ _ _ h => h) (Or.inl ⟨by kernel_rfl, ?_⟩) (by assumption) ?_; rotate_left; (focus (intro w hSw; (try dsimp only at hSw); go_simp; (try with_reducible rfl); done)); (try simp only [List.getElem_toArray, List.getElem_cons_succ, List.getElem_cons_zero, Act.put, List.setIfInBounds_toArray, List.set_cons_zero, List.set_cons_succ]))
  (refine wpAnyH_take (i := 12) (v := ?_) rfl (by kernel_rfl) (by kernel_rfl) (by kernel_rfl) (fun _ _ _ h => h) (Or.inl ⟨by kernel_rfl, ?_⟩) (by assumption) ?_; rotate_left; (focus (intro w hSw; (try dsimp only at hSw); go_simp; (try with_reducible rfl); done)); (try simp only [List.getElem_toArray, List.getElem_cons_succ, List.getElem_cons_zero, Act.put, List.setIfInBounds_toArray, List.set_cons_zero, List.set_cons_succ]))
  (refine wpAnyH_take (i := 13) (v := ?_) rfl (by kernel_rfl) (by kernel_rfl) (by kernel_rfl) (fun _ _ _ h => h) (Or.inl ⟨by kernel_rfl, ?_⟩) (by assumption) ?_; rotate_left; (focus (intro w hSw; (try dsimp only at hSw); go_simp; (try with_reducible rfl); done)); (try simp only [List.getElem_toArray, List.getElem_cons_succ, List.getElem_cons_zero, Act.put, List.setIfInBounds_toArray, List.set_cons_zero, List.set_cons_succ]))
  (refine wpAnyH_ready (rs := [11]) (by kernel_rfl) (by simp) ?_; refine (AllReadyH.cons rfl (fun K hK => ?_) AllReadyH.nil))
  (go_simp; (go_at_call 27; (first | (with_reducible refine (H1.out _).mono ?_) | (with_reducible refine (H2.out _).mono ?_)); rintro e w11 ⟨rfl, hb11⟩; have s11 := hb11.size; (try simp only [World.size_drew, sz_drewN, World.size_alloc] at s11); have y11_0 : w11.cell? ⟨w.heap.size, 0, none⟩ = some (.int .i64 E) := (hb11.cell (p := ⟨w.heap.size, 0, none⟩) (by first | (simp; done) | (show w.heap.size < _; omega) | (simp; omega))).trans (by go_simp); have y11_1 : w11.cell? ⟨w.heap.size, 1, none⟩ = some (.int .i64 P) := (hb11.cell (p := ⟨w.heap.size, 1, none⟩) (by first | (simp; done) | (show w.heap.size < _; omega) | (simp; omega))).trans (by go_simp); have z11 : w.heap.size < w11.heap.size := (by omega)); (refine hK.out _ _ ?_ (fun hHeld2 => ?_); (focus (refine ⟨?_, ?_, ?_⟩ <;> first | (with_reducible assumption) | (go_simp; done) | omega | (simp; done) | (simp; omega))); clear hK K; have hHeld := hHeld2; clear hHeld2; (try simp only [List.getElem_toArray, List.getElem_cons_succ, List.getElem_cons_zero, Act.put, List.setIfInBounds_toArray, List.set_cons_zero, List.set_cons_succ])))
  (refine wpAnyH_ready (rs := [14]) (by kernel_rfl) (by simp) ?_; refine (AllReadyH.cons rfl (fun K hK => ?_) AllReadyH.nil))
  (go_simp; (go_at_call 27; (first | (with_reducible refine (H1.out _).mono ?_) | (with_reducible refine (H2.out _).mono ?_)); rintro e w14 ⟨rfl, hb14⟩; have s14 := hb14.size; (try simp only [World.size_drew, sz_drewN, World.size_alloc] at s14); have y14_0 : w14.cell? ⟨w.heap.size, 0, none⟩ = some (.int .i64 E) := (hb14.cell (p := ⟨w.heap.size, 0, none⟩) (by first | (simp; done) | (show w.heap.size < _; omega) | (simp; omega))).trans (by go_simp); have y14_1 : w14.cell? ⟨w.heap.size, 1, none⟩ = some (.int .i64 P) := (hb14.cell (p := ⟨w.heap.size, 1, none⟩) (by first | (simp; done) | (show w.heap.size < _; omega) | (simp; omega))).trans (by go_simp); have z14 : w.heap.size < w14.heap.size := (by omega)); (refine hK.out _ _ ?_ (fun hHeld2 => ?_); (focus (refine ⟨?_, ?_, ?_⟩ <;> first | (with_reducible assumption) | (go_simp; done) | omega | (simp; done) | (simp; omega))); clear hK K; have hHeld := hHeld2; clear hHeld2; (try simp only [List.getElem_toArray, List.getElem_cons_succ, List.getElem_cons_zero, Act.put, List.setIfInBounds_toArray, List.set_cons_zero, List.set_cons_succ])))
  (refine wpAnyH_take (i := 15) (v := ?_) rfl (by kernel_rfl) (by kernel_rfl) (by kernel_rfl) (fun _ _ _ h => h) (Or.inl ⟨by kernel_rfl, ?_⟩) (by assumption) ?_; rotate_left; (focus (intro w hSw; (try dsimp only at hSw); go_simp; (try with_reducible rfl); done)); (try simp only [List.getElem_toArray, List.getElem_cons_succ, List.getElem_cons_zero, Act.put, List.setIfInBounds_toArray, List.set_cons_zero, List.set_cons_succ]))
  (refine wpAnyH_take (i := 16) (v := ?_) rfl (by kernel_rfl) (by kernel_rfl) (by kernel_rfl) (fun _ _ _ h => h) (Or.inl ⟨by kernel_rfl, ?_⟩) (by assumption) ?_; rotate_left; (focus (intro w hSw; (try dsimp only at hSw); go_simp; (try with_reducible rfl); done)); (try simp only [List.getElem_toArray, List.getElem_cons_succ, List.getElem_cons_zero, Act.put, List.setIfInBounds_toArray, List.set_cons_zero, List.set_cons_succ]))
  (refine wpAnyH_take (i := 17) (v := ?_) rfl (by kernel_rfl) (by kernel_rfl) (by kernel_rfl) (fun _ _ _ h => h) (Or.inl ⟨by kernel_rfl, ?_⟩) (by assumption) ?_; rotate_left; (focus (intro w hSw; (try dsimp only at hSw); go_simp; (try with_reducible rfl); done)); (try simp only [List.getElem_toArray, List.getElem_cons_succ, List.getElem_cons_zero, Act.put, List.setIfInBounds_toArray, List.set_cons_zero, List.set_cons_succ]))
  refine wpAnyH_done (by kernel_rfl) ?_ _
  go_wp2
  go_ret
  exact ⟨by first | rfl | simp [*], (by have s0_ := hb2.size; have s1_ := hb5.size; have s2_ := hb11.size; have s3_ := hb14.size; (try simp only [World.size_alloc, World.size_setCell, World.size_drew, sz_drewN] at s0_ s1_ s2_ s3_); repeat' (first | (with_reducible exact Below.refl _ _) | (with_reducible refine bel_call ?_ ?_ hb14) | (with_reducible refine bel_call ?_ ?_ hb11) | (with_reducible refine bel_call ?_ ?_ hb5) | (with_reducible refine bel_call ?_ ?_ hb2) | (with_reducible refine Below.alloc ?_ ?_ _) | (with_reducible refine below_drewN ?_ _) | (with_reducible refine Below.drew ?_) | (with_reducible refine Below.setCell ?_ ?_ _) | omega | (simp; omega) | (simp; done)))⟩

set_option maxRecDepth 8000 in
set_option maxHeartbeats 3200000 in
theorem due_no1 (E P s : Int) (w : World) (hm : mayN (IntKind.i64.wrap (s + 1)) = false) : Calls Try.prog 33 #[.agg #[.int .i64 E, .int .i64 P], .int .i64 s] w fun e w' => e = .returned (.bool (false)) ∧ Below w.heap.size w w' := by
  have m1 := fun w => mayn_all (IntKind.i64.wrap (s + 1)) w
  rw [hm] at m1
  have M1 := Lib.hid m1
  have M2 := Lib.hid (fun w => mayn_all s w)
  clear m1 hm
  go_enter Try.func33, Try.ntmps33
  go_wp2_with fail
  refine wp_region_held_drew (S := (fun x => x.cell? ⟨w.heap.size, 0, none⟩ = some (.int .i64 E) ∧ x.cell? ⟨w.heap.size, 1, none⟩ = some (.int .i64 P) ∧ w.heap.size < x.heap.size)) (by kernel_rfl) ?_ (fun hHeld => ?_)
  focus (exact ⟨by simp, by simp, by simp⟩)
  (refine wpAnyH_take (i := 0) (v := ?_) rfl (by kernel_rfl) (by kernel_rfl) (by kernel_rfl) (fun _ _ _ h => h) (Or.inl ⟨by kernel_rfl, ?_⟩) (by assumption) ?_; rotate_left; (focus (intro w hSw; (try dsimp only at hSw); go_simp; (try with_reducible rfl); done)); (try simp only [List.getElem_toArray, List.getElem_cons_succ, List.getElem_cons_zero, Act.put, List.setIfInBounds_toArray, List.set_cons_zero, List.set_cons_succ]))
  (refine wpAnyH_take (i := 1) (v := ?_) rfl (by kernel_rfl) (by kernel_rfl) (by kernel_rfl) (fun _ _ _ h => h) (Or.inl ⟨by kernel_rfl, ?_⟩) (by assumption) ?_; rotate_left; (focus (intro w hSw; (try dsimp only at hSw); go_simp; (try with_reducible rfl); done)); (try simp only [List.getElem_toArray, List.getElem_cons_succ, List.getElem_cons_zero, Act.put, List.setIfInBounds_toArray, List.set_cons_zero, List.set_cons_succ]))
  (refine wpAnyH_ready (rs := [2]) (by kernel_rfl) (by simp) ?_; refine (AllReadyH.cons rfl (fun K hK => ?_) AllReadyH.nil))
  (go_simp; (go_at_call 50; (first | (with_reducible refine (M1.out _).mono ?_) | (with_reducible refine (M2.out _).mono ?_)); rintro e w2 ⟨rfl, hb2⟩; have s2 := hb2.size; (try simp only [World.size_drew, sz_drewN, World.size_alloc] at s2); have y2_0 : w2.cell? ⟨w.heap.size, 0, none⟩ = some (.int .i64 E) := (hb2.cell (p := ⟨w.heap.size, 0, none⟩) (by first | (simp; done) | (show w.heap.size < _; omega) | (simp; omega))).trans (by go_simp); have y2_1 : w2.cell? ⟨w.heap.size, 1, none⟩ = some (.int .i64 P) := (hb2.cell (p := ⟨w.heap.size, 1, none⟩) (by first | (simp; done) | (show w.heap.size < _; omega) | (simp; omega))).trans (by go_simp); have z2 : w.heap.size < w2.heap.size := (by omega)); (refine hK.out _ _ ?_ (fun hHeld2 => ?_); (focus (refine ⟨?_, ?_, ?_⟩ <;> first | (with_reducible assumption) | (go_simp; done) | omega | (simp; done) | (simp; omega))); clear hK K; have hHeld := hHeld2; clear hHeld2; (try simp only [List.getElem_toArray, List.getElem_cons_succ, List.getElem_cons_zero, Act.put, List.setIfInBounds_toArray, List.set_cons_zero, List.set_cons_succ])))
  (refine wpAnyH_take (i := 3) (v := ?_) rfl (by kernel_rfl) (by kernel_rfl) (by kernel_rfl) (fun _ _ _ h => h) (Or.inl ⟨by kernel_rfl, ?_⟩) (by assumption) ?_; rotate_left; (focus (intro w hSw; (try dsimp only at hSw); go_simp; (try with_reducible rfl); done)); (try simp only [List.getElem_toArray, List.getElem_cons_succ, List.getElem_cons_zero, Act.put, List.setIfInBounds_toArray, List.set_cons_zero, List.set_cons_succ]))
  (refine wpAnyH_take (i := 4) (v := undef) rfl (by kernel_rfl) (by kernel_rfl) (by kernel_rfl) (fun _ _ _ h => h) (Or.inr ⟨by kernel_rfl, rfl⟩) (by assumption) ?_; (try simp only [List.getElem_toArray, List.getElem_cons_succ, List.getElem_cons_zero, Act.put, List.setIfInBounds_toArray, List.set_cons_zero, List.set_cons_succ]))
  (refine wpAnyH_take (i := 5) (v := undef) rfl (by kernel_rfl) (by kernel_rfl) (by kernel_rfl) (fun _ _ _ h => h) (Or.inr ⟨by kernel_rfl, rfl⟩) (by assumption) ?_; (try simp only [List.getElem_toArray, List.getElem_cons_succ, List.getElem_cons_zero, Act.put, List.setIfInBounds_toArray, List.set_cons_zero, List.set_cons_succ]))
  (refine wpAnyH_take (i := 6) (v := ?_) rfl (by kernel_rfl) (by kernel_rfl) (by kernel_rfl) (fun _ _ _ h => h) (Or.inl ⟨by kernel_rfl, ?_⟩) (by assumption) ?_; rotate_left; (focus (intro w hSw; (try dsimp only at hSw); go_simp; (try with_reducible rfl); done)); (try simp only [List.getElem_toArray, List.getElem_cons_succ, List.getElem_cons_zero, Act.put, List.setIfInBounds_toArray, List.set_cons_zero, List.set_cons_succ]))
  (refine wpAnyH_take (i := 7) (v := ?_) rfl (by kernel_rfl) (by kernel_rfl) (by kernel_rfl) (fun _ _ _ h => h) (Or.inl ⟨by kernel_rfl, ?_⟩) (by assumption) ?_; rotate_left; (focus (intro w hSw; (try dsimp only at hSw); go_simp; (try with_reducible rfl); done)); (try simp only [List.getElem_toArray, List.getElem_cons_succ, List.getElem_cons_zero, Act.put, List.setIfInBounds_toArray, List.set_cons_zero, List.set_cons_succ]))
  (refine wpAnyH_take (i := 8) (v := undef) rfl (by kernel_rfl) (by kernel_rfl) (by kernel_rfl) (fun _ _ _ h => h) (Or.inr ⟨by kernel_rfl, rfl⟩) (by assumption) ?_; (try simp only [List.getElem_toArray, List.getElem_cons_succ, List.getElem_cons_zero, Act.put, List.setIfInBounds_toArray, List.set_cons_zero, List.set_cons_succ]))
  (refine wpAnyH_take (i := 9) (v := undef) rfl (by kernel_rfl) (by kernel_rfl) (by kernel_rfl) (fun _ _ _ h => h) (Or.inr ⟨by kernel_rfl, rfl⟩) (by assumption) ?_; (try simp only [List.getElem_toArray, List.getElem_cons_succ, List.getElem_cons_zero, Act.put, List.setIfInBounds_toArray, List.set_cons_zero, List.set_cons_succ]))
  (refine wpAnyH_take (i := 10) (v := undef) rfl (by kernel_rfl) (by kernel_rfl) (by kernel_rfl) (fun _ _ _ h => h) (Or.inr ⟨by kernel_rfl, rfl⟩) (by assumption) ?_; (try simp only [List.getElem_toArray, List.getElem_cons_succ, List.getElem_cons_zero, Act.put, List.setIfInBounds_toArray, List.set_cons_zero, List.set_cons_succ]))
  (refine wpAnyH_take (i := 11) (v := undef) rfl (by kernel_rfl) (by kernel_rfl) (by kernel_rfl) (fun _ _ _ h => h) (Or.inr ⟨by kernel_rfl, rfl⟩) (by assumption) ?_; (try simp only [List.getElem_toArray, List.getElem_cons_succ, List.getElem_cons_zero, Act.put, List.setIfInBounds_toArray, List.set_cons_zero, List.set_cons_succ]))
  (refine wpAnyH_take (i := 12) (v := undef) rfl (by kernel_rfl) (by kernel_rfl) (by kernel_rfl) (fun _ _ _ h => h) (Or.inr ⟨by kernel_rfl, rfl⟩) (by assumption) ?_; (try simp only [List.getElem_toArray, List.getElem_cons_succ, List.getElem_cons_zero, Act.put, List.setIfInBounds_toArray, List.set_cons_zero, List.set_cons_succ]))
  (refine wpAnyH_take (i := 13) (v := undef) rfl (by kernel_rfl) (by kernel_rfl) (by kernel_rfl) (fun _ _ _ h => h) (Or.inr ⟨by kernel_rfl, rfl⟩) (by assumption) ?_; (try simp only [List.getElem_toArray, List.getElem_cons_succ, List.getElem_cons_zero, Act.put, List.setIfInBounds_toArray, List.set_cons_zero, List.set_cons_succ]))
  (refine wpAnyH_take (i := 14) (v := undef) rfl (by kernel_rfl) (by kernel_rfl) (by kernel_rfl) (fun _ _ _ h => h) (Or.inr ⟨by kernel_rfl, rfl⟩) (by assumption) ?_; (try simp only [List.getElem_toArray, List.getElem_cons_succ, List.getElem_cons_zero, Act.put, List.setIfInBounds_toArray, List.set_cons_zero, List.set_cons_succ]))
  (refine wpAnyH_take (i := 15) (v := undef) rfl (by kernel_rfl) (by kernel_rfl) (by kernel_rfl) (fun _ _ _ h => h) (Or.inr ⟨by kernel_rfl, rfl⟩) (by assumption) ?_; (try simp only [List.getElem_toArray, List.getElem_cons_succ, List.getElem_cons_zero, Act.put, List.setIfInBounds_toArray, List.set_cons_zero, List.set_cons_succ]))
  (refine wpAnyH_take (i := 16) (v := ?_) rfl (by kernel_rfl) (by kernel_rfl) (by kernel_rfl) (fun _ _ _ h => h) (Or.inl ⟨by kernel_rfl, ?_⟩) (by assumption) ?_; rotate_left; (focus (intro w hSw; (try dsimp only at hSw); go_simp; (try with_reducible rfl); done)); (try simp only [List.getElem_toArray, List.getElem_cons_succ, List.getElem_cons_zero, Act.put, List.setIfInBounds_toArray, List.set_cons_zero, List.set_cons_succ]))
  (refine wpAnyH_take (i := 17) (v := ?_) rfl (by kernel_rfl) (by kernel_rfl) (by kernel_rfl) (fun _ _ _ h => h) (Or.inl ⟨by kernel_rfl, ?_⟩) (by assumption) ?_; rotate_left; (focus (intro w hSw; (try dsimp only at hSw); go_simp; (try with_reducible rfl); done)); (try simp only [List.getElem_toArray, List.getElem_cons_succ, List.getElem_cons_zero, Act.put, List.setIfInBounds_toArray, List.set_cons_zero, List.set_cons_succ]))
  refine wpAnyH_done (by kernel_rfl) ?_ _
  go_wp2
  go_ret
  exact ⟨by first | rfl | simp [*], (by have s0_ := hb2.size; (try simp only [World.size_alloc, World.size_setCell, World.size_drew, sz_drewN] at s0_); repeat' (first | (with_reducible exact Below.refl _ _) | (with_reducible refine bel_call ?_ ?_ hb2) | (with_reducible refine Below.alloc ?_ ?_ _) | (with_reducible refine below_drewN ?_ _) | (with_reducible refine Below.drew ?_) | (with_reducible refine Below.setCell ?_ ?_ _) | omega | (simp; omega) | (simp; done)))⟩

set_option maxRecDepth 8000 in
set_option maxHeartbeats 3200000 in
theorem due_no2 (E P s : Int) (w : World) (hm : mayN (IntKind.i64.wrap (s + 1)) = true) (hm2 : mayN s = false) : Calls Try.prog 33 #[.agg #[.int .i64 E, .int .i64 P], .int .i64 s] w fun e w' => e = .returned (.bool (false)) ∧ Below w.heap.size w w' := by
  have m1 := fun w => mayn_all (IntKind.i64.wrap (s + 1)) w
  have m2 := fun w => mayn_all s w
  rw [hm] at m1
  rw [hm2] at m2
  have M1 := Lib.hid m1
  have M2 := Lib.hid m2
  clear m1 m2 hm hm2
  go_enter Try.func33, Try.ntmps33
  go_wp2_with fail
  refine wp_region_held_drew (S := (fun x => x.cell? ⟨w.heap.size, 0, none⟩ = some (.int .i64 E) ∧ x.cell? ⟨w.heap.size, 1, none⟩ = some (.int .i64 P) ∧ w.heap.size < x.heap.size)) (by kernel_rfl) ?_ (fun hHeld => ?_)
  focus (exact ⟨by simp, by simp, by simp⟩)
  (refine wpAnyH_take (i := 0) (v := ?_) rfl (by kernel_rfl) (by kernel_rfl) (by kernel_rfl) (fun _ _ _ h => h) (Or.inl ⟨by kernel_rfl, ?_⟩) (by assumption) ?_; rotate_left; (focus (intro w hSw; (try dsimp only at hSw); go_simp; (try with_reducible rfl); done)); (try simp only [List.getElem_toArray, List.getElem_cons_succ, List.getElem_cons_zero, Act.put, List.setIfInBounds_toArray, List.set_cons_zero, List.set_cons_succ]))
  (refine wpAnyH_take (i := 1) (v := ?_) rfl (by kernel_rfl) (by kernel_rfl) (by kernel_rfl) (fun _ _ _ h => h) (Or.inl ⟨by kernel_rfl, ?_⟩) (by assumption) ?_; rotate_left; (focus (intro w hSw; (try dsimp only at hSw); go_simp; (try with_reducible rfl); done)); (try simp only [List.getElem_toArray, List.getElem_cons_succ, List.getElem_cons_zero, Act.put, List.setIfInBounds_toArray, List.set_cons_zero, List.set_cons_succ]))
  (refine wpAnyH_ready (rs := [2]) (by kernel_rfl) (by simp) ?_; refine (AllReadyH.cons rfl (fun K hK => ?_) AllReadyH.nil))
  (go_simp; (go_at_call 50; (first | (with_reducible refine (M1.out _).mono ?_) | (with_reducible refine (M2.out _).mono ?_)); rintro e w2 ⟨rfl, hb2⟩; have s2 := hb2.size; (try simp only [World.size_drew, sz_drewN, World.size_alloc] at s2); have y2_0 : w2.cell? ⟨w.heap.size, 0, none⟩ = some (.int .i64 E) := (hb2.cell (p := ⟨w.heap.size, 0, none⟩) (by first | (simp; done) | (show w.heap.size < _; omega) | (simp; omega))).trans (by go_simp); have y2_1 : w2.cell? ⟨w.heap.size, 1, none⟩ = some (.int .i64 P) := (hb2.cell (p := ⟨w.heap.size, 1, none⟩) (by first | (simp; done) | (show w.heap.size < _; omega) | (simp; omega))).trans (by go_simp); have z2 : w.heap.size < w2.heap.size := (by omega)); (refine hK.out _ _ ?_ (fun hHeld2 => ?_); (focus (refine ⟨?_, ?_, ?_⟩ <;> first | (with_reducible assumption) | (go_simp; done) | omega | (simp; done) | (simp; omega))); clear hK K; have hHeld := hHeld2; clear hHeld2; (try simp only [List.getElem_toArray, List.getElem_cons_succ, List.getElem_cons_zero, Act.put, List.setIfInBounds_toArray, List.set_cons_zero, List.set_cons_succ])))
  (refine wpAnyH_take (i := 3) (v := ?_) rfl (by kernel_rfl) (by kernel_rfl) (by kernel_rfl) (fun _ _ _ h => h) (Or.inl ⟨by kernel_rfl, ?_⟩) (by assumption) ?_; rotate_left; (focus (intro w hSw; (try dsimp only at hSw); go_simp; (try with_reducible rfl); done)); (try simp only [List.getElem_toArray, List.getElem_cons_succ, List.getElem_cons_zero, Act.put, List.setIfInBounds_toArray, List.set_cons_zero, List.set_cons_succ]))
  (refine wpAnyH_take (i := 4) (v := ?_) rfl (by kernel_rfl) (by kernel_rfl) (by kernel_rfl) (fun _ _ _ h => h) (Or.inl ⟨by kernel_rfl, ?_⟩) (by assumption) ?_; rotate_left; (focus (intro w hSw; (try dsimp only at hSw); go_simp; (try with_reducible rfl); done)); (try simp only [List.getElem_toArray, List.getElem_cons_succ, List.getElem_cons_zero, Act.put, List.setIfInBounds_toArray, List.set_cons_zero, List.set_cons_succ]))
  (refine wpAnyH_ready (rs := [5]) (by kernel_rfl) (by simp) ?_; refine (AllReadyH.cons rfl (fun K hK => ?_) AllReadyH.nil))
  (go_simp; (go_at_call 50; (first | (with_reducible refine (M1.out _).mono ?_) | (with_reducible refine (M2.out _).mono ?_)); rintro e w5 ⟨rfl, hb5⟩; have s5 := hb5.size; (try simp only [World.size_drew, sz_drewN, World.size_alloc] at s5); have y5_0 : w5.cell? ⟨w.heap.size, 0, none⟩ = some (.int .i64 E) := (hb5.cell (p := ⟨w.heap.size, 0, none⟩) (by first | (simp; done) | (show w.heap.size < _; omega) | (simp; omega))).trans (by go_simp); have y5_1 : w5.cell? ⟨w.heap.size, 1, none⟩ = some (.int .i64 P) := (hb5.cell (p := ⟨w.heap.size, 1, none⟩) (by first | (simp; done) | (show w.heap.size < _; omega) | (simp; omega))).trans (by go_simp); have z5 : w.heap.size < w5.heap.size := (by omega)); (refine hK.out _ _ ?_ (fun hHeld2 => ?_); (focus (refine ⟨?_, ?_, ?_⟩ <;> first | (with_reducible assumption) | (go_simp; done) | omega | (simp; done) | (simp; omega))); clear hK K; have hHeld := hHeld2; clear hHeld2; (try simp only [List.getElem_toArray, List.getElem_cons_succ, List.getElem_cons_zero, Act.put, List.setIfInBounds_toArray, List.set_cons_zero, List.set_cons_succ])))
  (refine wpAnyH_take (i := 6) (v := ?_) rfl (by kernel_rfl) (by kernel_rfl) (by kernel_rfl) (fun _ _ _ h => h) (Or.inl ⟨by kernel_rfl, ?_⟩) (by assumption) ?_; rotate_left; (focus (intro w hSw; (try dsimp only at hSw); go_simp; (try with_reducible rfl); done)); (try simp only [List.getElem_toArray, List.getElem_cons_succ, List.getElem_cons_zero, Act.put, List.setIfInBounds_toArray, List.set_cons_zero, List.set_cons_succ]))
  (refine wpAnyH_take (i := 7) (v := ?_) rfl (by kernel_rfl) (by kernel_rfl) (by kernel_rfl) (fun _ _ _ h => h) (Or.inl ⟨by kernel_rfl, ?_⟩) (by assumption) ?_; rotate_left; (focus (intro w hSw; (try dsimp only at hSw); go_simp; (try with_reducible rfl); done)); (try simp only [List.getElem_toArray, List.getElem_cons_succ, List.getElem_cons_zero, Act.put, List.setIfInBounds_toArray, List.set_cons_zero, List.set_cons_succ]))
  (refine wpAnyH_take (i := 8) (v := undef) rfl (by kernel_rfl) (by kernel_rfl) (by kernel_rfl) (fun _ _ _ h => h) (Or.inr ⟨by kernel_rfl, rfl⟩) (by assumption) ?_; (try simp only [List.getElem_toArray, List.getElem_cons_succ, List.getElem_cons_zero, Act.put, List.setIfInBounds_toArray, List.set_cons_zero, List.set_cons_succ]))
  (refine wpAnyH_take (i := 9) (v := undef) rfl (by kernel_rfl) (by kernel_rfl) (by kernel_rfl) (fun _ _ _ h => h) (Or.inr ⟨by kernel_rfl, rfl⟩) (by assumption) ?_; (try simp only [List.getElem_toArray, List.getElem_cons_succ, List.getElem_cons_zero, Act.put, List.setIfInBounds_toArray, List.set_cons_zero, List.set_cons_succ]))
  (refine wpAnyH_take (i := 10) (v := undef) rfl (by kernel_rfl) (by kernel_rfl) (by kernel_rfl) (fun _ _ _ h => h) (Or.inr ⟨by kernel_rfl, rfl⟩) (by assumption) ?_; (try simp only [List.getElem_toArray, List.getElem_cons_succ, List.getElem_cons_zero, Act.put, List.setIfInBounds_toArray, List.set_cons_zero, List.set_cons_succ]))
  (refine wpAnyH_take (i := 11) (v := undef) rfl (by kernel_rfl) (by kernel_rfl) (by kernel_rfl) (fun _ _ _ h => h) (Or.inr ⟨by kernel_rfl, rfl⟩) (by assumption) ?_; (try simp only [List.getElem_toArray, List.getElem_cons_succ, List.getElem_cons_zero, Act.put, List.setIfInBounds_toArray, List.set_cons_zero, List.set_cons_succ]))
  (refine wpAnyH_take (i := 12) (v := undef) rfl (by kernel_rfl) (by kernel_rfl) (by kernel_rfl) (fun _ _ _ h => h) (Or.inr ⟨by kernel_rfl, rfl⟩) (by assumption) ?_; (try simp only [List.getElem_toArray, List.getElem_cons_succ, List.getElem_cons_zero, Act.put, List.setIfInBounds_toArray, List.set_cons_zero, List.set_cons_succ]))
  (refine wpAnyH_take (i := 13) (v := undef) rfl (by kernel_rfl) (by kernel_rfl) (by kernel_rfl) (fun _ _ _ h => h) (Or.inr ⟨by kernel_rfl, rfl⟩) (by assumption) ?_; (try simp only [List.getElem_toArray, List.getElem_cons_succ, List.getElem_cons_zero, Act.put, List.setIfInBounds_toArray, List.set_cons_zero, List.set_cons_succ]))
  (refine wpAnyH_take (i := 14) (v := undef) rfl (by kernel_rfl) (by kernel_rfl) (by kernel_rfl) (fun _ _ _ h => h) (Or.inr ⟨by kernel_rfl, rfl⟩) (by assumption) ?_; (try simp only [List.getElem_toArray, List.getElem_cons_succ, List.getElem_cons_zero, Act.put, List.setIfInBounds_toArray, List.set_cons_zero, List.set_cons_succ]))
  (refine wpAnyH_take (i := 15) (v := undef) rfl (by kernel_rfl) (by kernel_rfl) (by kernel_rfl) (fun _ _ _ h => h) (Or.inr ⟨by kernel_rfl, rfl⟩) (by assumption) ?_; (try simp only [List.getElem_toArray, List.getElem_cons_succ, List.getElem_cons_zero, Act.put, List.setIfInBounds_toArray, List.set_cons_zero, List.set_cons_succ]))
  (refine wpAnyH_take (i := 16) (v := ?_) rfl (by kernel_rfl) (by kernel_rfl) (by kernel_rfl) (fun _ _ _ h => h) (Or.inl ⟨by kernel_rfl, ?_⟩) (by assumption) ?_; rotate_left; (focus (intro w hSw; (try dsimp only at hSw); go_simp; (try with_reducible rfl); done)); (try simp only [List.getElem_toArray, List.getElem_cons_succ, List.getElem_cons_zero, Act.put, List.setIfInBounds_toArray, List.set_cons_zero, List.set_cons_succ]))
  (refine wpAnyH_take (i := 17) (v := ?_) rfl (by kernel_rfl) (by kernel_rfl) (by kernel_rfl) (fun _ _ _ h => h) (Or.inl ⟨by kernel_rfl, ?_⟩) (by assumption) ?_; rotate_left; (focus (intro w hSw; (try dsimp only at hSw); go_simp; (try with_reducible rfl); done)); (try simp only [List.getElem_toArray, List.getElem_cons_succ, List.getElem_cons_zero, Act.put, List.setIfInBounds_toArray, List.set_cons_zero, List.set_cons_succ]))
  refine wpAnyH_done (by kernel_rfl) ?_ _
  go_wp2
  go_ret
  exact ⟨by first | rfl | simp [*], (by have s0_ := hb2.size; have s1_ := hb5.size; (try simp only [World.size_alloc, World.size_setCell, World.size_drew, sz_drewN] at s0_ s1_); repeat' (first | (with_reducible exact Below.refl _ _) | (with_reducible refine bel_call ?_ ?_ hb5) | (with_reducible refine bel_call ?_ ?_ hb2) | (with_reducible refine Below.alloc ?_ ?_ _) | (with_reducible refine below_drewN ?_ _) | (with_reducible refine Below.drew ?_) | (with_reducible refine Below.setCell ?_ ?_ _) | omega | (simp; omega) | (simp; done)))⟩

theorem due_any (E P s : Int) (w : World) (hs : Fits s) : Calls Try.prog 33 #[.agg #[.int .i64 E, .int .i64 P], .int .i64 s] w fun e w' => e = .returned (.bool (decide (0 ≤ s) && (decide (s < 1099511627776) && decide (lowV E P s < lowV E P (s + 1))))) ∧ Below w.heap.size w w' := by
  unfold Fits at hs
  by_cases h : 0 ≤ s ∧ s < 1099511627776
  · refine (due_in E P s w h.1 (by omega)).mono fun e w' k => ⟨?_, k.2⟩
    rw [k.1]; simp [h.1, h.2]
  · have hv : (decide (0 ≤ s) && (decide (s < 1099511627776) && decide (lowV E P s < lowV E P (s + 1)))) = false := by
      by_cases h0 : 0 ≤ s
      · have h1 : ¬ s < 1099511627776 := fun h1 => h ⟨h0, h1⟩
        simp [h1]
      · simp [h0]
    rw [hv]
    cases hm : mayN (IntKind.i64.wrap (s + 1)) with
    | false => exact due_no1 E P s w hm
    | true =>
      refine due_no2 E P s w hm ?_
      have hb := mayN_bd hm
      rw [IntKind.wrap_i64] at hb
      cases hs2 : mayN s with
      | false => rfl
      | true =>
        have := mayN_bd hs2
        omega

/-! ### The document's Follows -/
theorem fol_all {fa : Int → Int → Bool} {zs : List Bool} (h : ∀ k : Nat, k < zs.length + 1 → fa (k : Int) (cnt zs k : Int) = true) : folB fa zs = true := by
  unfold folB
  rw [List.all_eq_true]
  intro k hk
  exact h k (List.mem_range.1 hk)
theorem cnt_take (zs : List Bool) (m k : Nat) (h : k ≤ m) : cnt (zs.take m) k = cnt zs k := by
  induction k with
  | zero => rfl
  | succ k ih =>
    rw [cnt, cnt, ih (by omega), List.getElem?_take_of_lt (by omega)]
theorem Bools.take {n₀ : Nat} {W : World} {a : Option Addr} {len cap : Nat} {zs : List Bool} (h : Bools n₀ W (.slice a len cap) zs) (k : Nat) (hk : k ≤ zs.length) : Bools n₀ W (.slice a k cap) (zs.take k) := by
  rcases h with ⟨_, _, hv, rfl⟩ | ⟨b, off, c, hv, hb, hl, hc⟩
  · injection hv with h1 h2 h3
    obtain rfl : k = 0 := by simpa using hk
    exact .inl ⟨_, _, rfl, by simp⟩
  · injection hv with h1 h2 h3
    refine .inr ⟨b, off, c, by rw [h1, h3, List.length_take, Nat.min_eq_left hk], hb, by rw [List.length_take]; omega, fun j hj => ?_⟩
    rw [List.length_take] at hj
    rw [List.getElem?_take_of_lt (by omega)]
    exact hc j (by omega)

theorem bools_cap {n₀ : Nat} {W : World} {a : Option Addr} {len cap : Nat} {zs : List Bool} (h : Bools n₀ W (.slice a len cap) zs) : len = zs.length ∧ len ≤ cap := by
  rcases h with ⟨_, _, hv, rfl⟩ | ⟨b, off, c, hv, hb, hl, hc⟩
  · injection hv with h1 h2 h3; subst h2; exact ⟨rfl, Nat.zero_le _⟩
  · injection hv with h1 h2 h3; subst h2 h3; exact ⟨rfl, hl⟩

theorem gen_w {P : Program} {c : Code} {Q : Exit → Act → World → Prop} {a : Act} {w : World} (F : World → Prop) (h : F w) (h2 : ∀ W, F W → c.wp P Q a W) : c.wp P Q a w := h2 w h

set_option maxRecDepth 8000 in
set_option maxHeartbeats 3200000 in
theorem rfollows_any (E P : Int) (hP : Fits P) (a : Option Addr) (len cap : Nat) (zs : List Bool) (hr : zs.length ≤ 4611686018427387904) (hcm : cap ≤ 9223372036854775807) (w : World) (hI : Bools w.heap.size w (.slice a len cap) zs) :
    Calls Try.prog 59 #[.agg #[.int .i64 E, .int .i64 P], .slice a len cap] w fun e w' => e = .returned (.bool (folB (fairV E P) zs)) ∧ Below w.heap.size w w' := by
  obtain ⟨hlen, hcap⟩ := bools_cap hI
  have HI0 := Lib.hid hI
  have HCH := Lib.hid (fun w => rcheck_any E P w)
  have HMV : Hid (fairV E P 0 0 = true → may E P = true) := fun h => by
    unfold fairV at h
    simp only [Bool.and_eq_true] at h
    exact h.1.1
  generalize may E P = mv at *
  clear hI
  go_enter Try.func59, Try.ntmps59
  go_upto_region 2 with (go_at_call 60; (with_reducible refine (HCH.out _).mono ?_); rintro e w1 ⟨rfl, hb1⟩; have s_w1 := hb1.size; (try simp only [World.size_alloc, World.size_setCell, World.size_drew, sz_drewN] at s_w1); have z_w1_0_0 : w.heap.size < w1.heap.size := (by omega); have z_w1_0_1 : w.heap.size < w1.heap.size + 1 := (by omega); have z_w1_0_2 : w.heap.size < w1.heap.size + 1 + 1 := (by omega); have q_w1_0_0 : w1.cell? ⟨w.heap.size, 0, none⟩ = some (.int .i64 E) := (hb1.cell (p := ⟨w.heap.size, 0, none⟩) (by first | (show w.heap.size < _; omega) | (show w.heap.size < _; simp; done) | (show w.heap.size < _; simp; omega))).trans (by first | assumption | (go_simp; done)); have q_w1_0_1 : w1.cell? ⟨w.heap.size, 1, none⟩ = some (.int .i64 P) := (hb1.cell (p := ⟨w.heap.size, 1, none⟩) (by first | (show w.heap.size < _; omega) | (show w.heap.size < _; simp; done) | (show w.heap.size < _; simp; omega))).trans (by first | assumption | (go_simp; done)))
  refine gen_w (F := fun V => V.cell? ⟨w.heap.size, 0, none⟩ = some (.int .i64 E) ∧ V.cell? ⟨w.heap.size, 1, none⟩ = some (.int .i64 P) ∧ w.heap.size < V.heap.size ∧ Below w.heap.size w V) ⟨q_w1_0_0, q_w1_0_1, by omega, (by have s0_ := hb1.size; (try simp only [World.size_alloc, World.size_setCell, World.size_drew, sz_drewN] at s0_); repeat' (first | (with_reducible exact Below.refl _ _) | (with_reducible refine bel_call ?_ ?_ hb1) | (with_reducible refine Below.alloc ?_ ?_ _) | (with_reducible refine below_drewN ?_ _) | (with_reducible refine Below.drew ?_) | (with_reducible refine Below.setCell ?_ ?_ _) | omega | (simp; omega) | (simp; done)))⟩ ?_
  clear hb1 s_w1 q_w1_0_0 q_w1_0_1 HCH
  rintro V ⟨v0, v1, vs, hbv⟩
  have HBV := Lib.hid hbv
  have V0 := Lib.hid v0
  have V1 := Lib.hid v1
  clear hbv v0 v1
  go_wp2
  go_loopw [6] (fun s6 wr => ∃ k : Nat, s6 = .int .i64 k ∧ k ≤ zs.length + 1 ∧ Hid (∀ j : Nat, j < k → fairV E P (j : Int) (cnt zs j : Int) = true) ∧ Below V.heap.size V wr) (fun s6 _ => zs.length + 2 - (intOf s6).toNat)
  case atStart => exact ⟨0, rfl, by omega, fun j hj => by omega, Below.refl _ _⟩
  case round =>
    obtain ⟨k, rfl, hk, hall, hb⟩ := hrel
    have hs := hb.size
    have HBW : Hid (Below w.heap.size w wr) := bel_call HBV.out HBV.out.size hb
    have c0 : wr.cell? ⟨w.heap.size, 0, none⟩ = some (.int .i64 E) := (hb.cell (p := ⟨w.heap.size, 0, none⟩) vs).trans V0.out
    have c1 : wr.cell? ⟨w.heap.size, 1, none⟩ = some (.int .i64 P) := (hb.cell (p := ⟨w.heap.size, 1, none⟩) vs).trans V1.out
    have cz : w.heap.size < wr.heap.size := by omega
    by_cases hlt : k ≤ zs.length
    · have kl : (k : Int) ≤ len := by omega
      have kc : k ≤ cap := by omega
      have kc2 : (k : Int) ≤ cap := by omega
      have wk : IntKind.i64.wrap ((k : Int) + 1) = (k : Int) + 1 := wrap_in _ (by omega) (by omega)
      have HR : Hid (∀ w2 : World, Below w.heap.size w w2 → Calls Try.prog 58 #[.slice a k cap] w2 fun e w' => e = .returned (.int .i64 (cnt zs k)) ∧ w' = w2) := fun w2 h => by
        have hx := rruns_any a k cap (zs.take k) (by rw [List.length_take]; omega) w2 (Bools.take (HI0.out.below h) k hlt)
        rw [show (zs.take k).length = k by rw [List.length_take]; omega, cnt_take zs k k (Nat.le_refl _)] at hx
        exact hx
      have hf := fun w => rfair_any E P (k : Int) (cnt zs k : Int) w hP
      cases hfv : fairV E P (k : Int) (cnt zs k : Int) with
      | true =>
        rw [hfv] at hf
        have HF := Lib.hid hf
        have hall2 : Hid (∀ j : Nat, j < k + 1 → fairV E P (j : Int) (cnt zs j : Int) = true) := fun j hj => by
          by_cases e : j = k
          · subst e; exact hfv
          · exact hall.out j (by omega)
        clear hf hfv
        go_upto_region 5 with fail
        refine wp_region_held_drew (S := (fun x => x.cell? ⟨w.heap.size, 0, none⟩ = some (.int .i64 E) ∧ x.cell? ⟨w.heap.size, 1, none⟩ = some (.int .i64 P) ∧ w.heap.size < x.heap.size)) (by kernel_rfl) ?_ (fun hHeld => ?_)
        focus (exact ⟨by simpa using c0, by simpa using c1, by simpa using cz⟩)
        (refine wpAnyH_take (i := 0) (v := ?_) rfl (by kernel_rfl) (by kernel_rfl) (by kernel_rfl) (fun _ _ _ h => h) (Or.inl ⟨by kernel_rfl, ?_⟩) (by assumption) ?_; rotate_left; (focus (intro w hSw; (try dsimp only at hSw); go_simp; (try with_reducible rfl); done)); (try simp only [List.getElem_toArray, List.getElem_cons_succ, List.getElem_cons_zero, Act.put, List.setIfInBounds_toArray, List.set_cons_zero, List.set_cons_succ]))
        (refine wpAnyH_take (i := 1) (v := ?_) rfl (by kernel_rfl) (by kernel_rfl) (by kernel_rfl) (fun _ _ _ h => h) (Or.inl ⟨by kernel_rfl, ?_⟩) (by assumption) ?_; rotate_left; (focus (intro w hSw; (try dsimp only at hSw); go_simp; (try with_reducible rfl); done)); (try simp only [List.getElem_toArray, List.getElem_cons_succ, List.getElem_cons_zero, Act.put, List.setIfInBounds_toArray, List.set_cons_zero, List.set_cons_succ]))
        (refine wpAnyH_take (i := 2) (v := ?_) rfl (by kernel_rfl) (by kernel_rfl) (by kernel_rfl) (fun _ _ _ h => h) (Or.inl ⟨by kernel_rfl, ?_⟩) (by assumption) ?_; rotate_left; (focus (intro w hSw; (try dsimp only at hSw); go_simp; (try with_reducible rfl); done)); (try simp only [List.getElem_toArray, List.getElem_cons_succ, List.getElem_cons_zero, Act.put, List.setIfInBounds_toArray, List.set_cons_zero, List.set_cons_succ]))
        (refine wpAnyH_take (i := 3) (v := ?_) rfl (by kernel_rfl) (by kernel_rfl) (by kernel_rfl) (fun _ _ _ h => h) (Or.inl ⟨by kernel_rfl, ?_⟩) (by assumption) ?_; rotate_left; (focus (intro w hSw; (try dsimp only at hSw); go_simp; (try with_reducible rfl); done)); (try simp only [List.getElem_toArray, List.getElem_cons_succ, List.getElem_cons_zero, Act.put, List.setIfInBounds_toArray, List.set_cons_zero, List.set_cons_succ]))
        (refine wpAnyH_take (i := 4) (v := ?_) rfl (by kernel_rfl) (by kernel_rfl) (by kernel_rfl) (fun _ _ _ h => h) (Or.inl ⟨by kernel_rfl, ?_⟩) (by assumption) ?_; rotate_left; (focus (intro w hSw; (try dsimp only at hSw); go_simp; (try with_reducible rfl); done)); (try simp only [List.getElem_toArray, List.getElem_cons_succ, List.getElem_cons_zero, Act.put, List.setIfInBounds_toArray, List.set_cons_zero, List.set_cons_succ]))
        (refine wpAnyH_ready (rs := [5]) (by kernel_rfl) (by simp) ?_; refine (AllReadyH.cons rfl (fun K hK => ?_) AllReadyH.nil))
        (go_simp; (go_at_call 58; (with_reducible refine (HR.out _ ?_).mono ?_); (focus (exact bel_call HBW.out HBW.out.size (by repeat' (first | (with_reducible exact Below.refl _ _) | (with_reducible refine Below.alloc ?_ ?_ _) | (with_reducible refine below_drewN ?_ _) | (with_reducible refine Below.drew ?_) | (with_reducible refine Below.setCell ?_ ?_ _) | omega | (simp; omega) | (simp; done))))); rintro e w5 ⟨rfl, hw5⟩; subst hw5); (refine hK.out _ _ ?_ (fun hHeld2 => ?_); (focus (refine ⟨?_, ?_, ?_⟩ <;> first | (with_reducible assumption) | (go_simp; done) | omega | (simp; done) | (simp; omega))); clear hK K; have hHeld := hHeld2; clear hHeld2; (try simp only [List.getElem_toArray, List.getElem_cons_succ, List.getElem_cons_zero, Act.put, List.setIfInBounds_toArray, List.set_cons_zero, List.set_cons_succ])))
        (refine wpAnyH_ready (rs := [6]) (by kernel_rfl) (by simp) ?_; refine (AllReadyH.cons rfl (fun K hK => ?_) AllReadyH.nil))
        (go_simp; (go_at_call 56; (with_reducible refine (HF.out _).mono ?_); rintro e w6 ⟨rfl, hb6⟩; have s6 := hb6.size; (try simp only [World.size_drew, sz_drewN, World.size_alloc] at s6); have y6_0 : w6.cell? ⟨w.heap.size, 0, none⟩ = some (.int .i64 E) := (hb6.cell (p := ⟨w.heap.size, 0, none⟩) (by first | (simp; done) | (show w.heap.size < _; omega) | (simp; omega))).trans (by go_simp); have y6_1 : w6.cell? ⟨w.heap.size, 1, none⟩ = some (.int .i64 P) := (hb6.cell (p := ⟨w.heap.size, 1, none⟩) (by first | (simp; done) | (show w.heap.size < _; omega) | (simp; omega))).trans (by go_simp); have z6 : w.heap.size < w6.heap.size := (by omega)); (refine hK.out _ _ ?_ (fun hHeld2 => ?_); (focus (refine ⟨?_, ?_, ?_⟩ <;> first | (with_reducible assumption) | (go_simp; done) | omega | (simp; done) | (simp; omega))); clear hK K; have hHeld := hHeld2; clear hHeld2; (try simp only [List.getElem_toArray, List.getElem_cons_succ, List.getElem_cons_zero, Act.put, List.setIfInBounds_toArray, List.set_cons_zero, List.set_cons_succ])))
        (refine wpAnyH_take (i := 7) (v := ?_) rfl (by kernel_rfl) (by kernel_rfl) (by kernel_rfl) (fun _ _ _ h => h) (Or.inl ⟨by kernel_rfl, ?_⟩) (by assumption) ?_; rotate_left; (focus (intro w hSw; (try dsimp only at hSw); go_simp; (try with_reducible rfl); done)); (try simp only [List.getElem_toArray, List.getElem_cons_succ, List.getElem_cons_zero, Act.put, List.setIfInBounds_toArray, List.set_cons_zero, List.set_cons_succ]))
        refine wpAnyH_done (by kernel_rfl) ?_ _
        go_wp2
        go_roundw
        case rel => exact ⟨k + 1, by go_num, by omega, hall2, bel_call hb hs (by have s0_ := hb6.size; (try simp only [World.size_alloc, World.size_setCell, World.size_drew, sz_drewN] at s0_); repeat' (first | (with_reducible exact Below.refl _ _) | (with_reducible refine bel_call ?_ ?_ hb6) | (with_reducible refine Below.alloc ?_ ?_ _) | (with_reducible refine below_drewN ?_ _) | (with_reducible refine Below.drew ?_) | (with_reducible refine Below.setCell ?_ ?_ _) | omega | (simp; omega) | (simp; done)))⟩
        case measure => (simp [intOf] <;> omega)
      | false =>
        rw [hfv] at hf
        have HF := Lib.hid hf
        have hno : Hid (folB (fairV E P) zs = false) := fol_no (k := k) (by omega) hfv
        clear hf hfv
        go_upto_region 5 with fail
        refine wp_region_held_drew (S := (fun x => x.cell? ⟨w.heap.size, 0, none⟩ = some (.int .i64 E) ∧ x.cell? ⟨w.heap.size, 1, none⟩ = some (.int .i64 P) ∧ w.heap.size < x.heap.size)) (by kernel_rfl) ?_ (fun hHeld => ?_)
        focus (exact ⟨by simpa using c0, by simpa using c1, by simpa using cz⟩)
        (refine wpAnyH_take (i := 0) (v := ?_) rfl (by kernel_rfl) (by kernel_rfl) (by kernel_rfl) (fun _ _ _ h => h) (Or.inl ⟨by kernel_rfl, ?_⟩) (by assumption) ?_; rotate_left; (focus (intro w hSw; (try dsimp only at hSw); go_simp; (try with_reducible rfl); done)); (try simp only [List.getElem_toArray, List.getElem_cons_succ, List.getElem_cons_zero, Act.put, List.setIfInBounds_toArray, List.set_cons_zero, List.set_cons_succ]))
        (refine wpAnyH_take (i := 1) (v := ?_) rfl (by kernel_rfl) (by kernel_rfl) (by kernel_rfl) (fun _ _ _ h => h) (Or.inl ⟨by kernel_rfl, ?_⟩) (by assumption) ?_; rotate_left; (focus (intro w hSw; (try dsimp only at hSw); go_simp; (try with_reducible rfl); done)); (try simp only [List.getElem_toArray, List.getElem_cons_succ, List.getElem_cons_zero, Act.put, List.setIfInBounds_toArray, List.set_cons_zero, List.set_cons_succ]))
        (refine wpAnyH_take (i := 2) (v := ?_) rfl (by kernel_rfl) (by kernel_rfl) (by kernel_rfl) (fun _ _ _ h => h) (Or.inl ⟨by kernel_rfl, ?_⟩) (by assumption) ?_; rotate_left; (focus (intro w hSw; (try dsimp only at hSw); go_simp; (try with_reducible rfl); done)); (try simp only [List.getElem_toArray, List.getElem_cons_succ, List.getElem_cons_zero, Act.put, List.setIfInBounds_toArray, List.set_cons_zero, List.set_cons_succ]))
        (refine wpAnyH_take (i := 3) (v := ?_) rfl (by kernel_rfl) (by kernel_rfl) (by kernel_rfl) (fun _ _ _ h => h) (Or.inl ⟨by kernel_rfl, ?_⟩) (by assumption) ?_; rotate_left; (focus (intro w hSw; (try dsimp only at hSw); go_simp; (try with_reducible rfl); done)); (try simp only [List.getElem_toArray, List.getElem_cons_succ, List.getElem_cons_zero, Act.put, List.setIfInBounds_toArray, List.set_cons_zero, List.set_cons_succ]))
        (refine wpAnyH_take (i := 4) (v := ?_) rfl (by kernel_rfl) (by kernel_rfl) (by kernel_rfl) (fun _ _ _ h => h) (Or.inl ⟨by kernel_rfl, ?_⟩) (by assumption) ?_; rotate_left; (focus (intro w hSw; (try dsimp only at hSw); go_simp; (try with_reducible rfl); done)); (try simp only [List.getElem_toArray, List.getElem_cons_succ, List.getElem_cons_zero, Act.put, List.setIfInBounds_toArray, List.set_cons_zero, List.set_cons_succ]))
        (refine wpAnyH_ready (rs := [5]) (by kernel_rfl) (by simp) ?_; refine (AllReadyH.cons rfl (fun K hK => ?_) AllReadyH.nil))
        (go_simp; (go_at_call 58; (with_reducible refine (HR.out _ ?_).mono ?_); (focus (exact bel_call HBW.out HBW.out.size (by repeat' (first | (with_reducible exact Below.refl _ _) | (with_reducible refine Below.alloc ?_ ?_ _) | (with_reducible refine below_drewN ?_ _) | (with_reducible refine Below.drew ?_) | (with_reducible refine Below.setCell ?_ ?_ _) | omega | (simp; omega) | (simp; done))))); rintro e w5 ⟨rfl, hw5⟩; subst hw5); (refine hK.out _ _ ?_ (fun hHeld2 => ?_); (focus (refine ⟨?_, ?_, ?_⟩ <;> first | (with_reducible assumption) | (go_simp; done) | omega | (simp; done) | (simp; omega))); clear hK K; have hHeld := hHeld2; clear hHeld2; (try simp only [List.getElem_toArray, List.getElem_cons_succ, List.getElem_cons_zero, Act.put, List.setIfInBounds_toArray, List.set_cons_zero, List.set_cons_succ])))
        (refine wpAnyH_ready (rs := [6]) (by kernel_rfl) (by simp) ?_; refine (AllReadyH.cons rfl (fun K hK => ?_) AllReadyH.nil))
        (go_simp; (go_at_call 56; (with_reducible refine (HF.out _).mono ?_); rintro e w6 ⟨rfl, hb6⟩; have s6 := hb6.size; (try simp only [World.size_drew, sz_drewN, World.size_alloc] at s6); have y6_0 : w6.cell? ⟨w.heap.size, 0, none⟩ = some (.int .i64 E) := (hb6.cell (p := ⟨w.heap.size, 0, none⟩) (by first | (simp; done) | (show w.heap.size < _; omega) | (simp; omega))).trans (by go_simp); have y6_1 : w6.cell? ⟨w.heap.size, 1, none⟩ = some (.int .i64 P) := (hb6.cell (p := ⟨w.heap.size, 1, none⟩) (by first | (simp; done) | (show w.heap.size < _; omega) | (simp; omega))).trans (by go_simp); have z6 : w.heap.size < w6.heap.size := (by omega)); (refine hK.out _ _ ?_ (fun hHeld2 => ?_); (focus (refine ⟨?_, ?_, ?_⟩ <;> first | (with_reducible assumption) | (go_simp; done) | omega | (simp; done) | (simp; omega))); clear hK K; have hHeld := hHeld2; clear hHeld2; (try simp only [List.getElem_toArray, List.getElem_cons_succ, List.getElem_cons_zero, Act.put, List.setIfInBounds_toArray, List.set_cons_zero, List.set_cons_succ])))
        (refine wpAnyH_take (i := 7) (v := ?_) rfl (by kernel_rfl) (by kernel_rfl) (by kernel_rfl) (fun _ _ _ h => h) (Or.inl ⟨by kernel_rfl, ?_⟩) (by assumption) ?_; rotate_left; (focus (intro w hSw; (try dsimp only at hSw); go_simp; (try with_reducible rfl); done)); (try simp only [List.getElem_toArray, List.getElem_cons_succ, List.getElem_cons_zero, Act.put, List.setIfInBounds_toArray, List.set_cons_zero, List.set_cons_succ]))
        refine wpAnyH_done (by kernel_rfl) ?_ _
        go_wp2
        go_ret
        exact ⟨by rw [hno.out]; rfl, bel_call HBW.out HBW.out.size (by have s0_ := hb6.size; (try simp only [World.size_alloc, World.size_setCell, World.size_drew, sz_drewN] at s0_); repeat' (first | (with_reducible exact Below.refl _ _) | (with_reducible refine bel_call ?_ ?_ hb6) | (with_reducible refine Below.alloc ?_ ?_ _) | (with_reducible refine below_drewN ?_ _) | (with_reducible refine Below.drew ?_) | (with_reducible refine Below.setCell ?_ ?_ _) | omega | (simp; omega) | (simp; done)))⟩
    · have hy : folB (fairV E P) zs = true := fol_all (fun j hj => hall.out j (by omega))
      have hm : mv = true := HMV.out (hall.out 0 (by omega))
      subst hm
      have kl : ¬ (k : Int) ≤ len := by omega
      have HY := Lib.hid hy
      clear hy
      go_wp2
      go_ret
      exact ⟨by rw [HY.out]; rfl, HBW.out⟩
end Go.Proofs.Ytpmenmcigflkdaa
