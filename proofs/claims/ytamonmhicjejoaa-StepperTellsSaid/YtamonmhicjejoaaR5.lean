/- Contracts of the document's stepper (layer 5). -/
import Derived.Test.YtamonmhicjejoaaSto
import Derived.Test.YtamonmhicjejoaaRfo
import Derived.Deep.DeepCutAuto
namespace Go.Proofs.Ytamonmhicjejoaa
open Go.RowKit
set_option linter.unusedVariables false
set_option linter.unusedSimpArgs false

/-- The document's stepper: a weight, an offset, the number that it stands ahead of. -/
def RS (w : World) (r : Nat) (E P off i : Int) : Prop :=
  w.cell? ⟨r, 0, none⟩ = some (.int .i64 E) ∧ w.cell? ⟨r, 1, none⟩ = some (.int .i64 P) ∧ w.cell? ⟨r, 2, none⟩ = some (.int .i64 off) ∧ w.cell? ⟨r, 3, none⟩ = some (.int .i64 i) ∧ (∀ o, w.frozen? ⟨r, o, none⟩ = false) ∧ r < w.heap.size
theorem RS.keep {w w' : World} {r c : Nat} {E P off i : Int} (h : RS w r E P off i) (k : Only c w w') (hc : r ≠ c) : RS w' r E P off i := by
  obtain ⟨h0, h1, h2, h3, hf, hs⟩ := h
  have hk : ∀ o, w'.cell? ⟨r, o, none⟩ = w.cell? ⟨r, o, none⟩ := fun o => k.cell (p := ⟨r, o, none⟩) hs hc
  exact ⟨(hk _).trans h0, (hk _).trans h1, (hk _).trans h2, (hk _).trans h3, fun o => (k.frozen (p := ⟨r, o, none⟩) hs hc).trans (hf o), Nat.lt_of_lt_of_le hs k.size⟩
theorem RS.keepb {w w' : World} {r : Nat} {E P off i : Int} (h : RS w r E P off i) (k : Below w.heap.size w w') : RS w' r E P off i := by
  have hs := h.2.2.2.2.2
  exact h.keep (c := r + 1) (only_of_below k) (by omega)

set_option maxHeartbeats 1600000 in
theorem rshift_yes (r : Nat) (E P off i s : Int) (w : World) (h : RS w r E P off i) (o0 : 0 ≤ off) (o1 : off ≤ 2305843009213693952) (s0 : 0 ≤ s) (s1 : s ≤ 2305843009213693952 - off) :
    Calls Try.prog 21 #[.pointer (some ⟨r, 0, none⟩), .int .i64 s] w fun e w' => e = .returned (.bool true) ∧ RS w' r E P (off + s) i ∧ Only r w w' := by
  obtain ⟨h0, h1, h2, h3, hf, hs⟩ := h
  go_enter Try.func21, Try.ntmps21
  go_wp2
  go_ret
  refine ⟨rfl, ?_, (by repeat' (first | (with_reducible exact Only.refl _ _) | (with_reducible refine Only.alloc ?_ _) | (with_reducible refine only_drewN ?_ _) | (with_reducible refine Only.drew ?_) | (with_reducible refine Only.setCell ?_ ?_ _) | (exact Or.inl rfl) | (right; first | omega | (simp; done) | (simp; omega)) | omega | (simp; omega) | (simp; done)))⟩
  refine ⟨?_, ?_, ?_, ?_, ?_, ?_⟩ <;> first | (go_simp; done) | (intro o; go_simp; done) | (simp; omega)
set_option maxHeartbeats 1600000 in
theorem rshift_no (r : Nat) (off s : Int) (w : World) (h2 : w.cell? ⟨r, 2, none⟩ = some (.int .i64 off)) (o0 : 0 ≤ off) (o1 : off ≤ 2305843009213693952) (hs : s < 0 ∨ 2305843009213693952 - off < s) :
    Calls Try.prog 21 #[.pointer (some ⟨r, 0, none⟩), .int .i64 s] w fun e w' => e = .returned (.bool false) ∧ Below w.heap.size w w' := by
  by_cases g : s < 0
  · go_enter Try.func21, Try.ntmps21
    go_wp2
    go_ret
    exact ⟨rfl, (by repeat' (first | (with_reducible exact Below.refl _ _) | (with_reducible refine Below.alloc ?_ ?_ _) | (with_reducible refine below_drewN ?_ _) | (with_reducible refine Below.drew ?_) | (with_reducible refine Below.setCell ?_ ?_ _) | omega | (simp; omega) | (simp; done)))⟩
  · have g' : 2305843009213693952 - off < s := by omega
    go_enter Try.func21, Try.ntmps21
    go_wp2
    go_ret
    exact ⟨rfl, (by repeat' (first | (with_reducible exact Below.refl _ _) | (with_reducible refine Below.alloc ?_ ?_ _) | (with_reducible refine below_drewN ?_ _) | (with_reducible refine Below.drew ?_) | (with_reducible refine Below.setCell ?_ ?_ _) | omega | (simp; omega) | (simp; done)))⟩
theorem rshift (r : Nat) (E P off i s : Int) (w : World) (h : RS w r E P off i) (o0 : 0 ≤ off) (o1 : off ≤ 2305843009213693952) :
    Calls Try.prog 21 #[.pointer (some ⟨r, 0, none⟩), .int .i64 s] w fun e w' => e = .returned (.bool (decide (0 ≤ s ∧ s ≤ 2305843009213693952 - off))) ∧ RS w' r E P (shOff off s) i ∧ Only r w w' := by
  by_cases c : 0 ≤ s ∧ s ≤ 2305843009213693952 - off
  · refine (rshift_yes r E P off i s w h o0 o1 c.1 c.2).mono ?_
    rintro e w' ⟨rfl, h1, h2⟩
    refine ⟨by simp [c], ?_, h2⟩
    unfold shOff; rw [if_pos c]; exact h1
  · refine (rshift_no r off s w h.2.2.1 o0 o1 (by omega)).mono ?_
    rintro e w' ⟨rfl, h1⟩
    refine ⟨by simp [c], ?_, only_of_below h1⟩
    unfold shOff; rw [if_neg c]; exact h.keepb h1

set_option maxHeartbeats 3200000 in
theorem rpeek (r : Nat) (E P off i : Int) (w : World) (h : RS w r E P off i) (e1 : 1 ≤ E) (e2 : E ≤ P) (e3 : P ≤ 1048576) (i1 : 1 ≤ i) (i2 : i ≤ 1099511627776) (o0 : 0 ≤ off) (o1 : off ≤ 2305843009213693952) :
    Calls Try.prog 22 #[.pointer (some ⟨r, 0, none⟩)] w fun e w' => e = .returned (.agg #[.int .i64 i, .int .i64 (Win.rel E P i + off), .int .i64 (Win.dl E P i + off), .int .i64 (Win.bit E P i), .int .i64 (shG off (Win.grp E P i))]) ∧ Below w.heap.size w w' := by
  obtain ⟨h0, h1, h2, h3, hf, hs⟩ := h
  have hof := fun w => rof_yes E P i off w e1 e2 e3 i1 i2 o0 o1
  generalize Win.rel E P i + off = R at *
  generalize Win.dl E P i + off = D at *
  generalize Win.bit E P i = B at *
  generalize shG off (Win.grp E P i) = G at *
  have HOF := Lib.hid hof
  clear hof
  go_enter Try.func22, Try.ntmps22
  go_upto_region 1 with fail
  refine gen_world (F := fun V => V.cell? ⟨r, 0, none⟩ = some (.int .i64 E) ∧ V.cell? ⟨r, 1, none⟩ = some (.int .i64 P) ∧ V.cell? ⟨r, 2, none⟩ = some (.int .i64 off) ∧ V.cell? ⟨r, 3, none⟩ = some (.int .i64 i) ∧ V.cell? ⟨w.heap.size, 0, none⟩ = some (.int .i64 (0)) ∧ V.cell? ⟨w.heap.size, 1, none⟩ = some (.int .i64 (0)) ∧ V.cell? ⟨w.heap.size, 2, none⟩ = some (.int .i64 (0)) ∧ V.cell? ⟨w.heap.size, 3, none⟩ = some (.int .i64 (0)) ∧ V.cell? ⟨w.heap.size, 4, none⟩ = some (.int .i64 (0)) ∧ (∀ o, V.frozen? ⟨w.heap.size, o, none⟩ = false) ∧ w.heap.size < V.heap.size ∧ Below w.heap.size w V) ⟨?_, ?_, ?_, ?_, ?_, ?_, ?_, ?_, ?_, ?_, ?_, (by repeat' (first | (with_reducible exact Below.refl _ _) | (with_reducible refine Below.alloc ?_ ?_ _) | (with_reducible refine below_drewN ?_ _) | (with_reducible refine Below.drew ?_) | (with_reducible refine Below.setCell ?_ ?_ _) | omega | (simp; omega) | (simp; done)))⟩ ?_
  iterate 9 (focus (go_simp; done))
  · intro o; go_simp
  · simp
  clear h0 h1 h2 h3 hf
  rintro V ⟨h0, h1, h2, h3, l0, l1, l2, l3, l4, lf, ls, hbv⟩
  have rV : r < V.heap.size := by omega
  go_cut [3] (fun s3 wx => ∃ g : Nat, s3 = .pointer (some ⟨g, 0, none⟩) ∧ V.heap.size ≤ g ∧ g < wx.heap.size ∧ wx.cell? ⟨g, 0, none⟩ = some (.int .i64 i) ∧ wx.cell? ⟨g, 1, none⟩ = some (.int .i64 R) ∧ wx.cell? ⟨g, 2, none⟩ = some (.int .i64 D) ∧ wx.cell? ⟨g, 3, none⟩ = some (.int .i64 B) ∧ wx.cell? ⟨g, 4, none⟩ = some (.int .i64 G) ∧ Below V.heap.size V wx)
  case first =>
    go_region_held3 (fun x => Below (V).heap.size (V) x ∧ (∀ b o, b < (V).heap.size → x.cell? ⟨b, o, none⟩ = (V).cell? ⟨b, o, none⟩) ∧ (∀ b o, b < (V).heap.size → x.frozen? ⟨b, o, none⟩ = (V).frozen? ⟨b, o, none⟩)) ((first | (simp only [mark_set]; refine held_of ?_; repeat' (first | (with_reducible exact (by with_reducible assumption : Below _ _ _ ∧ _).1) | (with_reducible refine below_setc ?_ ?_) | omega | (simp; done) | (simp; omega))) | (with_reducible exact held_of ((by with_reducible assumption : Below _ _ _ ∧ _).1.trans (hb.mono (by with_reducible assumption : Below _ _ _ ∧ _).1.size))) | (with_reducible exact held_of (Below.drew (Below.refl _ _))) | (with_reducible exact held_of ((by with_reducible assumption : Below _ _ _ ∧ _).1.alloc (by with_reducible assumption : Below _ _ _ ∧ _).1.size _)) | (with_reducible exact held_of (below_realloc hz (by with_reducible assumption : Below _ _ (World.alloc _ _) ∧ _).1)))) (first
      | (go_at_call 18; (with_reducible refine (HOF.out _).mono ?_); rintro e w1 ⟨rfl, hb⟩; obtain ⟨hc, hf⟩ := bcell hb; (try (have hbc := bel_chain (by with_reducible assumption) hb; obtain ⟨hcc, hfc⟩ := bcell hbc)); have hz := Nat.le_trans (by with_reducible assumption : Below (V).heap.size (V) _ ∧ _).1.size hb.size))
    all_goals (go_wp2_with fail; go_meet; refine ⟨_, rfl, ?_⟩; have hBB := (by with_reducible assumption : Below _ _ _ ∧ _).1; refine ⟨?_, ?_, ?_, ?_, ?_, ?_, ?_, hBB⟩ <;> first | omega | (go_simp; done) | (exact Nat.lt_of_succ_le (by simpa using hbc.size)) | (exact Nat.lt_of_succ_le (by simpa using hb.size)) | (simp; omega))
  case rest =>
    obtain ⟨g, rfl, g0, g1, c0, c1, c2, c3, c4, hb3⟩ := hcut
    have hBw : Below w.heap.size w wc := bel_call hbv (by omega) hb3
    have rc : ∀ o v, V.cell? ⟨w.heap.size, o, none⟩ = some v → wc.cell? ⟨w.heap.size, o, none⟩ = some v := fun o v h => (hb3.cell (p := ⟨w.heap.size, o, none⟩) (by show w.heap.size < _; omega)).trans h
    have y0 := rc _ _ l0
    have y1 := rc _ _ l1
    have y2 := rc _ _ l2
    have y3 := rc _ _ l3
    have y4 := rc _ _ l4
    have yf : ∀ o, wc.frozen? ⟨w.heap.size, o, none⟩ = false := fun o => (hb3.frozen (p := ⟨w.heap.size, o, none⟩) (by show w.heap.size < _; omega)).trans (lf o)
    have gg : w.heap.size < g := by omega
    clear hb3 rc l0 l1 l2 l3 l4 lf ls h0 h1 h2 h3 hbv HOF
    go_wp2
    exact bodyPost_ret (v := .agg #[.int .i64 i, .int .i64 R, .int .i64 D, .int .i64 B, .int .i64 G]) (by simp only [results, Try.results22]; go_simp) rfl ⟨rfl, bel_chain0 hBw (by repeat' (first | (with_reducible exact Below.refl _ _) | (with_reducible refine Below.alloc ?_ ?_ _) | (with_reducible refine below_drewN ?_ _) | (with_reducible refine Below.drew ?_) | (with_reducible refine Below.setCell ?_ ?_ _) | omega | (simp; omega) | (simp; done)))⟩

set_option maxHeartbeats 3200000 in
theorem rnext (r : Nat) (E P off i : Int) (w : World) (h : RS w r E P off i) (e1 : 1 ≤ E) (e2 : E ≤ P) (e3 : P ≤ 1048576) (i1 : 1 ≤ i) (i2 : i ≤ 1099511627776) (o0 : 0 ≤ off) (o1 : off ≤ 2305843009213693952) :
    Calls Try.prog 23 #[.pointer (some ⟨r, 0, none⟩)] w fun e w' => e = .returned (.agg #[.int .i64 i, .int .i64 (Win.rel E P i + off), .int .i64 (Win.dl E P i + off), .int .i64 (Win.bit E P i), .int .i64 (shG off (Win.grp E P i))]) ∧ RS w' r E P off (i + 1) ∧ Only r w w' := by
  have hs := h.2.2.2.2.2
  have HR := Lib.hid h
  have hp := Lib.hid (fun w h => rpeek r E P off i w h e1 e2 e3 i1 i2 o0 o1)
  clear h
  generalize Win.rel E P i + off = R at *
  generalize Win.dl E P i + off = D at *
  generalize Win.bit E P i = B at *
  generalize shG off (Win.grp E P i) = G at *
  go_enter Try.func23, Try.ntmps23
  go_upto_region 2 with (go_at_call 22; (with_reducible refine (hp.out _ ?_).mono ?_); (focus (exact HR.out.keepb (by repeat' (first | (with_reducible exact Below.refl _ _) | (with_reducible refine Below.alloc ?_ ?_ _) | (with_reducible refine below_drewN ?_ _) | (with_reducible refine Below.drew ?_) | (with_reducible refine Below.setCell ?_ ?_ _) | omega | (simp; omega) | (simp; done))))); rintro e w1 ⟨rfl, hb1⟩; have s_w1 := hb1.size; (try simp only [World.size_alloc, World.size_setCell, World.size_drew, sz_drewN] at s_w1); have z_w1_0_0 : w.heap.size < w1.heap.size := (by omega); have z_w1_0_1 : w.heap.size < w1.heap.size + 1 := (by omega); have z_w1_0_2 : w.heap.size < w1.heap.size + 1 + 1 := (by omega); have q_w1_0_0 : w1.cell? ⟨w.heap.size, 0, none⟩ = some (.int .i64 0) := (hb1.cell (p := ⟨w.heap.size, 0, none⟩) (by first | (show w.heap.size < _; omega) | (show w.heap.size < _; simp; done) | (show w.heap.size < _; simp; omega))).trans (by first | assumption | (go_simp; done)); have q_w1_0_1 : w1.cell? ⟨w.heap.size, 1, none⟩ = some (.int .i64 0) := (hb1.cell (p := ⟨w.heap.size, 1, none⟩) (by first | (show w.heap.size < _; omega) | (show w.heap.size < _; simp; done) | (show w.heap.size < _; simp; omega))).trans (by first | assumption | (go_simp; done)); have q_w1_0_2 : w1.cell? ⟨w.heap.size, 2, none⟩ = some (.int .i64 0) := (hb1.cell (p := ⟨w.heap.size, 2, none⟩) (by first | (show w.heap.size < _; omega) | (show w.heap.size < _; simp; done) | (show w.heap.size < _; simp; omega))).trans (by first | assumption | (go_simp; done)); have q_w1_0_3 : w1.cell? ⟨w.heap.size, 3, none⟩ = some (.int .i64 0) := (hb1.cell (p := ⟨w.heap.size, 3, none⟩) (by first | (show w.heap.size < _; omega) | (show w.heap.size < _; simp; done) | (show w.heap.size < _; simp; omega))).trans (by first | assumption | (go_simp; done)); have q_w1_0_4 : w1.cell? ⟨w.heap.size, 4, none⟩ = some (.int .i64 0) := (hb1.cell (p := ⟨w.heap.size, 4, none⟩) (by first | (show w.heap.size < _; omega) | (show w.heap.size < _; simp; done) | (show w.heap.size < _; simp; omega))).trans (by first | assumption | (go_simp; done)); have wf : ∀ o, w1.frozen? ⟨w.heap.size, o, none⟩ = false := (fun o => (hb1.frozen (p := ⟨w.heap.size, o, none⟩) (by simp)).trans (by go_simp)))
  refine gen_world (F := fun V => RS V r E P off i ∧ V.cell? ⟨w.heap.size, 0, none⟩ = some (.int .i64 (0)) ∧ V.cell? ⟨w.heap.size, 1, none⟩ = some (.int .i64 (0)) ∧ V.cell? ⟨w.heap.size, 2, none⟩ = some (.int .i64 (0)) ∧ V.cell? ⟨w.heap.size, 3, none⟩ = some (.int .i64 (0)) ∧ V.cell? ⟨w.heap.size, 4, none⟩ = some (.int .i64 (0)) ∧ (∀ o, V.frozen? ⟨w.heap.size, o, none⟩ = false) ∧ w.heap.size < V.heap.size ∧ V.cell? ⟨w1.heap.size, 0, none⟩ = some (.int .i64 (i)) ∧ V.cell? ⟨w1.heap.size, 1, none⟩ = some (.int .i64 (R)) ∧ V.cell? ⟨w1.heap.size, 2, none⟩ = some (.int .i64 (D)) ∧ V.cell? ⟨w1.heap.size, 3, none⟩ = some (.int .i64 (B)) ∧ V.cell? ⟨w1.heap.size, 4, none⟩ = some (.int .i64 (G)) ∧ (∀ o, V.frozen? ⟨w1.heap.size, o, none⟩ = false) ∧ w1.heap.size < V.heap.size ∧ Below w.heap.size w V) ⟨HR.out.keepb (by have s0_ := hb1.size; (try simp only [World.size_alloc, World.size_setCell, World.size_drew, sz_drewN] at s0_); repeat' (first | (with_reducible exact Below.refl _ _) | (with_reducible refine bel_call ?_ ?_ hb1) | (with_reducible refine Below.alloc ?_ ?_ _) | (with_reducible refine below_drewN ?_ _) | (with_reducible refine Below.drew ?_) | (with_reducible refine Below.setCell ?_ ?_ _) | omega | (simp; omega) | (simp; done))), ?_, ?_, ?_, ?_, ?_, ?_, ?_, ?_, ?_, ?_, ?_, ?_, ?_, ?_, (by have s0_ := hb1.size; (try simp only [World.size_alloc, World.size_setCell, World.size_drew, sz_drewN] at s0_); repeat' (first | (with_reducible exact Below.refl _ _) | (with_reducible refine bel_call ?_ ?_ hb1) | (with_reducible refine Below.alloc ?_ ?_ _) | (with_reducible refine below_drewN ?_ _) | (with_reducible refine Below.drew ?_) | (with_reducible refine Below.setCell ?_ ?_ _) | omega | (simp; omega) | (simp; done)))⟩ ?_
  iterate 5 (focus (go_simp; done))
  · intro o; go_simp
  · simp; omega
  iterate 5 (focus (go_simp; done))
  · intro o; go_simp
  · simp
  have hX : w.heap.size < w1.heap.size := by omega
  generalize w1.heap.size = X at *
  clear hb1 wf s_w1 q_w1_0_0 q_w1_0_1 q_w1_0_2 q_w1_0_3 q_w1_0_4 HR hp
  rintro V ⟨hr, l0, l1, l2, l3, l4, lf, ls, x0, x1, x2, x3, x4, xf, xs, vb⟩
  obtain ⟨h0, h1, h2, h3, hf, hsz⟩ := hr
  go_upto_region 4 with fail
  refine gen_world (F := fun V2 => RS V2 r E P off (i + 1) ∧ V2.cell? ⟨w.heap.size, 0, none⟩ = some (.int .i64 (0)) ∧ V2.cell? ⟨w.heap.size, 1, none⟩ = some (.int .i64 (0)) ∧ V2.cell? ⟨w.heap.size, 2, none⟩ = some (.int .i64 (0)) ∧ V2.cell? ⟨w.heap.size, 3, none⟩ = some (.int .i64 (0)) ∧ V2.cell? ⟨w.heap.size, 4, none⟩ = some (.int .i64 (0)) ∧ (∀ o, V2.frozen? ⟨w.heap.size, o, none⟩ = false) ∧ w.heap.size < V2.heap.size ∧ V2.cell? ⟨X, 0, none⟩ = some (.int .i64 (i)) ∧ V2.cell? ⟨X, 1, none⟩ = some (.int .i64 (R)) ∧ V2.cell? ⟨X, 2, none⟩ = some (.int .i64 (D)) ∧ V2.cell? ⟨X, 3, none⟩ = some (.int .i64 (B)) ∧ V2.cell? ⟨X, 4, none⟩ = some (.int .i64 (G)) ∧ (∀ o, V2.frozen? ⟨X, o, none⟩ = false) ∧ X < V2.heap.size ∧ Only r w V2) ⟨⟨by go_simp, by go_simp, by go_simp, by go_simp, by intro o; go_simp, by simp; omega⟩, ?_, ?_, ?_, ?_, ?_, ?_, ?_, ?_, ?_, ?_, ?_, ?_, ?_, ?_, (by repeat' (first | (with_reducible exact Only.refl _ _) | (with_reducible refine only_call ?_ vb) | (with_reducible refine Only.trans ?_ vb) | (with_reducible refine Only.alloc ?_ _) | (with_reducible refine only_drewN ?_ _) | (with_reducible refine Only.drew ?_) | (with_reducible refine Only.setCell ?_ ?_ _) | (exact Or.inl rfl) | (right; first | omega | (simp; done) | (simp; omega)) | omega | (simp; omega) | (simp; done)))⟩ ?_
  iterate 5 (focus (go_simp; done))
  · intro o; go_simp
  · simp; omega
  iterate 5 (focus (go_simp; done))
  · intro o; go_simp
  · simp; omega
  clear l0 l1 l2 l3 l4 lf ls x0 x1 x2 x3 x4 xf xs vb h0 h1 h2 h3 hf hsz
  rintro V2 ⟨hr, l0, l1, l2, l3, l4, lf, ls, x0, x1, x2, x3, x4, xf, xs, vo⟩
  have HR2 := Lib.hid hr
  clear hr
  go_wp2
  exact bodyPost_ret (v := .agg #[.int .i64 i, .int .i64 R, .int .i64 D, .int .i64 B, .int .i64 G]) (by simp only [results, Try.results23]; go_simp) rfl ⟨rfl, HR2.out.keep (c := w.heap.size) (by repeat' (first | (with_reducible exact Only.refl _ _) | (with_reducible refine Only.alloc ?_ _) | (with_reducible refine only_drewN ?_ _) | (with_reducible refine Only.drew ?_) | (with_reducible refine Only.setCell ?_ ?_ _) | (exact Or.inl rfl) | (right; first | omega | (simp; done) | (simp; omega)) | omega | (simp; omega) | (simp; done))) (by omega), (by repeat' (first | (with_reducible exact Only.refl _ _) | (with_reducible refine only_call ?_ vo) | (with_reducible refine Only.trans ?_ vo) | (with_reducible refine Only.alloc ?_ _) | (with_reducible refine only_drewN ?_ _) | (with_reducible refine Only.drew ?_) | (with_reducible refine Only.setCell ?_ ?_ _) | (exact Or.inl rfl) | (right; first | omega | (simp; done) | (simp; omega)) | omega | (simp; omega) | (simp; done)))⟩
end Go.Proofs.Ytamonmhicjejoaa
