/- The example of chapter 10 holds: contract of the laws' own helper 'awake'. -/
import Derived.Test.YtkmgkggkdmlkeaaAr
import Derived.Test.YtkmgkggkdmlkeaaHd
namespace Go.Proofs.Ytkmgkggkdmlkeaa
open Go.RowKit
set_option linter.unusedVariables false
set_option linter.unusedSimpArgs false

/-- A row that is not empty has a block of its own. -/
theorem owns_some {w : World} {base : Nat} {e : TypeId} {sz : Nat} {p : Option Addr} {n cap : Nat} {xs : List Value} (h : w.ownsRow base e sz (.slice p n cap) n xs) (hn : 0 < n) :
    ∃ g, p = some ⟨g, 0, none⟩ ∧ n ≤ cap ∧ base ≤ g ∧ g < w.heap.size ∧ ∀ j, j < n * sz → w.cell? ⟨g, j, none⟩ = xs[j]? := by
  have h' := h
  rcases h.2 with ⟨hv, h0⟩ | ⟨g, c, cur, hv, hb, hw, hc, _, _, _⟩
  · omega
  · injection hv with h1 h2 h3
    subst h1 h3
    exact ⟨g, rfl, hc, hb, (Array.getElem?_eq_some_iff.1 hw).1, fun j hj => h'.cellAt j hj⟩

theorem arrive_one (t s : Nat) (E P off i a O R D B G : Int) (early : Bool) (p : Option Addr) (m cap : Nat) (xs : List Value) (r0 r1 r2 r3 r4 done : Int) (base : Nat) (w : World)
    (hO : off + max (a - (Win.rel E P i + off)) 0 = O) (hR : Win.rel E P i + O = R) (hD : Win.dl E P i + O = D) (hB : Win.bit E P i = B) (hG : shG O (Win.grp E P i) = G)
    (hT : TC w t E P early false s (.slice p m cap) r0 r1 r2 r3 r4 done) (hS : Sn w s E P off i) (hW : w.ownsRow base 33 5 (.slice p m cap) m xs) (hts : t ≠ s) (hp : ∀ g, (Value.slice p m cap).ownBlock = some g → g ≠ t ∧ g ≠ s)
    (e1 : 1 ≤ E) (e2 : E ≤ P) (e3 : P ≤ 1048576) (i1 : 1 ≤ i) (i2 : i ≤ 1000000000) (o0 : 0 ≤ off) (o1 : off ≤ 1152921504606846976) (a0 : 0 ≤ a) (a1 : a ≤ 1099511627776) (hn : m + 1 ≤ 64) (hb : base ≤ w.heap.size) :
    Calls Try.prog 12 #[.pointer (some ⟨t, 0, none⟩), .int .i64 a, .int .i64 1] w fun e w' => e = .returned (.int .i64 0) ∧
      (∃ p' cap', TC w' t E P early false s (.slice p' (m + 1) cap') r0 r1 r2 r3 r4 done ∧ Sn w' s E P O (i + 1) ∧ w'.ownsRow base 33 5 (.slice p' (m + 1) cap') (m + 1) (xs ++ [.int .i64 i, .int .i64 R, .int .i64 D, .int .i64 B, .int .i64 G]) ∧ (∀ g, (Value.slice p' (m + 1) cap').ownBlock = some g → g ≠ t ∧ g ≠ s)) ∧
      Keeps (fun k => k = t ∨ k = s ∨ (Value.slice p m cap).ownBlock = some k) w w' := by
  have h := arrive_any t s E P off i a early p m cap xs r0 r1 r2 r3 r4 done 1 base w hT hS hW hts hp e1 e2 e3 i1 i2 o0 o1 a0 a1 (by omega) hn hb
  have e0 : i + ((0 : Nat) : Int) = i := by simp
  have eo : aoff E P a off i 1 = O := by
    show off + max (a - (Win.rel E P (i + ((0 : Nat) : Int)) + off)) 0 = O
    rw [e0]; exact hO
  have es : asub E P a off i 1 = [.int .i64 i, .int .i64 R, .int .i64 D, .int .i64 B, .int .i64 G] := by
    show [] ++ [Value.int .i64 (i + ((0 : Nat) : Int)), .int .i64 (Win.rel E P (i + ((0 : Nat) : Int)) + aoff E P a off i 1), .int .i64 (Win.dl E P (i + ((0 : Nat) : Int)) + aoff E P a off i 1), .int .i64 (Win.bit E P (i + ((0 : Nat) : Int))), .int .i64 (shG (aoff E P a off i 1) (Win.grp E P (i + ((0 : Nat) : Int))))] = _
    rw [eo, e0, hR, hD, hB, hG]; rfl
  rw [eo, es] at h
  exact h

set_option maxRecDepth 8000 in
set_option maxHeartbeats 3200000 in
theorem awake10 (w : World) : Calls Try.prog 9 #[] w fun e w' => e = .returned (.bool true) ∧ Below w.heap.size w w' := by
  go_enter Try.func9, Try.ntmps9
  go_upto_region 4 with (go_at_call 10; (with_reducible refine (tnew_yes 1 3 0 false _ (by omega) (by omega) (by omega) (by omega) (by omega)).mono ?_); rintro e w1 ⟨⟨t, s, gt, gs, gst, rfl, hT1, hS1⟩, hb1⟩)
  have s1 := hb1.size
  have T1 := Lib.hid hT1
  have tsz := tc_size hT1
  have ha1 := arrive_one t s 1 3 0 1 0 0 0 3 0 0 false none 0 0 [] 0 0 0 0 0 0 w.heap.size w1 (by decide) (by decide) (by decide) (by decide) (by decide) hT1 hS1 (World.ownsRow_nil _ _ _ _) (by omega) (fun g h => by cases h) (by omega) (by omega) (by omega) (by omega) (by omega) (by omega) (by omega) (by omega) (by omega) (by omega) s1
  have HA1 := Lib.hid ha1
  clear ha1 hT1 hS1
  go_upto_region 5 with (go_at_call 12; (with_reducible refine HA1.out.mono ?_); rintro e w2 ⟨rfl, ⟨p2, c2, hT2, hS2, hO2, hn2⟩, hk2⟩)
  have hb2 : Below w.heap.size w w2 := bel_chain0 hb1 (hk2.to_below s1 (fun k hk h => by rcases h with h | h | h <;> first | omega | cases h))
  have ha2 := arrive_one t s 1 3 0 2 7 4 7 10 0 0 false p2 1 c2 _ 0 0 0 0 0 0 w.heap.size w2 (by decide) (by decide) (by decide) (by decide) (by decide) hT2 hS2 hO2 (by omega) hn2 (by omega) (by omega) (by omega) (by omega) (by omega) (by omega) (by omega) (by omega) (by omega) (by omega) hb2.size
  have HA2 := Lib.hid ha2
  have lt2 := Lib.hid hO2.lt
  clear ha2 hT2 hS2 hk2 hn2 hO2
  go_upto_region 6 with (go_at_call 12; (with_reducible refine HA2.out.mono ?_); rintro e w3 ⟨rfl, ⟨p3, c3, hT3, hS3, hO3, hn3⟩, hk3⟩)
  have hb3 : Below w.heap.size w w3 := bel_chain0 hb2 (hk3.to_below hb2.size (fun k hk h => by
    rcases h with h | h | h
    · omega
    · omega
    · have := (lt2.out k h).1; omega))
  obtain ⟨g, rfl, hc3, gg, gsz, hcells⟩ := owns_some hO3 (by omega)
  have hgt := (hn3 g rfl).1
  have k0 := hcells 0 (by omega)
  have k1 := hcells 1 (by omega)
  have k2 := hcells 2 (by omega)
  have k3 := hcells 3 (by omega)
  have k4 := hcells 4 (by omega)
  have k5 := hcells 5 (by omega)
  have k6 := hcells 6 (by omega)
  have k7 := hcells 7 (by omega)
  have k8 := hcells 8 (by omega)
  have k9 := hcells 9 (by omega)
  simp only [List.nil_append, List.cons_append, List.getElem?_cons_zero, List.getElem?_cons_succ] at k0 k1 k2 k3 k4 k5 k6 k7 k8 k9
  have hr1 := run_more t g 0 c3 2 s 1 3 false false 0 0 0 0 0 0 1 0 3 0 0 w3 hT3 (by omega) (by omega) hc3 hgt (by omega) (by omega) k0 k1 k2 k3 k4 gsz
  have HR1 := Lib.hid hr1
  clear hr1 hT3 hS3 hO3 hcells hk3 hn3
  go_upto_region 7 with (go_at_call 14; (with_reducible refine HR1.out.mono ?_); rintro e w4 ⟨rfl, hT4, ho4⟩; have s4 := ho4.size)
  have hb4 : Below w.heap.size w w4 := bel_only hb3 hb3.size gt ho4
  have cc : ∀ j v, w3.cell? ⟨g, j, none⟩ = some v → w4.cell? ⟨g, j, none⟩ = some v := fun j v h => (ho4.cell (p := ⟨g, j, none⟩) gsz (by show g ≠ t; omega)).trans h
  have q5 := cc _ _ k5
  have q6 := cc _ _ k6
  have q7 := cc _ _ k7
  have q8 := cc _ _ k8
  have q9 := cc _ _ k9
  have tz4 := tc_size hT4
  have T4 := Lib.hid hT4
  clear hT4 cc k0 k1 k2 k3 k4 k5 k6 k7 k8 k9
  have hr2 := fun w5 (h : Below w4.heap.size w4 w5) => run_last t g 5 1 s 1 3 false false 1 0 3 0 0 1 2 7 10 0 0 w5 (T4.out.keepb h) (by omega) hgt (by omega) (by omega) ((h.cell (p := ⟨g, 5, none⟩) (by show g < _; omega)).trans q5) ((h.cell (p := ⟨g, 6, none⟩) (by show g < _; omega)).trans q6) ((h.cell (p := ⟨g, 7, none⟩) (by show g < _; omega)).trans q7) ((h.cell (p := ⟨g, 8, none⟩) (by show g < _; omega)).trans q8) ((h.cell (p := ⟨g, 9, none⟩) (by show g < _; omega)).trans q9) (Nat.lt_of_lt_of_le (by omega) h.size)
  have HR2 := Lib.hid hr2
  clear hr2 q5 q6 q7 q8 q9
  go_upto_region 8 with (go_at_call 14; (with_reducible refine (HR2.out _ ?_).mono ?_); (focus (exact (by repeat' (first | (with_reducible exact Below.refl _ _) | (with_reducible refine Below.alloc ?_ ?_ _) | (with_reducible refine below_drewN ?_ _) | (with_reducible refine Below.drew ?_) | (with_reducible refine Below.setCell ?_ ?_ _) | omega | (simp; omega) | (simp; done))))); rintro e w5 ⟨rfl, hT5, ho5⟩; have s_w5 := ho5.size; (try simp only [World.size_alloc, World.size_setCell, World.size_drew, sz_drewN] at s_w5); have z_w5_0_0 : w4.heap.size < w5.heap.size := (by omega); have z_w5_0_1 : w4.heap.size < w5.heap.size + 1 := (by omega); have z_w5_0_2 : w4.heap.size < w5.heap.size + 1 + 1 := (by omega); have q_w5_0_0 : w5.cell? ⟨w4.heap.size, 0, none⟩ = some (.int .i64 1) := (ho5.cell (p := ⟨w4.heap.size, 0, none⟩) (by first | (show w4.heap.size < _; omega) | (show w4.heap.size < _; simp; done) | (show w4.heap.size < _; simp; omega)) (by show w4.heap.size ≠ _; omega)).trans (by first | assumption | (go_simp; done)); have q_w5_0_1 : w5.cell? ⟨w4.heap.size, 1, none⟩ = some (.int .i64 0) := (ho5.cell (p := ⟨w4.heap.size, 1, none⟩) (by first | (show w4.heap.size < _; omega) | (show w4.heap.size < _; simp; done) | (show w4.heap.size < _; simp; omega)) (by show w4.heap.size ≠ _; omega)).trans (by first | assumption | (go_simp; done)); have q_w5_0_2 : w5.cell? ⟨w4.heap.size, 2, none⟩ = some (.int .i64 3) := (ho5.cell (p := ⟨w4.heap.size, 2, none⟩) (by first | (show w4.heap.size < _; omega) | (show w4.heap.size < _; simp; done) | (show w4.heap.size < _; simp; omega)) (by show w4.heap.size ≠ _; omega)).trans (by first | assumption | (go_simp; done)); have q_w5_0_3 : w5.cell? ⟨w4.heap.size, 3, none⟩ = some (.int .i64 0) := (ho5.cell (p := ⟨w4.heap.size, 3, none⟩) (by first | (show w4.heap.size < _; omega) | (show w4.heap.size < _; simp; done) | (show w4.heap.size < _; simp; omega)) (by show w4.heap.size ≠ _; omega)).trans (by first | assumption | (go_simp; done)); have q_w5_0_4 : w5.cell? ⟨w4.heap.size, 4, none⟩ = some (.int .i64 0) := (ho5.cell (p := ⟨w4.heap.size, 4, none⟩) (by first | (show w4.heap.size < _; omega) | (show w4.heap.size < _; simp; done) | (show w4.heap.size < _; simp; omega)) (by show w4.heap.size ≠ _; omega)).trans (by first | assumption | (go_simp; done)))
  go_wp2
  go_ret
  exact ⟨rfl, (bel_only (b := t) (hb4.alloc hb4.size _) (by simp; omega) gt ho5).alloc (by omega) _⟩
end Go.Proofs.Ytkmgkggkdmlkeaa
