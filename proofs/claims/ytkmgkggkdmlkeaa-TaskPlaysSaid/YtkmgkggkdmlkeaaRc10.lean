/- Contract of the document's Arrive (layer 10). -/
import Derived.Test.YtkmgkggkdmlkeaaRa10
namespace Go.Proofs.Ytkmgkggkdmlkeaa
open Go.RowKit
set_option linter.unusedVariables false
set_option linter.unusedSimpArgs false

theorem RC.comes {w : World} {t : Nat} {E P : Int} {early cut : Bool} {off came : Int} {v : Value} {r0 r1 r2 r3 r4 done : Int} (h : RC w t E P early cut off came v r0 r1 r2 r3 r4 done) (z : Int) : RC (w.setCell ⟨t, 5, none⟩ (.int .i64 z)) t E P early cut off z v r0 r1 r2 r3 r4 done := by
  obtain ⟨h0, h1, h2, h3, h4, h5, h6, h7, h8, h9, h10, h11, h12, hf, hs⟩ := h
  refine ⟨?_, ?_, ?_, ?_, ?_, ?_, ?_, ?_, ?_, ?_, ?_, ?_, ?_, ?_, ?_⟩ <;> first | (go_simp; done) | (intro o; go_simp; done) | (simp; omega)
theorem RC.offs {w : World} {t : Nat} {E P : Int} {early cut : Bool} {off came : Int} {v : Value} {r0 r1 r2 r3 r4 done : Int} (h : RC w t E P early cut off came v r0 r1 r2 r3 r4 done) (z : Int) : RC (w.setCell ⟨t, 4, none⟩ (.int .i64 z)) t E P early cut z came v r0 r1 r2 r3 r4 done := by
  obtain ⟨h0, h1, h2, h3, h4, h5, h6, h7, h8, h9, h10, h11, h12, hf, hs⟩ := h
  refine ⟨?_, ?_, ?_, ?_, ?_, ?_, ?_, ?_, ?_, ?_, ?_, ?_, ?_, ?_, ?_⟩ <;> first | (go_simp; done) | (intro o; go_simp; done) | (simp; omega)
theorem RC.rows {w : World} {t : Nat} {E P : Int} {early cut : Bool} {off came : Int} {v : Value} {r0 r1 r2 r3 r4 done : Int} (h : RC w t E P early cut off came v r0 r1 r2 r3 r4 done) (z : Value) : RC (w.setCell ⟨t, 6, none⟩ z) t E P early cut off came z r0 r1 r2 r3 r4 done := by
  obtain ⟨h0, h1, h2, h3, h4, h5, h6, h7, h8, h9, h10, h11, h12, hf, hs⟩ := h
  refine ⟨?_, ?_, ?_, ?_, ?_, ?_, ?_, ?_, ?_, ?_, ?_, ?_, ?_, ?_, ?_⟩ <;> first | (go_simp; done) | (intro o; go_simp; done) | (simp; omega)
theorem RC.cuts {w : World} {t : Nat} {E P : Int} {early cut : Bool} {off came : Int} {v : Value} {r0 r1 r2 r3 r4 done : Int} (h : RC w t E P early cut off came v r0 r1 r2 r3 r4 done) (z : Bool) : RC (w.setCell ⟨t, 3, none⟩ (.bool z)) t E P early z off came v r0 r1 r2 r3 r4 done := by
  obtain ⟨h0, h1, h2, h3, h4, h5, h6, h7, h8, h9, h10, h11, h12, hf, hs⟩ := h
  refine ⟨?_, ?_, ?_, ?_, ?_, ?_, ?_, ?_, ?_, ?_, ?_, ?_, ?_, ?_, ?_⟩ <;> first | (go_simp; done) | (intro o; go_simp; done) | (simp; omega)

theorem RC.drew {w : World} {t : Nat} {E P : Int} {early cut : Bool} {off came : Int} {v : Value} {r0 r1 r2 r3 r4 done : Int} (h : RC w t E P early cut off came v r0 r1 r2 r3 r4 done) : RC w.drew t E P early cut off came v r0 r1 r2 r3 r4 done := h
set_option maxHeartbeats 800000 in
theorem rarrive_arg (r : Nat) (a n : Int) (w : World) (h : a < 0 ∨ 1099511627776 < a ∨ n < 1 ∨ 64 < n) :
    Calls Try.prog 27 #[.pointer (some ⟨r, 0, none⟩), .int .i64 a, .int .i64 n] w fun e w' => e = .returned (.int .i64 1) ∧ Below w.heap.size w w' := by
  by_cases h1 : a < 0
  · clear h
    go_enter Try.func27, Try.ntmps27
    go_wp2
    go_ret
    exact ⟨rfl, (by repeat' (first | (with_reducible exact Below.refl _ _) | (with_reducible refine Below.alloc ?_ ?_ _) | (with_reducible refine below_drewN ?_ _) | (with_reducible refine Below.drew ?_) | (with_reducible refine Below.setCell ?_ ?_ _) | omega | (simp; omega) | (simp; done)))⟩
  · by_cases h2 : 1099511627776 < a
    · clear h
      go_enter Try.func27, Try.ntmps27
      go_wp2
      go_ret
      exact ⟨rfl, (by repeat' (first | (with_reducible exact Below.refl _ _) | (with_reducible refine Below.alloc ?_ ?_ _) | (with_reducible refine below_drewN ?_ _) | (with_reducible refine Below.drew ?_) | (with_reducible refine Below.setCell ?_ ?_ _) | omega | (simp; omega) | (simp; done)))⟩
    · by_cases h3 : n < 1
      · clear h
        go_enter Try.func27, Try.ntmps27
        go_wp2
        go_ret
        exact ⟨rfl, (by repeat' (first | (with_reducible exact Below.refl _ _) | (with_reducible refine Below.alloc ?_ ?_ _) | (with_reducible refine below_drewN ?_ _) | (with_reducible refine Below.drew ?_) | (with_reducible refine Below.setCell ?_ ?_ _) | omega | (simp; omega) | (simp; done)))⟩
      · have h4 : 64 < n := by omega
        clear h
        go_enter Try.func27, Try.ntmps27
        go_wp2
        go_ret
        exact ⟨rfl, (by repeat' (first | (with_reducible exact Below.refl _ _) | (with_reducible refine Below.alloc ?_ ?_ _) | (with_reducible refine below_drewN ?_ _) | (with_reducible refine Below.drew ?_) | (with_reducible refine Below.setCell ?_ ?_ _) | omega | (simp; omega) | (simp; done)))⟩
set_option maxHeartbeats 800000 in
theorem rarrive_cut (r : Nat) (a n : Int) (w : World) (a0 : ¬ a < 0) (a1 : ¬ 1099511627776 < a) (n1 : ¬ n < 1) (n2 : ¬ 64 < n) (h3 : w.cell? ⟨r, 3, none⟩ = some (.bool true)) :
    Calls Try.prog 27 #[.pointer (some ⟨r, 0, none⟩), .int .i64 a, .int .i64 n] w fun e w' => e = .returned (.int .i64 13) ∧ Below w.heap.size w w' := by
  go_enter Try.func27, Try.ntmps27
  go_wp2
  go_ret
  exact ⟨rfl, (by repeat' (first | (with_reducible exact Below.refl _ _) | (with_reducible refine Below.alloc ?_ ?_ _) | (with_reducible refine below_drewN ?_ _) | (with_reducible refine Below.drew ?_) | (with_reducible refine Below.setCell ?_ ?_ _) | omega | (simp; omega) | (simp; done)))⟩
set_option maxHeartbeats 800000 in
theorem rarrive_full (r m cap : Nat) (p : Option Addr) (a n : Int) (w : World) (a0 : ¬ a < 0) (a1 : ¬ 1099511627776 < a) (n1 : ¬ n < 1) (n2 : ¬ 64 < n) (h3 : w.cell? ⟨r, 3, none⟩ = some (.bool false)) (h6 : w.cell? ⟨r, 6, none⟩ = some (.slice p m cap)) (hm : m ≤ 64) (hn : 64 < (m : Int) + n) :
    Calls Try.prog 27 #[.pointer (some ⟨r, 0, none⟩), .int .i64 a, .int .i64 n] w fun e w' => e = .returned (.int .i64 15) ∧ Below w.heap.size w w' := by
  have wmn : IntKind.i64.wrap ((m : Int) + n) = (m : Int) + n := IntWalk.i64_in _ (by omega)
  go_enter Try.func27, Try.ntmps27
  go_wp2
  go_ret
  exact ⟨rfl, (by repeat' (first | (with_reducible exact Below.refl _ _) | (with_reducible refine Below.alloc ?_ ?_ _) | (with_reducible refine below_drewN ?_ _) | (with_reducible refine Below.drew ?_) | (with_reducible refine Below.setCell ?_ ?_ _) | omega | (simp; omega) | (simp; done)))⟩

set_option maxRecDepth 8000 in
set_option maxHeartbeats 6400000 in
theorem rarrive_ok (r : Nat) (E P off i a : Int) (early : Bool) (p : Option Addr) (m cap : Nat) (xs : List Value) (r0 r1 r2 r3 r4 done : Int) (n : Nat) (base : Nat) (w : World)
    (hT : RC w r E P early false off (i - 1) (.slice p m cap) r0 r1 r2 r3 r4 done) (hO : RowAt w base 5 (.slice p m cap) m xs) (hp : ∀ g, (Value.slice p m cap).ownBlock = some g → g ≠ r)
    (e1 : 1 ≤ E) (e2 : E ≤ P) (e3 : P ≤ 1048576) (i1 : 1 ≤ i) (i2 : i ≤ 1000000000) (o0 : 0 ≤ off) (o1 : off ≤ 1152921504606846976) (a0 : 0 ≤ a) (a1 : a ≤ 1099511627776) (n1 : 1 ≤ n) (hn : m + n ≤ 64) (hb : base ≤ w.heap.size) :
    Calls Try.prog 27 #[.pointer (some ⟨r, 0, none⟩), .int .i64 a, .int .i64 n] w fun e w' => e = .returned (.int .i64 0) ∧
      (∃ p' cap', RC w' r E P early false (aoff E P a off i n) (i - 1 + n) (.slice p' (m + n) cap') r0 r1 r2 r3 r4 done ∧ RowAt w' base 5 (.slice p' (m + n) cap') (m + n) (xs ++ asub E P a off i n) ∧ (∀ g, (Value.slice p' (m + n) cap').ownBlock = some g → g ≠ r ∧ (g < w.heap.size → (Value.slice p m cap).ownBlock = some g))) ∧
      Keeps (fun k => k = r ∨ (Value.slice p m cap).ownBlock = some k) w w' := by
  have tsz := rc_size hT
  have c3 := hT.2.2.2.1
  have c6 := hT.2.2.2.2.2.2.1
  have HT := Lib.hid hT
  have HO := Lib.hid hO
  have HOB := Lib.hid (fun g (hg : (Value.slice p m cap).ownBlock = some g) => (⟨hp g hg, fun _ => hg⟩ : g ≠ r ∧ (g < w.heap.size → (Value.slice p m cap).ownBlock = some g)))
  have q1 : ¬ a < 0 := by omega
  have q2 : ¬ 1099511627776 < a := by omega
  have q3 : ¬ (n : Int) < 1 := by omega
  have q4 : ¬ 64 < (n : Int) := by omega
  have q5 : ¬ 64 < (m : Int) + n := by omega
  have wmn : IntKind.i64.wrap ((m : Int) + n) = (m : Int) + n := IntWalk.i64_in _ (by omega)
  obtain ⟨i0, hi0, hz0, hz1, hz2⟩ := infoS
  clear hT hO hp
  go_enter Try.func27, Try.ntmps27
  go_wp2
  go_loopw [7] (fun s7 wr => ∃ (k : Nat) (p' : Option Addr) (cap' : Nat), s7 = .int .i64 k ∧ k ≤ n ∧ RC wr r E P early false (aoff E P a off i k) (i - 1 + k) (.slice p' (m + k) cap') r0 r1 r2 r3 r4 done ∧ RowAt wr base 5 (.slice p' (m + k) cap') (m + k) (xs ++ asub E P a off i k) ∧ (∀ g, (Value.slice p' (m + k) cap').ownBlock = some g → g ≠ r ∧ (g < w.heap.size → (Value.slice p m cap).ownBlock = some g)) ∧ Keeps (fun k => k = r ∨ (Value.slice p m cap).ownBlock = some k) w wr) (fun s7 _ => n - (intOf s7).toNat)
  case atStart => exact ⟨0, p, cap, rfl, by omega, by show RC w r E P early false off (i - 1 + 0) _ r0 r1 r2 r3 r4 done; rw [Int.add_zero]; exact HT.out, by show RowAt w _ _ _ _ (xs ++ []); rw [List.append_nil]; exact HO.out, HOB.out, Keeps.refl⟩
  case round =>
    clear HT HO HOB c3 c6
    obtain ⟨k, p', cap', rfl, hk, hT, hO, hOB, hK⟩ := hrel
    have rz := rc_size hT
    have c5 := hT.2.2.2.2.2.1
    have f5 := hT.2.2.2.2.2.2.2.2.2.2.2.2.2.1
    have HT := Lib.hid hT
    have HO := Lib.hid hO
    have HOB := Lib.hid hOB
    have HK := Lib.hid hK
    have hsw := hK.size
    clear hT hO hOB hK
    by_cases hkn : k < n
    · obtain ⟨x0, x1⟩ := aoff_bd E P a off i e1 (by omega) i1 o0 k
      obtain ⟨y0, y1⟩ := aoff_bd E P a off i e1 (by omega) i1 o0 (k + 1)
      have hO2 : aoff E P a off i k + max (a - (Win.rel E P (i + k) + aoff E P a off i k)) 0 = aoff E P a off i (k + 1) := rfl
      have hA2 : Hid (asub E P a off i (k + 1) = asub E P a off i k ++ [.int .i64 (i + k), .int .i64 (Win.rel E P (i + k) + aoff E P a off i (k + 1)), .int .i64 (Win.dl E P (i + k) + aoff E P a off i (k + 1)), .int .i64 (Win.bit E P (i + k)), .int .i64 (shG (aoff E P a off i (k + 1)) (Win.grp E P (i + k)))]) := rfl
      have hof1 := fun w => rof_yes E P (i + k) (aoff E P a off i k) w e1 e2 e3 (by omega) (by omega) x0 (by omega)
      have hof2 := fun w => rof_yes E P (i + k) (aoff E P a off i (k + 1)) w e1 e2 e3 (by omega) (by omega) y0 (by omega)
      obtain ⟨d1, d2, d3, d4, d5, d6⟩ := sn_bd E P (i + k) e1 e2 e3 (by omega) (by omega)
      have hk1 : Hid (i - 1 + ((k + 1 : Nat) : Int) = i + k) := by show _ = _; omega
      have nk : (k : Int) < n := by omega
      have wi : IntKind.i64.wrap (i - 1 + k + 1) = i + k := (IntWalk.i64_in _ (by omega)).trans (by omega)
      have wk : IntKind.i64.wrap ((k : Int) + 1) = (k : Int) + 1 := IntWalk.i64_in _ (by omega)
      have hGG : Hid (aoff E P a off i (k + 1) = aoff E P a off i k → shG (aoff E P a off i (k + 1)) (Win.grp E P (i + k)) = shG (aoff E P a off i k) (Win.grp E P (i + k))) := fun h => by rw [h]
      generalize hO2e : aoff E P a off i (k + 1) = O2 at *
      have HO2E := Lib.hid hO2e
      clear hO2e
      generalize aoff E P a off i k = O1 at *
      generalize shG O1 (Win.grp E P (i + k)) = G1 at *
      generalize shG O2 (Win.grp E P (i + k)) = G2 at *
      generalize Win.rel E P (i + k) = R at *
      generalize Win.dl E P (i + k) = D at *
      generalize Win.bit E P (i + k) = B at *
      have HOF1 := Lib.hid hof1
      have HOF2 := Lib.hid hof2
      clear hof1 hof2
      go_upto_region 11 with fail
      refine gen_world (F := fun V => RC V r E P early false O1 (i + k) (.slice p' (m + k) cap') r0 r1 r2 r3 r4 done ∧ RowAt V base 5 (.slice p' (m + k) cap') (m + k) (xs ++ asub E P a off i k) ∧ Keeps (fun k => k = r ∨ (Value.slice p m cap).ownBlock = some k) w V) ⟨HT.out.comes _, row_only HO.out (only_set _ _ _ _) (fun g hg => (HOB.out g hg).1), HK.out.setCell (fun _ => .inl rfl) _⟩ ?_
      clear HT HO HK c5 f5 rz hsw
      rintro V ⟨hT, hO, hK⟩
      have rz := rc_size hT
      have sV := hK.size
      have HT := Lib.hid hT
      have HO := Lib.hid hO
      have HK := Lib.hid hK
      have c0 := hT.1
      have c1 := hT.2.1
      have c4 := hT.2.2.2.2.1
      have c5 := hT.2.2.2.2.2.1
      clear hT hO hK
      go_cut [8] (fun s8 wx => ∃ b, s8 = .pointer (some ⟨b, 0, none⟩) ∧ V.heap.size ≤ b ∧ wx.cell? ⟨b, 0, none⟩ = some (.int .i64 (i + k)) ∧ wx.cell? ⟨b, 1, none⟩ = some (.int .i64 (R + O1)) ∧ wx.cell? ⟨b, 2, none⟩ = some (.int .i64 (D + O1)) ∧ wx.cell? ⟨b, 3, none⟩ = some (.int .i64 (B)) ∧ wx.cell? ⟨b, 4, none⟩ = some (.int .i64 (G1)) ∧ (∀ o, wx.frozen? ⟨b, o, none⟩ = false) ∧ b < wx.heap.size ∧ Below V.heap.size V wx)
      case first =>
        go_region_held3 (fun x => Below (V).heap.size (V) x ∧ (∀ b o, b < (V).heap.size → x.cell? ⟨b, o, none⟩ = (V).cell? ⟨b, o, none⟩) ∧ (∀ b o, b < (V).heap.size → x.frozen? ⟨b, o, none⟩ = (V).frozen? ⟨b, o, none⟩)) ((first | (simp only [mark_set]; refine held_of ?_; repeat' (first | (with_reducible exact (by with_reducible assumption : Below _ _ _ ∧ _).1) | (with_reducible refine below_setc ?_ ?_) | omega | (simp; done) | (simp; omega))) | (with_reducible exact held_of ((by with_reducible assumption : Below _ _ _ ∧ _).1.trans (hb.mono (by with_reducible assumption : Below _ _ _ ∧ _).1.size))) | (with_reducible exact held_of (Below.drew (Below.refl _ _))) | (with_reducible exact held_of ((by with_reducible assumption : Below _ _ _ ∧ _).1.alloc (by with_reducible assumption : Below _ _ _ ∧ _).1.size _)) | (with_reducible exact held_of (below_realloc hz (by with_reducible assumption : Below _ _ (World.alloc _ _) ∧ _).1)))) (first
          | (go_at_call 18; (with_reducible refine (HOF1.out _).mono ?_); rintro e w1 ⟨rfl, hb⟩; obtain ⟨hc, hf⟩ := bcell hb; (try (have hbc := bel_chain (by with_reducible assumption) hb; obtain ⟨hcc, hfc⟩ := bcell hbc)); have hz := Nat.le_trans (by with_reducible assumption : Below (V).heap.size (V) _ ∧ _).1.size hb.size))
        all_goals (go_wp2_with fail; go_meet; refine ⟨_, rfl, ?_⟩; have hBB := (by with_reducible assumption : Below _ _ _ ∧ _).1; refine ⟨?_, ?_, ?_, ?_, ?_, ?_, ?_, ?_, hBB⟩ <;> first | omega | (go_simp; done) | (intro o; go_simp; done) | (exact Nat.lt_of_succ_le (by simpa using hb.size)) | (exact hb.size) | (simp; omega))
      case rest =>
        obtain ⟨b, rfl, hbge, l0, l1, l2, l3, l4, lf, ls, hb3⟩ := hcut
        have bV : Below V.heap.size V wc := hb3
        have HT3 := Lib.hid (HT.out.keepb hb3)
        have HO3 := Lib.hid (row_only HO.out (only_of_below (b := V.heap.size) hb3) (fun g hg => by have := (HO.out.lt g hg).2; omega))
        have HK3 := Lib.hid (HK.out.below hb3)
        have s3 := hb3.size
        have hOVr : ∀ g, (Value.slice p' (m + k) cap').ownBlock = some g → g ≠ b ∧ g < V.heap.size := fun g hg => by have := (HO.out.lt g hg).2; exact ⟨by omega, this⟩
        have HOVR := Lib.hid hOVr
        have rb : r ≠ b := by omega
        clear HT HO HK c0 c1 c4 c5 hb3 bV hOVr
        go_upto_if 67 with fail
        go_cut [8] (fun s8 wx => s8 = .pointer (some ⟨b, 0, none⟩) ∧ RC wx r E P early false O2 (i + k) (.slice p' (m + k) cap') r0 r1 r2 r3 r4 done ∧ RowAt wx base 5 (.slice p' (m + k) cap') (m + k) (xs ++ asub E P a off i k) ∧ wx.cell? ⟨b, 0, none⟩ = some (.int .i64 (i + k)) ∧ wx.cell? ⟨b, 1, none⟩ = some (.int .i64 (R + O2)) ∧ wx.cell? ⟨b, 2, none⟩ = some (.int .i64 (D + O2)) ∧ wx.cell? ⟨b, 3, none⟩ = some (.int .i64 (B)) ∧ wx.cell? ⟨b, 4, none⟩ = some (.int .i64 (G2)) ∧ (∀ o, wx.frozen? ⟨b, o, none⟩ = false) ∧ b < wx.heap.size ∧ Keeps (fun k => k = r ∨ (Value.slice p m cap).ownBlock = some k) w wx ∧ V.heap.size ≤ wx.heap.size)
        case first =>
          by_cases late : R + O1 < a
          · have c4 := HT3.out.2.2.2.2.1
            have f4 := HT3.out.2.2.2.2.2.2.2.2.2.2.2.2.2.1
            have rz3 := rc_size HT3.out
            have w1 : IntKind.i64.wrap (O1 + a) = O1 + a := IntWalk.i64_in _ (by omega)
            have w2 : IntKind.i64.wrap (O1 + a - (R + O1)) = O2 := (IntWalk.i64_in _ (by omega)).trans (by omega)
            go_wp2
            go_big_region
            go_upto_region 14 with fail
            refine gen_world (F := fun V2 => RC V2 r E P early false O2 (i + k) (.slice p' (m + k) cap') r0 r1 r2 r3 r4 done ∧ RowAt V2 base 5 (.slice p' (m + k) cap') (m + k) (xs ++ asub E P a off i k) ∧ V2.cell? ⟨b, 0, none⟩ = some (.int .i64 (i + k)) ∧ V2.cell? ⟨b, 1, none⟩ = some (.int .i64 (R + O1)) ∧ V2.cell? ⟨b, 2, none⟩ = some (.int .i64 (D + O1)) ∧ V2.cell? ⟨b, 3, none⟩ = some (.int .i64 (B)) ∧ V2.cell? ⟨b, 4, none⟩ = some (.int .i64 (G1)) ∧ (∀ o, V2.frozen? ⟨b, o, none⟩ = false) ∧ b < V2.heap.size ∧ Keeps (fun k => k = r ∨ (Value.slice p m cap).ownBlock = some k) w V2 ∧ V.heap.size ≤ V2.heap.size) ⟨(HT3.out.offs _).drew, (row_only HO3.out (only_set _ _ _ _) (fun g hg => (HOB.out g hg).1)).drew, ?_, ?_, ?_, ?_, ?_, ?_, ?_, (HK3.out.setCell (fun _ => .inl rfl) _).drew, ?_⟩ ?_
            iterate 5 (focus (go_simp; done))
            · intro o; go_simp
            · simp; omega
            · simp; omega
            clear HT3 HO3 HK3 l0 l1 l2 l3 l4 lf ls c4 f4 rz3 s3
            rintro V2 ⟨hT, hO, l0, l1, l2, l3, l4, lf, ls, hK, s3⟩
            have rz3 := rc_size hT
            have c0 := hT.1
            have c1 := hT.2.1
            have c4 := hT.2.2.2.2.1
            have c5 := hT.2.2.2.2.2.1
            have HT3 := Lib.hid hT
            have HO3 := Lib.hid hO
            have HK3 := Lib.hid hK
            clear hT hO hK
            refine wp_region_held_drew (S := (fun x => x.cell? ⟨r, 0, none⟩ = some (.int .i64 E) ∧ x.cell? ⟨r, 1, none⟩ = some (.int .i64 P) ∧ x.cell? ⟨r, 4, none⟩ = some (.int .i64 O2) ∧ x.cell? ⟨r, 5, none⟩ = some (.int .i64 (i + k)) ∧ r < x.heap.size)) (by kernel_rfl) ?_ (fun hHeld => ?_)
            focus (exact ⟨by simpa using c0, by simpa using c1, by simpa using c4, by simpa using c5, by simpa using rz3⟩)
            (refine wpAnyH_take (i := 0) (v := ?_) rfl (by kernel_rfl) (by kernel_rfl) (by kernel_rfl) (fun _ _ _ h => h) (Or.inl ⟨by rfl, ?_⟩) (by assumption) ?_; rotate_left; (focus (intro w hSw; (try dsimp only at hSw); go_simp; (try with_reducible rfl); done)); (try simp only [List.getElem_toArray, List.getElem_cons_succ, List.getElem_cons_zero, Act.put, List.setIfInBounds_toArray, List.set_cons_zero, List.set_cons_succ]))
            (refine wpAnyH_take (i := 1) (v := ?_) rfl (by kernel_rfl) (by kernel_rfl) (by kernel_rfl) (fun _ _ _ h => h) (Or.inl ⟨by rfl, ?_⟩) (by assumption) ?_; rotate_left; (focus (intro w hSw; (try dsimp only at hSw); go_simp; (try with_reducible rfl); done)); (try simp only [List.getElem_toArray, List.getElem_cons_succ, List.getElem_cons_zero, Act.put, List.setIfInBounds_toArray, List.set_cons_zero, List.set_cons_succ]))
            (refine wpAnyH_take (i := 2) (v := ?_) rfl (by kernel_rfl) (by kernel_rfl) (by kernel_rfl) (fun _ _ _ h => h) (Or.inl ⟨by rfl, ?_⟩) (by assumption) ?_; rotate_left; (focus (intro w hSw; (try dsimp only at hSw); go_simp; (try with_reducible rfl); done)); (try simp only [List.getElem_toArray, List.getElem_cons_succ, List.getElem_cons_zero, Act.put, List.setIfInBounds_toArray, List.set_cons_zero, List.set_cons_succ]))
            (refine wpAnyH_take (i := 3) (v := ?_) rfl (by kernel_rfl) (by kernel_rfl) (by kernel_rfl) (fun _ _ _ h => h) (Or.inl ⟨by rfl, ?_⟩) (by assumption) ?_; rotate_left; (focus (intro w hSw; (try dsimp only at hSw); go_simp; (try with_reducible rfl); done)); (try simp only [List.getElem_toArray, List.getElem_cons_succ, List.getElem_cons_zero, Act.put, List.setIfInBounds_toArray, List.set_cons_zero, List.set_cons_succ]))
            (refine wpAnyH_take (i := 4) (v := ?_) rfl (by kernel_rfl) (by kernel_rfl) (by kernel_rfl) (fun _ _ _ h => h) (Or.inl ⟨by rfl, ?_⟩) (by assumption) ?_; rotate_left; (focus (intro w hSw; (try dsimp only at hSw); go_simp; (try with_reducible rfl); done)); (try simp only [List.getElem_toArray, List.getElem_cons_succ, List.getElem_cons_zero, Act.put, List.setIfInBounds_toArray, List.set_cons_zero, List.set_cons_succ]))
            (refine wpAnyH_take (i := 5) (v := ?_) rfl (by kernel_rfl) (by kernel_rfl) (by kernel_rfl) (fun _ _ _ h => h) (Or.inl ⟨by rfl, ?_⟩) (by assumption) ?_; rotate_left; (focus (intro w hSw; (try dsimp only at hSw); go_simp; (try with_reducible rfl); done)); (try simp only [List.getElem_toArray, List.getElem_cons_succ, List.getElem_cons_zero, Act.put, List.setIfInBounds_toArray, List.set_cons_zero, List.set_cons_succ]))
            (refine wpAnyH_take (i := 6) (v := ?_) rfl (by kernel_rfl) (by kernel_rfl) (by kernel_rfl) (fun _ _ _ h => h) (Or.inl ⟨by rfl, ?_⟩) (by assumption) ?_; rotate_left; (focus (intro w hSw; (try dsimp only at hSw); go_simp; (try with_reducible rfl); done)); (try simp only [List.getElem_toArray, List.getElem_cons_succ, List.getElem_cons_zero, Act.put, List.setIfInBounds_toArray, List.set_cons_zero, List.set_cons_succ]))
            (refine wpAnyH_take (i := 7) (v := ?_) rfl (by kernel_rfl) (by kernel_rfl) (by kernel_rfl) (fun _ _ _ h => h) (Or.inl ⟨by rfl, ?_⟩) (by assumption) ?_; rotate_left; (focus (intro w hSw; (try dsimp only at hSw); go_simp; (try with_reducible rfl); done)); (try simp only [List.getElem_toArray, List.getElem_cons_succ, List.getElem_cons_zero, Act.put, List.setIfInBounds_toArray, List.set_cons_zero, List.set_cons_succ]))
            (refine wpAnyH_take (i := 8) (v := ?_) rfl (by kernel_rfl) (by kernel_rfl) (by kernel_rfl) (fun _ _ _ h => h) (Or.inl ⟨by rfl, ?_⟩) (by assumption) ?_; rotate_left; (focus (intro w hSw; (try dsimp only at hSw); go_simp; (try with_reducible rfl); done)); (try simp only [List.getElem_toArray, List.getElem_cons_succ, List.getElem_cons_zero, Act.put, List.setIfInBounds_toArray, List.set_cons_zero, List.set_cons_succ]))
            (refine wpAnyH_take (i := 9) (v := ?_) rfl (by kernel_rfl) (by kernel_rfl) (by kernel_rfl) (fun _ _ _ h => h) (Or.inl ⟨by rfl, ?_⟩) (by assumption) ?_; rotate_left; (focus (intro w hSw; (try dsimp only at hSw); go_simp; (try with_reducible rfl); done)); (try simp only [List.getElem_toArray, List.getElem_cons_succ, List.getElem_cons_zero, Act.put, List.setIfInBounds_toArray, List.set_cons_zero, List.set_cons_succ]))
            (refine wpAnyH_take (i := 10) (v := ?_) rfl (by kernel_rfl) (by kernel_rfl) (by kernel_rfl) (fun _ _ _ h => h) (Or.inl ⟨by rfl, ?_⟩) (by assumption) ?_; rotate_left; (focus (intro w hSw; (try dsimp only at hSw); go_simp; (try with_reducible rfl); done)); (try simp only [List.getElem_toArray, List.getElem_cons_succ, List.getElem_cons_zero, Act.put, List.setIfInBounds_toArray, List.set_cons_zero, List.set_cons_succ]))
            (refine wpAnyH_take (i := 11) (v := ?_) rfl (by kernel_rfl) (by kernel_rfl) (by kernel_rfl) (fun _ _ _ h => h) (Or.inl ⟨by rfl, ?_⟩) (by assumption) ?_; rotate_left; (focus (intro w hSw; (try dsimp only at hSw); go_simp; (try with_reducible rfl); done)); (try simp only [List.getElem_toArray, List.getElem_cons_succ, List.getElem_cons_zero, Act.put, List.setIfInBounds_toArray, List.set_cons_zero, List.set_cons_succ]))
            (refine wpAnyH_ready (rs := [12]) (by kernel_rfl) (by simp) ?_; refine (AllReadyH.cons rfl (fun K hK => ?_) AllReadyH.nil))
            (go_simp; (go_at_call 18; (with_reducible refine (HOF2.out _).mono ?_); rintro e w1 ⟨rfl, hb⟩; have s1 := hb.size; (try simp only [World.size_drew, sz_drewN] at s1); have y0 : w1.cell? ⟨r, 0, none⟩ = some (.int .i64 E) := (hb.cell (p := ⟨r, 0, none⟩) (by first | assumption | (simp; omega))).trans (by go_simp); have y1 : w1.cell? ⟨r, 1, none⟩ = some (.int .i64 P) := (hb.cell (p := ⟨r, 1, none⟩) (by first | assumption | (simp; omega))).trans (by go_simp); have y4 : w1.cell? ⟨r, 4, none⟩ = some (.int .i64 O2) := (hb.cell (p := ⟨r, 4, none⟩) (by first | assumption | (simp; omega))).trans (by go_simp); have y5 : w1.cell? ⟨r, 5, none⟩ = some (.int .i64 (i + k)) := (hb.cell (p := ⟨r, 5, none⟩) (by first | assumption | (simp; omega))).trans (by go_simp); have z0 : w1.cell? ⟨b, 0, none⟩ = _ := (hb.cell (p := ⟨b, 0, none⟩) (by first | assumption | (simp; omega))).trans (by first | exact l0 | go_simp); have z1 : w1.cell? ⟨b, 1, none⟩ = _ := (hb.cell (p := ⟨b, 1, none⟩) (by first | assumption | (simp; omega))).trans (by first | exact l1 | go_simp); have z2 : w1.cell? ⟨b, 2, none⟩ = _ := (hb.cell (p := ⟨b, 2, none⟩) (by first | assumption | (simp; omega))).trans (by first | exact l2 | go_simp); have z3 : w1.cell? ⟨b, 3, none⟩ = _ := (hb.cell (p := ⟨b, 3, none⟩) (by first | assumption | (simp; omega))).trans (by first | exact l3 | go_simp); have z4 : w1.cell? ⟨b, 4, none⟩ = _ := (hb.cell (p := ⟨b, 4, none⟩) (by first | assumption | (simp; omega))).trans (by first | exact l4 | go_simp); have zf : ∀ o, w1.frozen? ⟨b, o, none⟩ = false := (fun o => (hb.frozen (p := ⟨b, o, none⟩) (by first | assumption | (simp; omega))).trans (by first | exact lf o | go_simp)); have r1z : r < w1.heap.size := (by omega); have b1z : b < w1.heap.size := (by omega)); (refine hK.out _ _ ?_ (fun hHeld2 => ?_); (focus (refine ⟨?_, ?_, ?_, ?_, ?_⟩ <;> first | (with_reducible assumption) | (go_simp; done) | omega | (simp; done) | (simp; omega))); clear hK K; have hHeld := hHeld2; clear hHeld2; (try simp only [List.getElem_toArray, List.getElem_cons_succ, List.getElem_cons_zero, Act.put, List.setIfInBounds_toArray, List.set_cons_zero, List.set_cons_succ])))
            (refine wpAnyH_take (i := 13) (v := ?_) rfl (by kernel_rfl) (by kernel_rfl) (by kernel_rfl) (fun _ _ _ h => h) (Or.inl ⟨by rfl, ?_⟩) (by assumption) ?_; rotate_left; (focus (intro w hSw; (try dsimp only at hSw); go_simp; (try with_reducible rfl); done)); (try simp only [List.getElem_toArray, List.getElem_cons_succ, List.getElem_cons_zero, Act.put, List.setIfInBounds_toArray, List.set_cons_zero, List.set_cons_succ]))
            (refine wpAnyH_take (i := 14) (v := ?_) rfl (by kernel_rfl) (by kernel_rfl) (by kernel_rfl) (fun _ _ _ h => h) (Or.inl ⟨by rfl, ?_⟩) (by assumption) ?_; rotate_left; (focus (intro w hSw; (try dsimp only at hSw); go_simp; (try with_reducible rfl); done)); (try simp only [List.getElem_toArray, List.getElem_cons_succ, List.getElem_cons_zero, Act.put, List.setIfInBounds_toArray, List.set_cons_zero, List.set_cons_succ]))
            (refine wpAnyH_take (i := 15) (v := ?_) rfl (by kernel_rfl) (by kernel_rfl) (by kernel_rfl) (fun _ _ _ h => h) (Or.inl ⟨by rfl, ?_⟩) (by assumption) ?_; rotate_left; (focus (intro w hSw; (try dsimp only at hSw); go_simp; (try with_reducible rfl); done)); (try simp only [List.getElem_toArray, List.getElem_cons_succ, List.getElem_cons_zero, Act.put, List.setIfInBounds_toArray, List.set_cons_zero, List.set_cons_succ]))
            clear l0 l1 l2 l3 l4 lf ls c0 c1 c4 c5
            obtain ⟨hH0, hH1, hH2, hH3, hH4⟩ := hHeld
            clear hH0 hH1 hH2 hH3 hH4
            (refine wpAnyH_ready (rs := [16]) (by kernel_rfl) (by simp) ?_; refine (AllReadyH.cons rfl (fun K hK => ?_) AllReadyH.nil))
            (go_simp; (refine hK.out _ _ ?_ (fun hHeld2 => ?_); (focus (refine ⟨?_, ?_, ?_, ?_, ?_⟩ <;> first | (with_reducible assumption) | (go_simp; done) | omega | (simp; done) | (simp; omega))); clear hK K; have hHeld := hHeld2; clear hHeld2; (try simp only [List.getElem_toArray, List.getElem_cons_succ, List.getElem_cons_zero, Act.put, List.setIfInBounds_toArray, List.set_cons_zero, List.set_cons_succ])))
            refine wpAnyH_done (by kernel_rfl) ?_ _
            go_wp2
            go_meet
            have hO5 := row_only HO3.out.drew (only_of_below (b := V2.drew.heap.size) hb) (fun g hg => by have := (HO3.out.lt g hg).2; simp; omega)
            have hT5 := HT3.out.drew.keepb hb
            have hK5 := HK3.out.drew.below hb
            have nb : b < w.heap.size → b = r ∨ (Value.slice p m cap).ownBlock = some b := fun h => by omega
            refine ⟨rfl, hT5.keep (c := b) (by repeat' (first | (with_reducible exact Only.refl _ _) | (with_reducible refine Only.alloc ?_ _) | (with_reducible refine only_drewN ?_ _) | (with_reducible refine Only.drew ?_) | (with_reducible refine Only.setCell ?_ ?_ _) | (exact Or.inl rfl) | (right; first | omega | (simp; done) | (simp; omega)) | omega | (simp; omega) | (simp; done))) rb, row_only (b := b) hO5 (by repeat' (first | (with_reducible exact Only.refl _ _) | (with_reducible refine Only.alloc ?_ _) | (with_reducible refine only_drewN ?_ _) | (with_reducible refine Only.drew ?_) | (with_reducible refine Only.setCell ?_ ?_ _) | (exact Or.inl rfl) | (right; first | omega | (simp; done) | (simp; omega)) | omega | (simp; omega) | (simp; done))) (fun g hg => (HOVR.out g hg).1), ?_, ?_, ?_, ?_, ?_, ?_, ?_, ((((hK5.setCell nb _).setCell nb _).setCell nb _).setCell nb _).setCell nb _, ?_⟩
            iterate 5 (focus (go_simp; done))
            · intro o; go_simp
            · simp; omega
            · simp; omega
          · have e : O2 = O1 := by omega
            have eg := hGG.out e
            subst e
            rw [← eg] at l4
            go_wp2
            go_meet
            exact ⟨rfl, HT3.out, HO3.out, l0, l1, l2, l3, l4, lf, ls, HK3.out, s3⟩
        case rest =>
          obtain ⟨rfl, hT, hO, l0, l1, l2, l3, l4, lf, ls, hK, s3⟩ := hcut
          have rz3 := rc_size hT
          have c6 := hT.2.2.2.2.2.2.1
          have f6 := hT.2.2.2.2.2.2.2.2.2.2.2.2.2.1
          have HT3 := Lib.hid hT
          have HO3 := Lib.hid hO
          have HK3 := Lib.hid hK
          clear hT hO hK HOF1 HOF2 hGG wi
          go_upto_region 15 with fail
          refine wp_region_held_drew (S := (fun x => x.cell? ⟨b, 0, none⟩ = some (.int .i64 (i + k)) ∧ x.cell? ⟨b, 1, none⟩ = some (.int .i64 (R + O2)) ∧ x.cell? ⟨b, 2, none⟩ = some (.int .i64 (D + O2)) ∧ x.cell? ⟨b, 3, none⟩ = some (.int .i64 B) ∧ x.cell? ⟨b, 4, none⟩ = some (.int .i64 G2) ∧ b < x.heap.size)) (by kernel_rfl) ?_ (fun hHeld => ?_)
          focus (exact ⟨by simpa using l0, by simpa using l1, by simpa using l2, by simpa using l3, by simpa using l4, by simpa using ls⟩)
          (refine wpAnyH_take (i := 0) (v := ?_) rfl (by kernel_rfl) (by kernel_rfl) (by kernel_rfl) (fun _ _ _ h => h) (Or.inl ⟨by rfl, ?_⟩) (by assumption) ?_; rotate_left; (focus (intro w hSw; (try dsimp only at hSw); go_simp; (try with_reducible rfl); done)); (try simp only [List.getElem_toArray, List.getElem_cons_succ, List.getElem_cons_zero, Act.put, List.setIfInBounds_toArray, List.set_cons_zero, List.set_cons_succ]))
          (refine wpAnyH_take (i := 1) (v := ?_) rfl (by kernel_rfl) (by kernel_rfl) (by kernel_rfl) (fun _ _ _ h => h) (Or.inl ⟨by rfl, ?_⟩) (by assumption) ?_; rotate_left; (focus (intro w hSw; (try dsimp only at hSw); go_simp; (try with_reducible rfl); done)); (try simp only [List.getElem_toArray, List.getElem_cons_succ, List.getElem_cons_zero, Act.put, List.setIfInBounds_toArray, List.set_cons_zero, List.set_cons_succ]))
          (refine wpAnyH_take (i := 2) (v := ?_) rfl (by kernel_rfl) (by kernel_rfl) (by kernel_rfl) (fun _ _ _ h => h) (Or.inl ⟨by rfl, ?_⟩) (by assumption) ?_; rotate_left; (focus (intro w hSw; (try dsimp only at hSw); go_simp; (try with_reducible rfl); done)); (try simp only [List.getElem_toArray, List.getElem_cons_succ, List.getElem_cons_zero, Act.put, List.setIfInBounds_toArray, List.set_cons_zero, List.set_cons_succ]))
          (refine wpAnyH_take (i := 3) (v := ?_) rfl (by kernel_rfl) (by kernel_rfl) (by kernel_rfl) (fun _ _ _ h => h) (Or.inl ⟨by rfl, ?_⟩) (by assumption) ?_; rotate_left; (focus (intro w hSw; (try dsimp only at hSw); go_simp; (try with_reducible rfl); done)); (try simp only [List.getElem_toArray, List.getElem_cons_succ, List.getElem_cons_zero, Act.put, List.setIfInBounds_toArray, List.set_cons_zero, List.set_cons_succ]))
          (refine wpAnyH_take (i := 5) (v := ?_) rfl (by kernel_rfl) (by kernel_rfl) (by kernel_rfl) (fun _ _ _ h => h) (Or.inl ⟨by rfl, ?_⟩) (by assumption) ?_; rotate_left; (focus (intro w hSw; (try dsimp only at hSw); go_simp; (try with_reducible rfl); done)); (try simp only [List.getElem_toArray, List.getElem_cons_succ, List.getElem_cons_zero, Act.put, List.setIfInBounds_toArray, List.set_cons_zero, List.set_cons_succ]))
          obtain ⟨bb, hbb, hbt⟩ : ∃ bb, (∀ g, (Value.slice p' (m + k) cap').ownBlock = some g → g = bb) ∧ r ≠ bb ∧ b ≠ bb := by
            cases ho : (Value.slice p' (m + k) cap').ownBlock with
            | none => exact ⟨wc.heap.size, (fun g h => by cases h), by omega, by omega⟩
            | some g =>
              have h1 := HOB.out g ho
              have h2 := HOVR.out g ho
              exact ⟨g, (fun g' h => by cases h; rfl), by omega, by omega⟩
          have HBB := Lib.hid hbb
          clear hbb
          refine wpAnyH_ready (rs := [4, 6]) (by kernel_rfl) (by simp) ?_; refine (AllReadyH.cons rfl (fun K hK => ?_) (AllReadyH.cons rfl (fun K hK => ?_) AllReadyH.nil))
          · (go_simp; (refine hK.out _ _ ?_ (fun hHeld2 => ?_); (focus (refine ⟨?_, ?_, ?_, ?_, ?_, ?_⟩ <;> first | (with_reducible assumption) | (go_simp; done) | omega | (simp; done) | (simp; omega))); clear hK K; have hHeld := hHeld2; clear hHeld2; (try simp only [List.getElem_toArray, List.getElem_cons_succ, List.getElem_cons_zero, Act.put, List.setIfInBounds_toArray, List.set_cons_zero, List.set_cons_succ])))
            (refine wpAnyH_ready (rs := [6]) (by kernel_rfl) (by simp) ?_; refine (AllReadyH.cons rfl (fun K hK => ?_) AllReadyH.nil))
            (go_simp; (refine hK.out _ _ ?_ (fun hHeld2 => ?_); (focus (refine ⟨?_, ?_, ?_, ?_, ?_, ?_⟩ <;> first | (with_reducible assumption) | (go_simp; done) | omega | (simp; done) | (simp; omega))); clear hK K; have hHeld := hHeld2; clear hHeld2; (try simp only [List.getElem_toArray, List.getElem_cons_succ, List.getElem_cons_zero, Act.put, List.setIfInBounds_toArray, List.set_cons_zero, List.set_cons_succ])))
            (refine wpAnyH_ready (rs := [7]) (by kernel_rfl) (by simp) ?_; refine (AllReadyH.cons rfl (fun K hK => ?_) AllReadyH.nil))
            ((refine step_row_lies _ rfl (.tmp 100) (.tmp 102) 55 rfl base 33 i0 _ 5 40 Try.underlying55 hi0 hz0 hz1 hz2 rfl (by decide) (.slice p' (m + k) cap') (m + k) (xs ++ asub E P a off i k) (by first | rfl | simp [Act.eval, Act.put]) ?_ ⟨wc.heap.size, 0, none⟩ 1 1 [.int .i64 (i + k), .int .i64 (R + O2), .int .i64 (D + O2), .int .i64 B, .int .i64 G2] (by first | rfl | simp [Act.eval, Act.put]) (by rfl) ?_ ?_ (by omega) ?_ ?_ ?_ ?_; (focus (first | exact (HO3.out.drew.alloc _) | exact (HO3.out.alloc _) | exact (HO3.out.alloc _).drew)); (focus (intro j u hj; match j, hj with | 0, hj => simp at hj; subst hj; simp [Addr.add] | 1, hj => simp at hj; subst hj; simp [Addr.add] | 2, hj => simp at hj; subst hj; simp [Addr.add] | 3, hj => simp at hj; subst hj; simp [Addr.add] | 4, hj => simp at hj; subst hj; simp [Addr.add] | j + 5, hj => simp at hj)); (focus (intro u hu; simp at hu; rcases hu with rfl | rfl | rfl | rfl | rfl <;> rfl)); (focus (unfold maxLen; omega)); (focus (omega)); (focus (simp; omega)); intro g goff capn w8 hown8 hgrow8 hlies8 hlt8; have hO8 := grown_only hgrow8 bb HBB.out; have HT8 := Lib.hid ((HT3.out.keepb (by repeat' (first | (with_reducible exact Below.refl _ _) | (with_reducible refine Below.alloc ?_ ?_ _) | (with_reducible refine below_drewN ?_ _) | (with_reducible refine Below.drew ?_) | (with_reducible refine Below.setCell ?_ ?_ _) | omega | (simp; omega) | (simp; done)))).keep hO8 hbt.1); have c68 : w8.cell? ⟨r, 6, none⟩ = some (.slice p' (m + k) cap') := HT8.out.2.2.2.2.2.2.1; have f68 : ∀ o, w8.frozen? ⟨r, o, none⟩ = false := HT8.out.2.2.2.2.2.2.2.2.2.2.2.2.2.1; have r8 : r < w8.heap.size := rc_size HT8.out; have b8 : b < w8.heap.size := (by have := hO8.size; simp at this; omega); have d0 : w8.cell? ⟨b, 0, none⟩ = _ := (hO8.cell (p := ⟨b, 0, none⟩) (by first | (simp; done) | (simp; omega)) hbt.2).trans (by go_simp; exact rfl); have d1 : w8.cell? ⟨b, 1, none⟩ = _ := (hO8.cell (p := ⟨b, 1, none⟩) (by first | (simp; done) | (simp; omega)) hbt.2).trans (by go_simp; exact rfl); have d2 : w8.cell? ⟨b, 2, none⟩ = _ := (hO8.cell (p := ⟨b, 2, none⟩) (by first | (simp; done) | (simp; omega)) hbt.2).trans (by go_simp; exact rfl); have d3 : w8.cell? ⟨b, 3, none⟩ = _ := (hO8.cell (p := ⟨b, 3, none⟩) (by first | (simp; done) | (simp; omega)) hbt.2).trans (by go_simp; exact rfl); have d4 : w8.cell? ⟨b, 4, none⟩ = _ := (hO8.cell (p := ⟨b, 4, none⟩) (by first | (simp; done) | (simp; omega)) hbt.2).trans (by go_simp; exact rfl); have HOW8 := Lib.hid hown8; have HG8 := Lib.hid hgrow8; have HL8 := Lib.hid hlies8; clear hown8 hgrow8 hlies8); (refine hK.out _ _ ?_ (fun hHeld2 => ?_); (focus (refine ⟨?_, ?_, ?_, ?_, ?_, ?_⟩ <;> first | (with_reducible assumption) | (go_simp; done) | omega | (simp; done) | (simp; omega))); clear hK K; have hHeld := hHeld2; clear hHeld2; (try simp only [List.getElem_toArray, List.getElem_cons_succ, List.getElem_cons_zero, Act.put, List.setIfInBounds_toArray, List.set_cons_zero, List.set_cons_succ])))
            (refine wpAnyH_take (i := 8) (v := ?_) rfl (by kernel_rfl) (by kernel_rfl) (by kernel_rfl) (fun _ _ _ h => h) (Or.inl ⟨by rfl, ?_⟩) (by assumption) ?_; rotate_left; (focus (intro w hSw; (try dsimp only at hSw); go_simp; (try with_reducible rfl); done)); (try simp only [List.getElem_toArray, List.getElem_cons_succ, List.getElem_cons_zero, Act.put, List.setIfInBounds_toArray, List.set_cons_zero, List.set_cons_succ]))
            (refine wpAnyH_take (i := 9) (v := ?_) rfl (by kernel_rfl) (by kernel_rfl) (by kernel_rfl) (fun _ _ _ h => h) (Or.inl ⟨by rfl, ?_⟩) (by assumption) ?_; rotate_left; (focus (intro w hSw; (try dsimp only at hSw); go_simp; (try with_reducible rfl); done)); (try simp only [List.getElem_toArray, List.getElem_cons_succ, List.getElem_cons_zero, Act.put, List.setIfInBounds_toArray, List.set_cons_zero, List.set_cons_succ]))
            (refine wpAnyH_ready (rs := [10]) (by kernel_rfl) (by simp) ?_; refine (AllReadyH.cons rfl (fun K hK => ?_) AllReadyH.nil))
            (go_simp; (refine hK.out _ _ ?_ (fun hHeld2 => ?_); (focus (refine ⟨?_, ?_, ?_, ?_, ?_, ?_⟩ <;> first | (with_reducible assumption) | (go_simp; done) | omega | (simp; done) | (simp; omega))); clear hK K; have hHeld := hHeld2; clear hHeld2; (try simp only [List.getElem_toArray, List.getElem_cons_succ, List.getElem_cons_zero, Act.put, List.setIfInBounds_toArray, List.set_cons_zero, List.set_cons_succ])))
            refine wpAnyH_done (by kernel_rfl) ?_ _
            have hs8 := hO8.size
            have hgt : g ≠ r ∧ (g < w.heap.size → (Value.slice p m cap).ownBlock = some g) := by
              rcases HL8.out with h | h
              · exact HOB.out g h
              · simp at h
                exact ⟨by omega, fun h' => by omega⟩
            have HK8 : Keeps (fun k => k = r ∨ (Value.slice p m cap).ownBlock = some k) w w8 := (HK3.out.below (by repeat' (first | (with_reducible exact Below.refl _ _) | (with_reducible refine Below.alloc ?_ ?_ _) | (with_reducible refine below_drewN ?_ _) | (with_reducible refine Below.drew ?_) | (with_reducible refine Below.setCell ?_ ?_ _) | omega | (simp; omega) | (simp; done)))).grown HG8.out (fun k' hk' hlt => .inr ((HOB.out k' hk').2 hlt))
            go_wp2
            go_roundw
            case rel =>
              first
                | exact ⟨k + 1, some ⟨g, goff, none⟩, capn, by go_num, by omega, by rw [hk1.out, HO2E.out]; exact HT8.out.rows _, by rw [hA2.out, ← List.append_assoc]; exact row_only HOW8.out (only_set _ _ _ _) (fun g' h => by cases h; exact hgt.1), (fun g' h => by cases h; exact hgt), HK8.setCell (fun _ => .inl rfl) _⟩
                | ((repeat apply Exists.intro); exact ⟨⟨k + 1, some ⟨g, goff, none⟩, capn, by go_num, by omega, by rw [hk1.out, HO2E.out]; exact HT8.out.rows _, by rw [hA2.out, ← List.append_assoc]; exact row_only HOW8.out (only_set _ _ _ _) (fun g' h => by cases h; exact hgt.1), (fun g' h => by cases h; exact hgt), HK8.setCell (fun _ => .inl rfl) _⟩, rfl⟩)
            case measure => simp [intOf]; omega
          · (go_simp; (refine hK.out _ _ ?_ (fun hHeld2 => ?_); (focus (refine ⟨?_, ?_, ?_, ?_, ?_, ?_⟩ <;> first | (with_reducible assumption) | (go_simp; done) | omega | (simp; done) | (simp; omega))); clear hK K; have hHeld := hHeld2; clear hHeld2; (try simp only [List.getElem_toArray, List.getElem_cons_succ, List.getElem_cons_zero, Act.put, List.setIfInBounds_toArray, List.set_cons_zero, List.set_cons_succ])))
            (refine wpAnyH_ready (rs := [4]) (by kernel_rfl) (by simp) ?_; refine (AllReadyH.cons rfl (fun K hK => ?_) AllReadyH.nil))
            (go_simp; (refine hK.out _ _ ?_ (fun hHeld2 => ?_); (focus (refine ⟨?_, ?_, ?_, ?_, ?_, ?_⟩ <;> first | (with_reducible assumption) | (go_simp; done) | omega | (simp; done) | (simp; omega))); clear hK K; have hHeld := hHeld2; clear hHeld2; (try simp only [List.getElem_toArray, List.getElem_cons_succ, List.getElem_cons_zero, Act.put, List.setIfInBounds_toArray, List.set_cons_zero, List.set_cons_succ])))
            (refine wpAnyH_ready (rs := [7]) (by kernel_rfl) (by simp) ?_; refine (AllReadyH.cons rfl (fun K hK => ?_) AllReadyH.nil))
            ((refine step_row_lies _ rfl (.tmp 100) (.tmp 102) 55 rfl base 33 i0 _ 5 40 Try.underlying55 hi0 hz0 hz1 hz2 rfl (by decide) (.slice p' (m + k) cap') (m + k) (xs ++ asub E P a off i k) (by first | rfl | simp [Act.eval, Act.put]) ?_ ⟨wc.heap.size, 0, none⟩ 1 1 [.int .i64 (i + k), .int .i64 (R + O2), .int .i64 (D + O2), .int .i64 B, .int .i64 G2] (by first | rfl | simp [Act.eval, Act.put]) (by rfl) ?_ ?_ (by omega) ?_ ?_ ?_ ?_; (focus (first | exact (HO3.out.drew.alloc _) | exact (HO3.out.alloc _) | exact (HO3.out.alloc _).drew)); (focus (intro j u hj; match j, hj with | 0, hj => simp at hj; subst hj; simp [Addr.add] | 1, hj => simp at hj; subst hj; simp [Addr.add] | 2, hj => simp at hj; subst hj; simp [Addr.add] | 3, hj => simp at hj; subst hj; simp [Addr.add] | 4, hj => simp at hj; subst hj; simp [Addr.add] | j + 5, hj => simp at hj)); (focus (intro u hu; simp at hu; rcases hu with rfl | rfl | rfl | rfl | rfl <;> rfl)); (focus (unfold maxLen; omega)); (focus (omega)); (focus (simp; omega)); intro g goff capn w8 hown8 hgrow8 hlies8 hlt8; have hO8 := grown_only hgrow8 bb HBB.out; have HT8 := Lib.hid ((HT3.out.keepb (by repeat' (first | (with_reducible exact Below.refl _ _) | (with_reducible refine Below.alloc ?_ ?_ _) | (with_reducible refine below_drewN ?_ _) | (with_reducible refine Below.drew ?_) | (with_reducible refine Below.setCell ?_ ?_ _) | omega | (simp; omega) | (simp; done)))).keep hO8 hbt.1); have c68 : w8.cell? ⟨r, 6, none⟩ = some (.slice p' (m + k) cap') := HT8.out.2.2.2.2.2.2.1; have f68 : ∀ o, w8.frozen? ⟨r, o, none⟩ = false := HT8.out.2.2.2.2.2.2.2.2.2.2.2.2.2.1; have r8 : r < w8.heap.size := rc_size HT8.out; have b8 : b < w8.heap.size := (by have := hO8.size; simp at this; omega); have d0 : w8.cell? ⟨b, 0, none⟩ = _ := (hO8.cell (p := ⟨b, 0, none⟩) (by first | (simp; done) | (simp; omega)) hbt.2).trans (by go_simp; exact rfl); have d1 : w8.cell? ⟨b, 1, none⟩ = _ := (hO8.cell (p := ⟨b, 1, none⟩) (by first | (simp; done) | (simp; omega)) hbt.2).trans (by go_simp; exact rfl); have d2 : w8.cell? ⟨b, 2, none⟩ = _ := (hO8.cell (p := ⟨b, 2, none⟩) (by first | (simp; done) | (simp; omega)) hbt.2).trans (by go_simp; exact rfl); have d3 : w8.cell? ⟨b, 3, none⟩ = _ := (hO8.cell (p := ⟨b, 3, none⟩) (by first | (simp; done) | (simp; omega)) hbt.2).trans (by go_simp; exact rfl); have d4 : w8.cell? ⟨b, 4, none⟩ = _ := (hO8.cell (p := ⟨b, 4, none⟩) (by first | (simp; done) | (simp; omega)) hbt.2).trans (by go_simp; exact rfl); have HOW8 := Lib.hid hown8; have HG8 := Lib.hid hgrow8; have HL8 := Lib.hid hlies8; clear hown8 hgrow8 hlies8); (refine hK.out _ _ ?_ (fun hHeld2 => ?_); (focus (refine ⟨?_, ?_, ?_, ?_, ?_, ?_⟩ <;> first | (with_reducible assumption) | (go_simp; done) | omega | (simp; done) | (simp; omega))); clear hK K; have hHeld := hHeld2; clear hHeld2; (try simp only [List.getElem_toArray, List.getElem_cons_succ, List.getElem_cons_zero, Act.put, List.setIfInBounds_toArray, List.set_cons_zero, List.set_cons_succ])))
            (refine wpAnyH_take (i := 8) (v := ?_) rfl (by kernel_rfl) (by kernel_rfl) (by kernel_rfl) (fun _ _ _ h => h) (Or.inl ⟨by rfl, ?_⟩) (by assumption) ?_; rotate_left; (focus (intro w hSw; (try dsimp only at hSw); go_simp; (try with_reducible rfl); done)); (try simp only [List.getElem_toArray, List.getElem_cons_succ, List.getElem_cons_zero, Act.put, List.setIfInBounds_toArray, List.set_cons_zero, List.set_cons_succ]))
            (refine wpAnyH_take (i := 9) (v := ?_) rfl (by kernel_rfl) (by kernel_rfl) (by kernel_rfl) (fun _ _ _ h => h) (Or.inl ⟨by rfl, ?_⟩) (by assumption) ?_; rotate_left; (focus (intro w hSw; (try dsimp only at hSw); go_simp; (try with_reducible rfl); done)); (try simp only [List.getElem_toArray, List.getElem_cons_succ, List.getElem_cons_zero, Act.put, List.setIfInBounds_toArray, List.set_cons_zero, List.set_cons_succ]))
            (refine wpAnyH_ready (rs := [10]) (by kernel_rfl) (by simp) ?_; refine (AllReadyH.cons rfl (fun K hK => ?_) AllReadyH.nil))
            (go_simp; (refine hK.out _ _ ?_ (fun hHeld2 => ?_); (focus (refine ⟨?_, ?_, ?_, ?_, ?_, ?_⟩ <;> first | (with_reducible assumption) | (go_simp; done) | omega | (simp; done) | (simp; omega))); clear hK K; have hHeld := hHeld2; clear hHeld2; (try simp only [List.getElem_toArray, List.getElem_cons_succ, List.getElem_cons_zero, Act.put, List.setIfInBounds_toArray, List.set_cons_zero, List.set_cons_succ])))
            refine wpAnyH_done (by kernel_rfl) ?_ _
            have hs8 := hO8.size
            have hgt : g ≠ r ∧ (g < w.heap.size → (Value.slice p m cap).ownBlock = some g) := by
              rcases HL8.out with h | h
              · exact HOB.out g h
              · simp at h
                exact ⟨by omega, fun h' => by omega⟩
            have HK8 : Keeps (fun k => k = r ∨ (Value.slice p m cap).ownBlock = some k) w w8 := (HK3.out.below (by repeat' (first | (with_reducible exact Below.refl _ _) | (with_reducible refine Below.alloc ?_ ?_ _) | (with_reducible refine below_drewN ?_ _) | (with_reducible refine Below.drew ?_) | (with_reducible refine Below.setCell ?_ ?_ _) | omega | (simp; omega) | (simp; done)))).grown HG8.out (fun k' hk' hlt => .inr ((HOB.out k' hk').2 hlt))
            go_wp2
            go_roundw
            case rel =>
              first
                | exact ⟨k + 1, some ⟨g, goff, none⟩, capn, by go_num, by omega, by rw [hk1.out, HO2E.out]; exact HT8.out.rows _, by rw [hA2.out, ← List.append_assoc]; exact row_only HOW8.out (only_set _ _ _ _) (fun g' h => by cases h; exact hgt.1), (fun g' h => by cases h; exact hgt), HK8.setCell (fun _ => .inl rfl) _⟩
                | ((repeat apply Exists.intro); exact ⟨⟨k + 1, some ⟨g, goff, none⟩, capn, by go_num, by omega, by rw [hk1.out, HO2E.out]; exact HT8.out.rows _, by rw [hA2.out, ← List.append_assoc]; exact row_only HOW8.out (only_set _ _ _ _) (fun g' h => by cases h; exact hgt.1), (fun g' h => by cases h; exact hgt), HK8.setCell (fun _ => .inl rfl) _⟩, rfl⟩)
            case measure => simp [intOf]; omega
    · obtain rfl : k = n := by omega
      go_wp2
      go_ret
      exact ⟨rfl, ⟨p', cap', HT.out, HO.out, HOB.out⟩, HK.out⟩
end Go.Proofs.Ytkmgkggkdmlkeaa
