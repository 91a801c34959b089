/- The walk of the law ExactRow. -/
import Derived.Test.YtpmenmcigflkdaaExRowP
namespace Go.Proofs.Ytpmenmcigflkdaa
open Go.RowKit
set_option linter.unusedVariables false
set_option linter.unusedSimpArgs false

set_option maxHeartbeats 6400000 in
theorem walk_ExactRow (a0 : Option Addr) (len0 cap0 : Nat) (z0 : List Int) (w : World) (f0 : IsRow .i64 w a0 len0 cap0 z0) :
    Calls Try.prog 6 #[.slice a0 len0 cap0] w fun e w' => e = .returned (.bool true) ∧ Below w.heap.size w w' := by
  obtain ⟨n, hn, hnl, hn8, hnn⟩ : ∃ n, n = min len0 8 ∧ n ≤ len0 ∧ n ≤ 8 ∧ ∀ k, k < len0 → k < 8 → k < n := ⟨_, rfl, by omega, by omega, by omega⟩
  have hmx : len0 ≤ 9223372036854775807 := by
    have : maxLen ≤ 9223372036854775807 := by decide
    rcases f0 with ⟨_, h, _⟩ | ⟨x, _, h1, h2, _⟩ <;> omega
  have HX : Hid (∀ k, k < len0 → ∃ x, a0 = some x ∧ x.block < w.heap.size ∧ w.cell? (x.add k) = some (.int .i64 (z0.getD k 0))) := by
    intro k hk
    rcases f0 with ⟨_, h, _⟩ | ⟨x, h0, h1, h2, h3, h4, h5, h6⟩
    · omega
    · exact ⟨x, h0, h6 (by omega), h4 k (by omega)⟩
  obtain ⟨i0, hi, hz0, hz1, hz2⟩ := info_parts info2
  have H0 := Lib.hid awake01
  clear f0 hn
  go_enter Try.func6, Try.ntmps6
  go_wp2_with (first
    | (go_at_call 15; (with_reducible refine (H0.out _).mono ?_); rintro e w1 ⟨rfl, hb1⟩; have s_w1 := hb1.size; (try simp only [World.size_alloc, World.size_setCell, World.size_drew, sz_drewN] at s_w1)))
  go_loopw [4, 5] (fun v s5 wr => ∃ k : Nat, s5 = .int .i64 k ∧ k ≤ n ∧ wr.ownsRow w.heap.size 2 1 v k ((rowR z0 k).map (Value.int .i64)) ∧ Below w.heap.size w wr) (fun _ s5 _ => len0 - (intOf s5).toNat)
  case atStart => exact ⟨0, rfl, by omega, World.ownsRow_nil _ _ _ _, hb1⟩
  case round =>
    obtain ⟨k, rfl, hk, hown, hB⟩ := hrel
    by_cases hlt : k < n
    · obtain ⟨x, rfl, hxb, hcx⟩ := HX.out k (by omega)
      have hcell : wr.cell? (x.add k) = some (.int .i64 (z0.getD k 0)) := (hB.cell (p := x.add k) (by rw [add_block]; exact hxb)).trans hcx
      have hbd := rowE_bd z0 k
      have hE : 1 + bits .and .i64 (z0.getD k 0) 1048575 = rowE z0 k := rfl
      rw [List.getD_eq_getElem?_getD] at hcell hE
      have kl : (k : Int) < (len0 : Int) := by omega
      have k8 : (k : Int) < 8 := by omega
      have k0 : (0 : Int) ≤ (k : Int) := by omega
      go_wp2_with (first
        | (at_builtin; refine wpList_append_own _ rfl _ _ 22 rfl w.heap.size 2 i0 (.int .i64 0) 1 8 Try.underlying22 hi hz0 hz1 hz2 rfl (by decide) _ _ _ rfl (hown.alloc _) ⟨wr.heap.size, 0, none⟩ 1 1 [.int .i64 (rowE z0 k)] rfl rfl ?c1 ?c2 ?c3 ?c4 ?c5 ?_))
      case c1 =>
        intro j u hj
        match j, hj with
        | 0, hj => simp at hj; subst hj; simp [Addr.add]
      case c2 => intro u hu; simp at hu; subst hu; rfl
      case c3 => unfold maxLen; omega
      case c4 => omega
      case c5 => have := hB.size; simp; omega
      · intro v' w2 hown' hgrow _
        obtain ⟨r1, r2⟩ := row_rel (by have := hB.size; omega) hown hB hown' hgrow
        clear hown' hgrow hown hcell hE
        go_wp2
        go_roundw
        case rel => exact ⟨k + 1, by go_num, by omega, r1, r2⟩
        case measure => (simp [intOf] <;> omega)
    · have hke : k = n := by omega
      subst hke
      have hend : len0 ≤ k ∨ (k = 8 ∧ k < len0) := by
        by_cases h1 : k < len0
        · by_cases h2 : k < 8
          · exact absurd (hnn k h1 h2) hlt
          · omega
        · omega
      clear hnn hlt
      obtain ⟨w9, rfl⟩ : ∃ x, x = wr := ⟨wr, rfl⟩
      rcases own_cells hown with ⟨rfl, rfl⟩ | ⟨g, cap, rfl, _, hg, hcap, hcm, hcells⟩
      · clear hown
        rcases hend with hend | ⟨hend, _⟩
        · have kl : ¬ (0 : Int) < (len0 : Int) := by omega
          obtain rfl : len0 = 0 := by omega
          go_wp2
          go_loopw [6, 7, 8] (fun s6 s7 s8 wr => ∃ (i : Nat) (a : Int) (o : Bool), s6 = .int .i64 a ∧ s7 = .bool o ∧ s8 = .int .i64 i ∧ i ≤ 0 + 1 ∧ Hid (rowSt z0 i a o) ∧ Below w9.heap.size w9 wr) (fun _ _ s8 _ => 0 + 1 - (intOf s8).toNat)
          case atStart => exact ⟨0, 1, false, rfl, rfl, rfl, by omega, .inl ⟨rfl, rfl, rfl⟩, Below.refl _ _⟩
          case round =>
            obtain ⟨i, a, o, rfl, rfl, rfl, hi1, hst, hbx⟩ := hrel
            by_cases hik : i ≤ 0
            · have ix : (i : Int) ≤ ((0 : Nat) : Int) := by omega
              rcases rowSt_step hst.out with ⟨rfl, rfl, rfl, hl⟩ | ⟨j, rfl, _⟩ | ⟨j, rfl, _⟩ | ⟨j, _, rfl, _⟩
              · have hnext : Hid (rowSt z0 1 1 false) := rowSt_ok hl (by omega) (by omega)
                clear hst
                go_wp2_with (first
                  | (go_at_call 22; (with_reducible refine (lcm_empty _ _ _).mono ?_); rintro e w4 ⟨rfl, hb4⟩))
                go_roundw
                case rel => exact ⟨1, 1, false, rfl, rfl, by go_num, by omega, hnext, hbx.trans (hb4.mono hbx.size)⟩
                case measure => (simp [intOf] <;> omega)
              · omega
              · omega
              · omega
            · have ix : ¬ (i : Int) ≤ ((0 : Nat) : Int) := by omega
              go_wp2
              go_ret
              exact ⟨rfl, bel_call hB hB.size hbx⟩
        · omega
      · have hcells := Lib.hid hcells
        clear hown
        rcases hend with hend | ⟨hend, hend2⟩
        · have kl : ¬ (k : Int) < (len0 : Int) := by omega
          go_wp2
          go_loopw [6, 7, 8] (fun s6 s7 s8 wr => ∃ (i : Nat) (a : Int) (o : Bool), s6 = .int .i64 a ∧ s7 = .bool o ∧ s8 = .int .i64 i ∧ i ≤ k + 1 ∧ Hid (rowSt z0 i a o) ∧ Below w9.heap.size w9 wr) (fun _ _ s8 _ => k + 1 - (intOf s8).toNat)
          case atStart => exact ⟨0, 1, false, rfl, rfl, rfl, by omega, .inl ⟨rfl, rfl, rfl⟩, Below.refl _ _⟩
          case round =>
            obtain ⟨i, a, o, rfl, rfl, rfl, hi1, hst, hbx⟩ := hrel
            by_cases hik : i ≤ k
            · have ix : (i : Int) ≤ (k : Int) := by omega
              have KL : Hid (∀ wy, Below w9.heap.size w9 wy → Calls Try.prog 22 #[.slice (some ⟨g, 0, none⟩) i cap] wy fun e w' => e = .returned (.tuple #[.int .i64 (lcmS 1 (rowR z0 i)).1, .int .i64 (lcmS 1 (rowR z0 i)).2]) ∧ Below wy.heap.size wy w') := by
                intro wy hy
                exact lcm_any g 0 i cap (rowR z0 i) wy (Nat.lt_of_lt_of_le hg hy.size) (rowR_len _ _) (by omega) (fun j hj => by rw [rowR_get _ _ _ hj]; exact (hy.cell (p := ⟨g, 0 + j, none⟩) hg).trans (by have := hcells.out j (by omega); rwa [rowR_get _ _ _ (by omega)] at this)) (fun j hj => by rw [rowR_get _ _ _ hj]; have := rowE_bd z0 j; unfold Fits; omega)
              have KT : Hid (∀ (j : Nat) b wy, 1 ≤ a → a ≤ 9223372036854775807 → b < wy.heap.size → wy.cell? ⟨b, 0, none⟩ = some (.int .i64 a) → wy.cell? ⟨b, 1, none⟩ = some (.int .i64 (rowE z0 j)) → Calls Try.prog 22 #[.slice (some ⟨b, 0, none⟩) 2 2] wy fun e w' => e = .returned (.tuple #[.int .i64 (lcmS 1 [a, rowE z0 j]).1, .int .i64 (lcmS 1 [a, rowE z0 j]).2]) ∧ Below wy.heap.size wy w') := by
                intro j b wy h1 h2 hb c0 c1
                have := rowE_bd z0 j
                exact lcm_any b 0 2 2 [a, rowE z0 j] wy hb rfl (by omega) (fun i hi => by match i, hi with | 0, _ => simpa using c0 | 1, _ => simpa using c1) (fun i hi => by match i, hi with | 0, _ => (show Fits a; unfold Fits; omega) | 1, _ => (show Fits (rowE z0 j); unfold Fits; omega))
              have ic : (i : Int) ≤ (cap : Int) := by omega
              have i0' : (0 : Int) ≤ (i : Int) := by omega
              rcases rowSt_step hst.out with ⟨rfl, rfl, rfl, hl⟩ | ⟨j, rfl, rfl, hl⟩ | ⟨j, rfl, rfl, a1, a2, ht, hl⟩ | ⟨j, r, rfl, rfl, a1, a2, ht, hl, r1, r2⟩
              · have hnext : Hid (rowSt z0 1 1 false) := rowSt_ok hl (by omega) (by omega)
                rw [hl] at KL
                clear hst hl KT
                go_wp2_with (first
                  | (go_at_call 22; refine (KL.out _ (by assumption)).mono ?_; rintro e w4 ⟨rfl, hb4⟩))
                go_roundw
                case rel => exact ⟨1, 1, false, rfl, rfl, by go_num, by omega, hnext, hbx.trans (hb4.mono hbx.size)⟩
                case measure => (simp [intOf] <;> omega)
              · have hnext : Hid (rowSt z0 (j + 1 + 1) 0 true) := rowSt_over hl
                rw [hl] at KL
                clear hst hl KT
                go_wp2_with (first
                  | (go_at_call 22; refine (KL.out _ (by assumption)).mono ?_; rintro e w4 ⟨rfl, hb4⟩))
                go_roundw
                case rel => exact ⟨j + 1 + 1, 0, true, rfl, rfl, by go_num, by omega, hnext, hbx.trans (hb4.mono hbx.size)⟩
                case measure => (simp [intOf] <;> omega)
              · have hnext : Hid (rowSt z0 (j + 1 + 1) 0 true) := rowSt_over hl
                have KT' := KT.out j
                rw [ht] at KT'
                have HT := Lib.hid KT'
                have hcj := hcells.out j (by omega)
                rw [rowR_get _ _ _ (by omega)] at hcj
                have hcx : wr.cell? ⟨g, j, none⟩ = some (.int .i64 (rowE z0 j)) := by have := (hbx.cell (p := ⟨g, 0 + j, none⟩) hg).trans hcj; simpa using this
                rw [hl] at KL
                clear hst hl KT KT' ht hcj
                go_wp2_with (first
                  | (go_at_call 22; (first | ((with_reducible refine (KL.out _ (by assumption)).mono ?_); rintro e w4 ⟨rfl, hb4⟩; have hcx4 : w4.cell? ⟨g, j, none⟩ = some (.int .i64 (rowE z0 j)) := (hb4.cell (p := ⟨g, j, none⟩) (by have := hbx.size; show g < _; omega)).trans hcx) | (refine (HT.out _ _ a1 a2 (by simp) (by go_simp) (by go_simp)).mono ?_; rintro e w5 ⟨rfl, hb5⟩))))
                go_roundw
                case rel => exact ⟨j + 1 + 1, 0, true, rfl, rfl, by go_num, by omega, hnext, bel_call (w := w4) (hbx.trans (hb4.mono hbx.size)) (by have := hbx.size; have := hb4.size; omega) ((Below.alloc (Below.refl _ _) (by omega) _).trans (hb5.mono (by simp)))⟩
                case measure => (simp [intOf] <;> omega)
              · have hnext : Hid (rowSt z0 (j + 1 + 1) r false) := rowSt_ok hl r1 r2
                have KT' := KT.out j
                rw [ht] at KT'
                have HT := Lib.hid KT'
                have hcj := hcells.out j (by omega)
                rw [rowR_get _ _ _ (by omega)] at hcj
                have hcx : wr.cell? ⟨g, j, none⟩ = some (.int .i64 (rowE z0 j)) := by have := (hbx.cell (p := ⟨g, 0 + j, none⟩) hg).trans hcj; simpa using this
                rw [hl] at KL
                clear hst hl KT KT' ht hcj
                go_wp2_with (first
                  | (go_at_call 22; (first | ((with_reducible refine (KL.out _ (by assumption)).mono ?_); rintro e w4 ⟨rfl, hb4⟩; have hcx4 : w4.cell? ⟨g, j, none⟩ = some (.int .i64 (rowE z0 j)) := (hb4.cell (p := ⟨g, j, none⟩) (by have := hbx.size; show g < _; omega)).trans hcx) | (refine (HT.out _ _ a1 a2 (by simp) (by go_simp) (by go_simp)).mono ?_; rintro e w5 ⟨rfl, hb5⟩))))
                go_roundw
                case rel => exact ⟨j + 1 + 1, r, false, rfl, rfl, by go_num, by omega, hnext, bel_call (w := w4) (hbx.trans (hb4.mono hbx.size)) (by have := hbx.size; have := hb4.size; omega) ((Below.alloc (Below.refl _ _) (by omega) _).trans (hb5.mono (by simp)))⟩
                case measure => (simp [intOf] <;> omega)
            · have ix : ¬ (i : Int) ≤ (k : Int) := by omega
              go_wp2
              go_ret
              exact ⟨rfl, bel_call hB hB.size hbx⟩
        · have kl : (k : Int) < (len0 : Int) := by omega
          have k8 : ¬ (k : Int) < 8 := by omega
          go_wp2
          go_loopw [6, 7, 8] (fun s6 s7 s8 wr => ∃ (i : Nat) (a : Int) (o : Bool), s6 = .int .i64 a ∧ s7 = .bool o ∧ s8 = .int .i64 i ∧ i ≤ k + 1 ∧ Hid (rowSt z0 i a o) ∧ Below w9.heap.size w9 wr) (fun _ _ s8 _ => k + 1 - (intOf s8).toNat)
          case atStart => exact ⟨0, 1, false, rfl, rfl, rfl, by omega, .inl ⟨rfl, rfl, rfl⟩, Below.refl _ _⟩
          case round =>
            obtain ⟨i, a, o, rfl, rfl, rfl, hi1, hst, hbx⟩ := hrel
            by_cases hik : i ≤ k
            · have ix : (i : Int) ≤ (k : Int) := by omega
              have KL : Hid (∀ wy, Below w9.heap.size w9 wy → Calls Try.prog 22 #[.slice (some ⟨g, 0, none⟩) i cap] wy fun e w' => e = .returned (.tuple #[.int .i64 (lcmS 1 (rowR z0 i)).1, .int .i64 (lcmS 1 (rowR z0 i)).2]) ∧ Below wy.heap.size wy w') := by
                intro wy hy
                exact lcm_any g 0 i cap (rowR z0 i) wy (Nat.lt_of_lt_of_le hg hy.size) (rowR_len _ _) (by omega) (fun j hj => by rw [rowR_get _ _ _ hj]; exact (hy.cell (p := ⟨g, 0 + j, none⟩) hg).trans (by have := hcells.out j (by omega); rwa [rowR_get _ _ _ (by omega)] at this)) (fun j hj => by rw [rowR_get _ _ _ hj]; have := rowE_bd z0 j; unfold Fits; omega)
              have KT : Hid (∀ (j : Nat) b wy, 1 ≤ a → a ≤ 9223372036854775807 → b < wy.heap.size → wy.cell? ⟨b, 0, none⟩ = some (.int .i64 a) → wy.cell? ⟨b, 1, none⟩ = some (.int .i64 (rowE z0 j)) → Calls Try.prog 22 #[.slice (some ⟨b, 0, none⟩) 2 2] wy fun e w' => e = .returned (.tuple #[.int .i64 (lcmS 1 [a, rowE z0 j]).1, .int .i64 (lcmS 1 [a, rowE z0 j]).2]) ∧ Below wy.heap.size wy w') := by
                intro j b wy h1 h2 hb c0 c1
                have := rowE_bd z0 j
                exact lcm_any b 0 2 2 [a, rowE z0 j] wy hb rfl (by omega) (fun i hi => by match i, hi with | 0, _ => simpa using c0 | 1, _ => simpa using c1) (fun i hi => by match i, hi with | 0, _ => (show Fits a; unfold Fits; omega) | 1, _ => (show Fits (rowE z0 j); unfold Fits; omega))
              have ic : (i : Int) ≤ (cap : Int) := by omega
              have i0' : (0 : Int) ≤ (i : Int) := by omega
              rcases rowSt_step hst.out with ⟨rfl, rfl, rfl, hl⟩ | ⟨j, rfl, rfl, hl⟩ | ⟨j, rfl, rfl, a1, a2, ht, hl⟩ | ⟨j, r, rfl, rfl, a1, a2, ht, hl, r1, r2⟩
              · have hnext : Hid (rowSt z0 1 1 false) := rowSt_ok hl (by omega) (by omega)
                rw [hl] at KL
                clear hst hl KT
                go_wp2_with (first
                  | (go_at_call 22; refine (KL.out _ (by assumption)).mono ?_; rintro e w4 ⟨rfl, hb4⟩))
                go_roundw
                case rel => exact ⟨1, 1, false, rfl, rfl, by go_num, by omega, hnext, hbx.trans (hb4.mono hbx.size)⟩
                case measure => (simp [intOf] <;> omega)
              · have hnext : Hid (rowSt z0 (j + 1 + 1) 0 true) := rowSt_over hl
                rw [hl] at KL
                clear hst hl KT
                go_wp2_with (first
                  | (go_at_call 22; refine (KL.out _ (by assumption)).mono ?_; rintro e w4 ⟨rfl, hb4⟩))
                go_roundw
                case rel => exact ⟨j + 1 + 1, 0, true, rfl, rfl, by go_num, by omega, hnext, hbx.trans (hb4.mono hbx.size)⟩
                case measure => (simp [intOf] <;> omega)
              · have hnext : Hid (rowSt z0 (j + 1 + 1) 0 true) := rowSt_over hl
                have KT' := KT.out j
                rw [ht] at KT'
                have HT := Lib.hid KT'
                have hcj := hcells.out j (by omega)
                rw [rowR_get _ _ _ (by omega)] at hcj
                have hcx : wr.cell? ⟨g, j, none⟩ = some (.int .i64 (rowE z0 j)) := by have := (hbx.cell (p := ⟨g, 0 + j, none⟩) hg).trans hcj; simpa using this
                rw [hl] at KL
                clear hst hl KT KT' ht hcj
                go_wp2_with (first
                  | (go_at_call 22; (first | ((with_reducible refine (KL.out _ (by assumption)).mono ?_); rintro e w4 ⟨rfl, hb4⟩; have hcx4 : w4.cell? ⟨g, j, none⟩ = some (.int .i64 (rowE z0 j)) := (hb4.cell (p := ⟨g, j, none⟩) (by have := hbx.size; show g < _; omega)).trans hcx) | (refine (HT.out _ _ a1 a2 (by simp) (by go_simp) (by go_simp)).mono ?_; rintro e w5 ⟨rfl, hb5⟩))))
                go_roundw
                case rel => exact ⟨j + 1 + 1, 0, true, rfl, rfl, by go_num, by omega, hnext, bel_call (w := w4) (hbx.trans (hb4.mono hbx.size)) (by have := hbx.size; have := hb4.size; omega) ((Below.alloc (Below.refl _ _) (by omega) _).trans (hb5.mono (by simp)))⟩
                case measure => (simp [intOf] <;> omega)
              · have hnext : Hid (rowSt z0 (j + 1 + 1) r false) := rowSt_ok hl r1 r2
                have KT' := KT.out j
                rw [ht] at KT'
                have HT := Lib.hid KT'
                have hcj := hcells.out j (by omega)
                rw [rowR_get _ _ _ (by omega)] at hcj
                have hcx : wr.cell? ⟨g, j, none⟩ = some (.int .i64 (rowE z0 j)) := by have := (hbx.cell (p := ⟨g, 0 + j, none⟩) hg).trans hcj; simpa using this
                rw [hl] at KL
                clear hst hl KT KT' ht hcj
                go_wp2_with (first
                  | (go_at_call 22; (first | ((with_reducible refine (KL.out _ (by assumption)).mono ?_); rintro e w4 ⟨rfl, hb4⟩; have hcx4 : w4.cell? ⟨g, j, none⟩ = some (.int .i64 (rowE z0 j)) := (hb4.cell (p := ⟨g, j, none⟩) (by have := hbx.size; show g < _; omega)).trans hcx) | (refine (HT.out _ _ a1 a2 (by simp) (by go_simp) (by go_simp)).mono ?_; rintro e w5 ⟨rfl, hb5⟩))))
                go_roundw
                case rel => exact ⟨j + 1 + 1, r, false, rfl, rfl, by go_num, by omega, hnext, bel_call (w := w4) (hbx.trans (hb4.mono hbx.size)) (by have := hbx.size; have := hb4.size; omega) ((Below.alloc (Below.refl _ _) (by omega) _).trans (hb5.mono (by simp)))⟩
                case measure => (simp [intOf] <;> omega)
            · have ix : ¬ (i : Int) ≤ (k : Int) := by omega
              go_wp2
              go_ret
              exact ⟨rfl, bel_call hB hB.size hbx⟩
end Go.Proofs.Ytpmenmcigflkdaa
