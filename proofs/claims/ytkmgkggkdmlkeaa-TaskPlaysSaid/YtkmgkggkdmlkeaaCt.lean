/- Contract of the task's Cut. -/
import Derived.Test.YtkmgkggkdmlkeaaAf
import Derived.WalkMore
namespace Go.Proofs.Ytkmgkggkdmlkeaa
open Go.RowKit
set_option linter.unusedVariables false
set_option linter.unusedSimpArgs false

theorem TC.cutting {w : World} {t : Nat} {E P : Int} {early cut : Bool} {s : Nat} {v : Value} {r0 r1 r2 r3 r4 done : Int} (h : TC w t E P early cut s v r0 r1 r2 r3 r4 done) : TC (w.setCell ⟨t, 3, none⟩ (.bool true)) t E P early true s v r0 r1 r2 r3 r4 done := by
  obtain ⟨h0, h1, h2, h3, h4, h5, h6, h7, h8, h9, h10, h11, hf, hs⟩ := h
  refine ⟨?_, ?_, ?_, ?_, ?_, ?_, ?_, ?_, ?_, ?_, ?_, ?_, ?_, ?_⟩ <;> first | (go_simp; done) | (intro o; go_simp; done) | (simp; omega)
theorem RowAt.cap_ge {w : World} {base sz len cap : Nat} {p : Option Addr} {xs : List Value} (h : RowAt w base sz (.slice p len cap) len xs) : len ≤ cap := by
  rcases h.2 with ⟨_, h0⟩ | ⟨g, off, c, hv, _, _, hc, _⟩
  · omega
  · injection hv with e1 e2 e3; omega
/-- The first n alone. -/
theorem RowAt.take {w : World} {base sz len cap n : Nat} {p : Option Addr} {xs : List Value} (h : RowAt w base sz (.slice p len cap) len xs) (hn : n ≤ len) : RowAt w base sz (.slice p n n) n (xs.take (n * sz)) := by
  obtain ⟨hl, h⟩ := h
  have hm : n * sz ≤ len * sz := Nat.mul_le_mul_right _ hn
  refine ⟨by rw [List.length_take, hl]; omega, ?_⟩
  rcases h with ⟨hv, h0⟩ | ⟨g, off, c, hv, hb, hg, hc, hx, hs⟩
  · injection hv with e1 e2 e3
    have : n = 0 := by omega
    subst this
    exact .inl ⟨by rw [e1], rfl⟩
  · injection hv with e1 e2 e3
    subst e1 e3
    refine .inr ⟨g, off, n, rfl, hb, hg, Nat.le_refl _, fun j hj => ?_, fun j hj => hs j (Nat.lt_of_lt_of_le hj (Nat.mul_le_mul_right _ (by omega)))⟩
    rw [hx j (by omega), List.getElem?_take_of_lt hj]

set_option maxRecDepth 8000 in
set_option maxHeartbeats 3200000 in
theorem cut_row (t cap len s base : Nat) (p : Option Addr) (E P : Int) (early cut : Bool) (r0 r1 r2 r3 r4 done a : Int) (rels : Nat → Int) (xs : List Value) (w : World) (hT : TC w t E P early cut s (.slice p len cap) r0 r1 r2 r3 r4 done)
    (hR : RowAt w base 5 (.slice p len cap) len xs) (hx : ∀ j, j < len → xs[j * 5 + 1]? = some (.int .i64 (rels j))) (hl : len ≤ 64) (hgt : ∀ g, (Value.slice p len cap).ownBlock = some g → g ≠ t) :
    Calls Try.prog 21 #[.pointer (some ⟨t, 0, none⟩), .int .i64 a] w fun e w' => ∃ n, n ≤ len ∧ (∀ j, j < n → rels j ≤ a) ∧ (n < len → a < rels n) ∧ e = .returned (.int .i64 ((len : Int) - n)) ∧ TC w' t E P early true s (.slice p n n) r0 r1 r2 r3 r4 done ∧ Only t w w' := by
  have HT := Lib.hid hT
  have HR := Lib.hid hR
  have HX := Lib.hid hx
  have HG := Lib.hid hgt
  have tsz := tc_size hT
  have c3 := hT.2.2.2.1
  have f3 := hT.2.2.2.2.2.2.2.2.2.2.2.2.1
  clear hT hR hx hgt
  go_enter Try.func21, Try.ntmps21
  go_wp2
  go_step3
  go_upto_region 4 with fail
  refine gen_world (F := fun V => TC V t E P early true s (.slice p len cap) r0 r1 r2 r3 r4 done ∧ Only t w V) ⟨HT.out.cutting, (by repeat' (first | (with_reducible exact Only.refl _ _) | (with_reducible refine Only.alloc ?_ _) | (with_reducible refine only_drewN ?_ _) | (with_reducible refine Only.drew ?_) | (with_reducible refine Only.setCell ?_ ?_ _) | (exact Or.inl rfl) | (right; first | omega | (simp; done) | (simp; omega)) | omega | (simp; omega) | (simp; done)))⟩ ?_
  clear HT c3 f3
  rintro V ⟨hT, ho⟩
  have HO := Lib.hid ho
  have hR : RowAt V base 5 (.slice p len cap) len xs := row_only HR.out ho HG.out
  have HR2 := Lib.hid hR
  have HT := Lib.hid hT
  have c5 : V.cell? ⟨t, 5, none⟩ = some (.slice p len cap) := hT.2.2.2.2.2.1
  have f5 := hT.2.2.2.2.2.2.2.2.2.2.2.2.1
  clear hT hR ho HR
  go_wp2
  go_step3
  go_wp2
  go_loopw [5] (fun s5 wr => ∃ (n : Nat), s5 = .int .i64 n ∧ n ≤ len ∧ Hid (∀ j, j < n → rels j ≤ a) ∧ wr = V) (fun s5 _ => 64 - (intOf s5).toNat)
  case atStart => exact ⟨0, rfl, by omega, fun j hj => by omega, rfl⟩
  case round =>
    obtain ⟨n, rfl, hn, hle, rfl⟩ := hrel
    have hstop : (n < len → a < rels n) → ∀ W, W = wr.setCell ⟨t, 5, none⟩ (.slice p n n) → (∃ n', n' ≤ len ∧ (∀ j, j < n' → rels j ≤ a) ∧ (n' < len → a < rels n') ∧ Ending.returned (.int .i64 ((len : Int) - n)) = .returned (.int .i64 ((len : Int) - n')) ∧ TC W t E P early true s (.slice p n' n') r0 r1 r2 r3 r4 done ∧ Only t w W) := by
      intro h W hW
      subst hW
      exact ⟨n, hn, hle.out, h, rfl, HT.out.waits _, HO.out.setCell (.inl rfl) _⟩
    have HSTOP := Lib.hid hstop
    have wln : IntKind.i64.wrap ((len : Int) - n) = (len : Int) - n := IntWalk.i64_in _ (by omega)
    clear hstop
    by_cases hlt : n < len
    · obtain ⟨g, off, rfl, gb, gs, hcap, hcl, hsp⟩ := HR2.out.some (by omega)
      have hcell : wr.cell? ⟨g, off + n * 5 + 1, none⟩ = some (.int .i64 (rels n)) := by
        have := hcl (n * 5 + 1) (by omega)
        rw [← Nat.add_assoc] at this
        exact this.trans (HX.out n hlt)
      have nl : (n : Int) < len := by omega
      have wk : IntKind.i64.wrap ((n : Int) + 1) = (n : Int) + 1 := IntWalk.i64_in _ (by omega)
      clear hcl hsp
      by_cases hr : a < rels n
      · go_wp2
        rw [Exit.noGoto_ret]
        go_ret
        exact HSTOP.out (fun _ => hr) _ rfl
      · go_wp2
        go_roundw
        case rel => exact ⟨n + 1, by go_num, by omega, fun j hj => by
          by_cases e : j = n
          · subst e; omega
          · exact hle.out j (by omega), by first | rfl | trivial⟩
        case measure => (simp [intOf] <;> omega)
    · have nl : ¬ (n : Int) < len := by omega
      have ncap : n ≤ cap := by have := HR2.out.cap_ge; omega
      go_wp2
      (try rw [Exit.noGoto_ret])
      go_ret
      exact HSTOP.out (fun h => absurd h hlt) _ rfl
end Go.Proofs.Ytkmgkggkdmlkeaa
