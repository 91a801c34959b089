/- Contracts of the greatest common part, of the least common number, and the example of chapter 1. -/
import Derived.Test.YtpmenmcigflkdaaExact
namespace Go.Proofs.Ytpmenmcigflkdaa
open Go.RowKit
set_option linter.unusedVariables false
set_option linter.unusedSimpArgs false

set_option maxHeartbeats 800000 in
theorem gcd_yes (a b : Nat) (w : World) (ha : a ≤ 9223372036854775807) (hb : b ≤ 9223372036854775807) :
    Calls Try.prog 20 #[.int .i64 a, .int .i64 b] w fun e w' => e = .returned (.tuple #[.int .i64 (Nat.gcd a b : Nat), .int .i64 0]) ∧ Below w.heap.size w w' := by
  have c1 : ¬ (a : Int) < 0 := by omega
  have c2 : ¬ (b : Int) < 0 := by omega
  go_enter Try.func20, Try.ntmps20
  go_wp2
  go_loopw [0, 1] (fun s t wr => ∃ x y : Nat, s = .int .i64 x ∧ t = .int .i64 y ∧ x ≤ 9223372036854775807 ∧ y ≤ 9223372036854775807 ∧ Hid (Nat.gcd x y = Nat.gcd a b) ∧ Below w.heap.size w wr) (fun _ t _ => (intOf t).toNat)
  case atStart => exact ⟨a, b, rfl, rfl, ha, hb, rfl, Below.refl _ _⟩
  case round =>
    obtain ⟨x, y, rfl, rfl, hx, hy, hg, hB⟩ := hrel
    by_cases h : y = 0
    · subst h
      go_wp2
      go_ret2
      exact ⟨by have := hg.out; rw [Nat.gcd_zero_right] at this; rw [← this]; rfl, hB⟩
    · have h1 : ((y : Int) != 0) = true := by simp; omega
      have h2 : (1 : Int) ≤ (y : Int) := by omega
      have h3 : ¬ (y : Int) = 0 := by omega
      have h4 : (0 : Int) ≤ (x : Int) := by omega
      clear h
      go_wp2
      go_quiet (fail)
      go_wp2
      have hlt : x % y < y := Nat.mod_lt _ (by omega)
      have hle : x % y ≤ x := Nat.mod_le _ _
      have hgg : Hid (Nat.gcd y (x % y) = Nat.gcd a b) := by show _ = _; rw [← hg.out, Nat.gcd_comm y, ← Nat.gcd_rec, Nat.gcd_comm]
      go_roundw
      case rel => exact ⟨y, x % y, rfl, by rw [Int.natCast_emod], hy, by omega, hgg, below_drewN hB _⟩
      case measure => simp [intOf]; omega

/-- The least common number of what was found so far and a row. -/
def lcmS : Nat → List Int → Int × Int
  | m, [] => (m, 0)
  | m, n :: l => if n < 1 then (0, 1) else if m / Nat.gcd m n.toNat * n.toNat ≤ 9223372036854775807 then lcmS (m / Nat.gcd m n.toNat * n.toNat) l else (0, 16)


set_option maxHeartbeats 800000 in
theorem lcm_empty (A : Option Addr) (cap : Nat) (w : World) : Calls Try.prog 22 #[.slice A 0 cap] w fun e w' => e = .returned (.tuple #[.int .i64 1, .int .i64 0]) ∧ Below w.heap.size w w' := by
  go_enter Try.func22, Try.ntmps22
  go_wp2
  go_step3
  go_wp2
  go_step3
  go_wp2
  go_loopw [4, 5, 12] (fun s4 s5 s12 wr => s4 = .int .i64 1 ∧ s5 = .int .i64 0 ∧ s12 = .int .i64 0 ∧ wr = w) (fun _ _ _ _ => 0)
  case atStart => exact ⟨rfl, rfl, rfl, rfl⟩
  case round =>
    obtain ⟨rfl, rfl, rfl, rfl⟩ := hrel
    go_wp2
    try rw [Exit.noGoto_ret]
    go_ret2
    exact ⟨rfl, Below.refl _ _⟩

theorem Fits_nat {n : Nat} (h : n ≤ 9223372036854775807) : Fits (n : Int) := by unfold Fits; omega

set_option maxHeartbeats 3200000 in
theorem lcm_any (b o len cap : Nat) (zs : List Int) (w : World) (hb : b < w.heap.size) (hlen : zs.length = len) (hmax : len ≤ 9223372036854775807) (hc : ∀ i, i < len → w.cell? ⟨b, o + i, none⟩ = some (.int .i64 (zs.getD i 0))) (hf : ∀ i, i < len → Fits (zs.getD i 0)) :
    Calls Try.prog 22 #[.slice (some ⟨b, o, none⟩) len cap] w fun e w' => e = .returned (.tuple #[.int .i64 (lcmS 1 zs).1, .int .i64 (lcmS 1 zs).2]) ∧ Below w.heap.size w w' := by
  have HC := Lib.hid hc
  have HF := Lib.hid hf
  have HL : Hid (zs.length = len) := hlen
  clear hc hf hlen
  go_enter Try.func22, Try.ntmps22
  go_wp2
  go_step3
  go_wp2
  go_step3
  go_wp2
  go_loopw [4, 5, 12] (fun s4 s5 s12 wr => ∃ m k : Nat, s4 = .int .i64 m ∧ s5 = .int .i64 0 ∧ s12 = .int .i64 k ∧ k ≤ len ∧ 1 ≤ m ∧ m ≤ 9223372036854775807 ∧ Hid (lcmS 1 zs = lcmS m (zs.drop k)) ∧ Below w.heap.size w wr) (fun _ _ s12 _ => len - (intOf s12).toNat)
  case atStart => exact ⟨1, 0, rfl, rfl, rfl, by omega, by omega, by omega, rfl, Below.refl _ _⟩
  case round =>
    obtain ⟨m, k, rfl, rfl, rfl, hk, hm1, hm2, hS, hB⟩ := hrel
    by_cases hlt : k < len
    · have hd : zs.drop k = zs.getD k 0 :: zs.drop (k + 1) := by
        have h1 : k < zs.length := by rw [HL.out]; exact hlt
        rw [List.drop_eq_getElem_cons h1, List.getD_eq_getElem?_getD, List.getElem?_eq_getElem h1]; rfl
      have hcell : wr.cell? ⟨b, o + k, none⟩ = some (.int .i64 (zs.getD k 0)) := (hB.cell (p := ⟨b, o + k, none⟩) hb).trans (HC.out k hlt)
      have hfit : Fits (zs.getD k 0) := HF.out k hlt
      have hS' : Hid (lcmS 1 zs = lcmS m (zs.getD k 0 :: zs.drop (k + 1))) := by show _ = _; rw [hS.out, hd]
      clear hd hS
      rw [List.getD_eq_getElem?_getD] at hcell hfit hS'
      generalize zs[k]?.getD 0 = n at *
      by_cases h1 : n < 1
      · have hR : Hid (lcmS 1 zs = (0, 1)) := by show _ = _; rw [hS'.out, lcmS, if_pos h1]
        go_wp2
        rw [Exit.noGoto_ret]
        go_ret2
        exact ⟨by rw [hR.out]; rfl, hB⟩
      · obtain ⟨nn, rfl⟩ : ∃ nn : Nat, n = nn := ⟨n.toNat, by omega⟩
        have hn2 : nn ≤ 9223372036854775807 := by unfold Fits at hfit; omega
        have hg0 : 0 < Nat.gcd m nn := Nat.gcd_pos_of_pos_left _ (by omega)
        have hgc := fun w => gcd_yes m nn w hm2 hn2
        have hqm : m / Nat.gcd m nn ≤ m := Nat.div_le_self _ _
        have hR : lcmS 1 zs = if m / Nat.gcd m nn * nn ≤ 9223372036854775807 then lcmS (m / Nat.gcd m nn * nn) (zs.drop (k + 1)) else (0, 16) := by
          rw [hS'.out, lcmS, if_neg h1]; rfl
        have hp1 : 1 ≤ m / Nat.gcd m nn * nn := by
          have a : 0 < m / Nat.gcd m nn := Nat.div_pos (Nat.gcd_le_left _ (by omega)) hg0
          exact Nat.mul_pos a (by omega)
        have hq : (m : Int) / (Nat.gcd m nn : Nat) = ((m / Nat.gcd m nn : Nat) : Int) := by rw [Int.natCast_ediv]
        have hmul := fun w => mul_any ((m / Nat.gcd m nn : Nat) : Int) (nn : Int) w (Fits_nat (by omega)) (Fits_nat hn2)
        rw [← Int.natCast_mul] at hmul
        generalize m / Nat.gcd m nn = q at *
        have hgq : (1 : Int) ≤ ((Nat.gcd m nn : Nat) : Int) := by omega
        have hgz : ¬ ((Nat.gcd m nn : Nat) : Int) = 0 := by omega
        generalize Nat.gcd m nn = g at *
        have HG := Lib.hid hgc
        have HQ : Hid ((m : Int) / (g : Int) = (q : Int)) := hq
        clear hgc hq hS' hfit hg0
        by_cases hp : q * nn ≤ 9223372036854775807
        · rw [told_in (Fits_nat hp)] at hmul
          rw [if_pos hp] at hR
          generalize q * nn = p at *
          have HR : Hid (lcmS 1 zs = lcmS p (zs.drop (k + 1))) := hR
          have HM := Lib.hid hmul
          clear hR hmul
          go_wp2_with (first
            | (go_at_call 20; (with_reducible refine (HG.out _).mono ?_); rintro e w1 ⟨rfl, hb1⟩; have hq := HQ.out)
            | (go_at_call 24; (with_reducible refine (HM.out _).mono ?_); rintro e w2 ⟨rfl, rfl⟩))
          go_roundw
          case rel => exact ⟨p, k + 1, rfl, rfl, by go_num, by omega, hp1, hp, HR, bel_call hB hB.size hb1⟩
          case measure => simp [intOf]; omega
        · rw [told_out (by unfold Fits; omega)] at hmul
          rw [if_neg hp] at hR
          have HR : Hid (lcmS 1 zs = (0, 16)) := hR
          have HM := Lib.hid hmul
          clear hR hmul hp hp1
          go_wp2_with (first
            | (go_at_call 20; (with_reducible refine (HG.out _).mono ?_); rintro e w1 ⟨rfl, hb1⟩; have hq := HQ.out)
            | (go_at_call 24; (with_reducible refine (HM.out _).mono ?_); rintro e w2 ⟨rfl, rfl⟩))
          rw [Exit.noGoto_ret]
          go_ret2
          exact ⟨by rw [HR.out]; rfl, bel_call hB hB.size hb1⟩
    · have hR : Hid (lcmS 1 zs = ((m : Int), 0)) := by
        show _ = _
        rw [hS.out, List.drop_eq_nil_of_le (by rw [HL.out]; omega), lcmS]
      go_wp2
      try rw [Exit.noGoto_ret]
      go_ret2
      exact ⟨by rw [hR.out]; rfl, hB⟩
end Go.Proofs.Ytpmenmcigflkdaa
