/- The least common number of any row, and of the document. -/
import Derived.Test.YtpmenmcigflkdaaExPartsA
namespace Go.Proofs.Ytpmenmcigflkdaa
open Go.RowKit
set_option linter.unusedVariables false
set_option linter.unusedSimpArgs false

theorem bel_of_eq {w w2 : World} (h : w = w2) : Below w.heap.size w w2 := h ▸ Below.refl _ _
theorem add_block (x : Addr) (k : Nat) : (x.add k).block = x.block := by unfold Addr.add; split <;> rfl

set_option maxHeartbeats 3200000 in
theorem lcm_row (x : Addr) (len cap : Nat) (zs : List Int) (w : World) (hb : x.block < w.heap.size) (hlen : zs.length = len) (hmax : len ≤ 9223372036854775807) (hc : ∀ i, i < len → w.cell? (x.add i) = some (.int .i64 (zs.getD i 0))) (hf : ∀ i, i < len → Fits (zs.getD i 0)) :
    Calls Try.prog 22 #[.slice (some x) len cap] w fun e w' => e = .returned (.tuple #[.int .i64 (lcmS 1 zs).1, .int .i64 (lcmS 1 zs).2]) ∧ Below w.heap.size w w' := by
  have HC := Lib.hid hc
  have HF := Lib.hid hf
  have HL : Hid (zs.length = len) := hlen
  clear hc hf hlen
  go_enter Try.func22, Try.ntmps22
  go_wp2
  go_step3
  go_wp2
  go_step3
  go_wp2
  go_loopw [4, 5, 12] (fun s4 s5 s12 wr => ∃ m k : Nat, s4 = .int .i64 m ∧ s5 = .int .i64 0 ∧ s12 = .int .i64 k ∧ k ≤ len ∧ 1 ≤ m ∧ m ≤ 9223372036854775807 ∧ Hid (lcmS 1 zs = lcmS m (zs.drop k)) ∧ Below w.heap.size w wr) (fun _ _ s12 _ => len - (intOf s12).toNat)
  case atStart => exact ⟨1, 0, rfl, rfl, rfl, by omega, by omega, by omega, rfl, Below.refl _ _⟩
  case round =>
    obtain ⟨m, k, rfl, rfl, rfl, hk, hm1, hm2, hS, hB⟩ := hrel
    by_cases hlt : k < len
    · have hd : zs.drop k = zs.getD k 0 :: zs.drop (k + 1) := by
        have h1 : k < zs.length := by rw [HL.out]; exact hlt
        rw [List.drop_eq_getElem_cons h1, List.getD_eq_getElem?_getD, List.getElem?_eq_getElem h1]; rfl
      have hcell : wr.cell? (x.add k) = some (.int .i64 (zs.getD k 0)) := (hB.cell (p := x.add k) (by rw [add_block]; exact hb)).trans (HC.out k hlt)
      have hfit : Fits (zs.getD k 0) := HF.out k hlt
      have hS' : Hid (lcmS 1 zs = lcmS m (zs.getD k 0 :: zs.drop (k + 1))) := by show _ = _; rw [hS.out, hd]
      clear hd hS
      rw [List.getD_eq_getElem?_getD] at hcell hfit hS'
      generalize zs[k]?.getD 0 = n at *
      by_cases h1 : n < 1
      · have hR : Hid (lcmS 1 zs = (0, 1)) := by show _ = _; rw [hS'.out, lcmS, if_pos h1]
        go_wp2
        rw [Exit.noGoto_ret]
        go_ret2
        exact ⟨by rw [hR.out]; rfl, hB⟩
      · obtain ⟨nn, rfl⟩ : ∃ nn : Nat, n = nn := ⟨n.toNat, by omega⟩
        have hn2 : nn ≤ 9223372036854775807 := by unfold Fits at hfit; omega
        have hg0 : 0 < Nat.gcd m nn := Nat.gcd_pos_of_pos_left _ (by omega)
        have hgc := fun w => gcd_yes m nn w hm2 hn2
        have hqm : m / Nat.gcd m nn ≤ m := Nat.div_le_self _ _
        have hR : lcmS 1 zs = if m / Nat.gcd m nn * nn ≤ 9223372036854775807 then lcmS (m / Nat.gcd m nn * nn) (zs.drop (k + 1)) else (0, 16) := by
          rw [hS'.out, lcmS, if_neg h1]; rfl
        have hp1 : 1 ≤ m / Nat.gcd m nn * nn := by
          have a : 0 < m / Nat.gcd m nn := Nat.div_pos (Nat.gcd_le_left _ (by omega)) hg0
          exact Nat.mul_pos a (by omega)
        have hq : (m : Int) / (Nat.gcd m nn : Nat) = ((m / Nat.gcd m nn : Nat) : Int) := by rw [Int.natCast_ediv]
        have hmul := fun w => mul_any ((m / Nat.gcd m nn : Nat) : Int) (nn : Int) w (Fits_nat (by omega)) (Fits_nat hn2)
        rw [← Int.natCast_mul] at hmul
        generalize m / Nat.gcd m nn = q at *
        have hgq : (1 : Int) ≤ ((Nat.gcd m nn : Nat) : Int) := by omega
        have hgz : ¬ ((Nat.gcd m nn : Nat) : Int) = 0 := by omega
        generalize Nat.gcd m nn = g at *
        have HG := Lib.hid hgc
        have HQ : Hid ((m : Int) / (g : Int) = (q : Int)) := hq
        clear hgc hq hS' hfit hg0
        by_cases hp : q * nn ≤ 9223372036854775807
        · rw [told_in (Fits_nat hp)] at hmul
          rw [if_pos hp] at hR
          generalize q * nn = p at *
          have HR : Hid (lcmS 1 zs = lcmS p (zs.drop (k + 1))) := hR
          have HM := Lib.hid hmul
          clear hR hmul
          go_wp2_with (first
            | (go_at_call 20; (with_reducible refine (HG.out _).mono ?_); rintro e w1 ⟨rfl, hb1⟩; have hq := HQ.out)
            | (go_at_call 24; (with_reducible refine (HM.out _).mono ?_); rintro e w2 ⟨rfl, rfl⟩))
          go_roundw
          case rel => exact ⟨p, k + 1, rfl, rfl, by go_num, by omega, hp1, hp, HR, bel_call hB hB.size hb1⟩
          case measure => simp [intOf]; omega
        · rw [told_out (by unfold Fits; omega)] at hmul
          rw [if_neg hp] at hR
          have HR : Hid (lcmS 1 zs = (0, 16)) := hR
          have HM := Lib.hid hmul
          clear hR hmul hp hp1
          go_wp2_with (first
            | (go_at_call 20; (with_reducible refine (HG.out _).mono ?_); rintro e w1 ⟨rfl, hb1⟩; have hq := HQ.out)
            | (go_at_call 24; (with_reducible refine (HM.out _).mono ?_); rintro e w2 ⟨rfl, rfl⟩))
          rw [Exit.noGoto_ret]
          go_ret2
          exact ⟨by rw [HR.out]; rfl, bel_call hB hB.size hb1⟩
    · have hR : Hid (lcmS 1 zs = ((m : Int), 0)) := by
        show _ = _
        rw [hS.out, List.drop_eq_nil_of_le (by rw [HL.out]; omega), lcmS]
      go_wp2
      try rw [Exit.noGoto_ret]
      go_ret2
      exact ⟨by rw [hR.out]; rfl, hB⟩

set_option maxHeartbeats 3200000 in
theorem rlcm_row (x : Addr) (len cap : Nat) (zs : List Int) (w : World) (hb : x.block < w.heap.size) (hlen : zs.length = len) (hmax : len ≤ 9223372036854775807) (hc : ∀ i, i < len → w.cell? (x.add i) = some (.int .i64 (zs.getD i 0))) (hf : ∀ i, i < len → Fits (zs.getD i 0)) :
    Calls Try.prog 23 #[.slice (some x) len cap] w fun e w' => e = .returned (.tuple #[.int .i64 (lcmS 1 zs).1, .int .i64 (lcmS 1 zs).2]) ∧ Below w.heap.size w w' := by
  have HC := Lib.hid hc
  have HF := Lib.hid hf
  have HL : Hid (zs.length = len) := hlen
  clear hc hf hlen
  go_enter Try.func23, Try.ntmps23
  go_wp2
  go_loopw [4, 5] (fun s4 s5 wr => ∃ m k : Nat, s4 = .int .i64 m ∧ s5 = .int .i64 k ∧ k ≤ len ∧ 1 ≤ m ∧ m ≤ 9223372036854775807 ∧ Hid (lcmS 1 zs = lcmS m (zs.drop k)) ∧ Below w.heap.size w wr) (fun _ s5 _ => len - (intOf s5).toNat)
  case atStart => exact ⟨1, 0, rfl, rfl, by omega, by omega, by omega, rfl, Below.refl _ _⟩
  case round =>
    obtain ⟨m, k, rfl, rfl, hk, hm1, hm2, hS, hB⟩ := hrel
    by_cases hlt : k < len
    · have hd : zs.drop k = zs.getD k 0 :: zs.drop (k + 1) := by
        have h1 : k < zs.length := by rw [HL.out]; exact hlt
        rw [List.drop_eq_getElem_cons h1, List.getD_eq_getElem?_getD, List.getElem?_eq_getElem h1]; rfl
      have hcell : wr.cell? (x.add k) = some (.int .i64 (zs.getD k 0)) := (hB.cell (p := x.add k) (by rw [add_block]; exact hb)).trans (HC.out k hlt)
      have hfit : Fits (zs.getD k 0) := HF.out k hlt
      have hS' : Hid (lcmS 1 zs = lcmS m (zs.getD k 0 :: zs.drop (k + 1))) := by show _ = _; rw [hS.out, hd]
      clear hd hS
      rw [List.getD_eq_getElem?_getD] at hcell hfit hS'
      generalize zs[k]?.getD 0 = n at *
      have k0 : (0 : Int) ≤ (k : Int) := by omega
      have k1 : (k : Int) < (len : Int) := by omega
      by_cases h1 : n < 1
      · have hR : Hid (lcmS 1 zs = (0, 1)) := by show _ = _; rw [hS'.out, lcmS, if_pos h1]
        go_wp2
        try rw [Exit.noGoto_ret]
        go_ret2
        exact ⟨by rw [hR.out]; rfl, hB⟩
      · obtain ⟨nn, rfl⟩ : ∃ nn : Nat, n = nn := ⟨n.toNat, by omega⟩
        have hn2 : nn ≤ 9223372036854775807 := by unfold Fits at hfit; omega
        have hg0 : 0 < Nat.gcd m nn := Nat.gcd_pos_of_pos_left _ (by omega)
        have hgc := fun w => rgcd_yes nn m w hm2 hn2
        have hR : lcmS 1 zs = if m / Nat.gcd m nn * nn ≤ 9223372036854775807 then lcmS (m / Nat.gcd m nn * nn) (zs.drop (k + 1)) else (0, 16) := by
          rw [hS'.out, lcmS, if_neg h1]; rfl
        have hqm : m / Nat.gcd m nn ≤ m := Nat.div_le_self _ _
        have hp1 : 1 ≤ m / Nat.gcd m nn * nn := by
          have a : 0 < m / Nat.gcd m nn := Nat.div_pos (Nat.gcd_le_left _ (by omega)) hg0
          exact Nat.mul_pos a (by omega)
        have hq : (m : Int) / (Nat.gcd m nn : Nat) = ((m / Nat.gcd m nn : Nat) : Int) := by rw [Int.natCast_ediv]
        have hmul := fun w => rmul_any ((m / Nat.gcd m nn : Nat) : Int) (nn : Int) w (Fits_nat (by omega)) (Fits_nat hn2)
        rw [← Int.natCast_mul] at hmul
        generalize m / Nat.gcd m nn = q at *
        have hgq : (1 : Int) ≤ ((Nat.gcd m nn : Nat) : Int) := by omega
        have hgz : ¬ ((Nat.gcd m nn : Nat) : Int) = 0 := by omega
        have hgn : ¬ (Nat.gcd m nn : Nat) = 0 := by omega
        generalize Nat.gcd m nn = g at *
        have HG := Lib.hid hgc
        have HQ : Hid ((m : Int).tdiv (g : Int) = (q : Int)) := by show _ = _; rw [Int.tdiv_eq_ediv_of_nonneg (by omega)]; exact hq
        have HQ2 : Hid ((m : Int) / (g : Int) = (q : Int)) := hq
        have HW : Hid (IntKind.i64.wrap (q : Int) = q) := wrap_in _ (by omega) (by omega)
        clear hgc hq hS' hfit hg0
        by_cases hp : q * nn ≤ 9223372036854775807
        · rw [told_in (Fits_nat hp)] at hmul
          rw [if_pos hp] at hR
          generalize q * nn = p at *
          have HR : Hid (lcmS 1 zs = lcmS p (zs.drop (k + 1))) := hR
          have HM := Lib.hid hmul
          clear hR hmul
          go_wp2_with (first
            | (go_at_call 21; (with_reducible refine (HG.out _).mono ?_); rintro e w1 ⟨rfl, hb1⟩))
          have hcell1 : w1.cell? (x.add k) = some (.int .i64 nn) := (hb1.cell (p := x.add k) (by rw [add_block]; have := hB.size; omega)).trans hcell
          have hq := HQ.out
          have hq2 := HQ2.out
          have hw := HW.out
          go_region_held3 (fun y => Below w1.heap.size w1 y ∧ y.cell? (x.add k) = some (.int .i64 nn)) (first | (with_reducible assumption) | (exact ⟨Below.drew (Below.refl _ _), by simpa using hcell1⟩)) (first | (go_at_call 38; (with_reducible refine (HM.out _).mono ?_); rintro e w2 ⟨rfl, rfl⟩))
          clear hq hq2 hw
          go_wp2
          go_roundw
          case rel => exact ⟨p, k + 1, rfl, by go_num, by omega, hp1, hp, HR, bel_call (w := w1) (bel_call hB hB.size hb1) (by have := hB.size; have := hb1.size; omega) (by assumption : Below _ _ _ ∧ _).1⟩
          case measure => simp [intOf]; omega
        · rw [told_out (by unfold Fits; omega)] at hmul
          rw [if_neg hp] at hR
          have HR : Hid (lcmS 1 zs = (0, 16)) := hR
          have HM := Lib.hid hmul
          clear hR hmul hp hp1
          go_wp2_with (first
            | (go_at_call 21; (with_reducible refine (HG.out _).mono ?_); rintro e w1 ⟨rfl, hb1⟩))
          have hcell1 : w1.cell? (x.add k) = some (.int .i64 nn) := (hb1.cell (p := x.add k) (by rw [add_block]; have := hB.size; omega)).trans hcell
          have hq := HQ.out
          have hq2 := HQ2.out
          have hw := HW.out
          go_region_held3 (fun y => Below w1.heap.size w1 y ∧ y.cell? (x.add k) = some (.int .i64 nn)) (first | (with_reducible assumption) | (exact ⟨Below.drew (Below.refl _ _), by simpa using hcell1⟩)) (first | (go_at_call 38; (with_reducible refine (HM.out _).mono ?_); rintro e w2 ⟨rfl, rfl⟩))
          clear hq hq2 hw
          go_wp2
          try rw [Exit.noGoto_ret]
          go_ret2
          exact ⟨by rw [HR.out]; rfl, bel_call (w := w1) (bel_call hB hB.size hb1) (by have := hB.size; have := hb1.size; omega) (by assumption : Below _ _ _ ∧ _).1⟩
    · have hR : Hid (lcmS 1 zs = ((m : Int), 0)) := by
        show _ = _
        rw [hS.out, List.drop_eq_nil_of_le (by rw [HL.out]; omega), lcmS]
      go_wp2
      try rw [Exit.noGoto_ret]
      go_ret2
      exact ⟨by rw [hR.out]; rfl, hB⟩
end Go.Proofs.Ytpmenmcigflkdaa
