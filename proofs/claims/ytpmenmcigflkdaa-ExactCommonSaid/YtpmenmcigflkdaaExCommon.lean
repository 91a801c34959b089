/- The walk of the law ExactCommon. -/
import Derived.Test.YtpmenmcigflkdaaExBack
namespace Go.Proofs.Ytpmenmcigflkdaa
open Go.RowKit
set_option linter.unusedVariables false
set_option linter.unusedSimpArgs false

theorem i32_mask31 (x : Int) (h : (Lit.int .i32 x).wf = true) : ∃ n : Nat, bits .and .i32 x 2147483647 = n ∧ n ≤ 2147483647 := by
  obtain ⟨h1, h2⟩ := bounds_i32 h
  have hm : bits .and .i32 x 2147483647 = x % 2147483648 := by
    show IntKind.i32.wrap ((BitVec.ofInt 32 x &&& BitVec.ofInt 32 2147483647).toNat : Int) = _
    rw [BitVec.toNat_and]
    have e1 : (BitVec.ofInt 32 (2147483647 : Int)).toNat = 2 ^ 31 - 1 := by decide
    rw [e1, Nat.and_two_pow_sub_one_eq_mod, BitVec.toNat_ofInt, IntKind.wrap_i32]
    have : (2 : Nat) ^ 32 = 4294967296 := rfl
    have e2 : (2 : Nat) ^ 31 = 2147483648 := rfl
    rw [this, e2]
    omega
  exact ⟨(x % 2147483648).toNat, by rw [hm]; omega, by omega⟩

/-- What is common to two numbers from 1 on. -/
theorem common_of (a b : Nat) (ha : 1 ≤ a) (ha' : a ≤ 2147483648) (hb : 1 ≤ b) (hb' : b ≤ 2147483648) :
    ∃ g l p q : Nat, Nat.gcd a b = g ∧ lcmS 1 [(a : Int), (b : Int)] = ((l : Int), 0) ∧ 1 ≤ g ∧ 1 ≤ l ∧ l ≤ 4611686018427387904 ∧ a / g = p ∧ b / g = q ∧ Nat.gcd p q = 1 ∧ a % g = 0 ∧ b % g = 0 ∧ l % a = 0 ∧ l % b = 0 ∧ l / a = q ∧ g * q = b ∧ g ≤ a ∧ p ≤ a ∧ q ≤ b := by
  have g0 : 0 < Nat.gcd a b := Nat.gcd_pos_of_pos_left _ (by omega)
  have da : Nat.gcd a b ∣ a := Nat.gcd_dvd_left a b
  have db : Nat.gcd a b ∣ b := Nat.gcd_dvd_right a b
  have hl : lcmS 1 [(a : Int), (b : Int)] = (((a / Nat.gcd a b * b : Nat) : Int), 0) := by
    have h1 : ¬ (a : Int) < 1 := by omega
    have h2 : ¬ (b : Int) < 1 := by omega
    have hm : a / Nat.gcd a b * b ≤ 2147483648 * 2147483648 := Nat.mul_le_mul (Nat.le_trans (Nat.div_le_self _ _) ha') hb'
    rw [lcmS, if_neg h1]
    simp only [Int.toNat_natCast, Nat.gcd_one_left, Nat.div_one, Nat.one_mul]
    rw [if_pos (by omega), lcmS, if_neg h2]
    simp only [Int.toNat_natCast]
    rw [if_pos (by omega), lcmS]
  have e : a / Nat.gcd a b * b = a * (b / Nat.gcd a b) := by
    obtain ⟨x, hx⟩ := da
    obtain ⟨y, hy⟩ := db
    generalize Nat.gcd a b = g at *
    subst hx hy
    rw [Nat.mul_div_cancel_left _ g0, Nat.mul_div_cancel_left _ g0, Nat.mul_left_comm, Nat.mul_assoc]
  have hm : a / Nat.gcd a b * b ≤ 2147483648 * 2147483648 := Nat.mul_le_mul (Nat.le_trans (Nat.div_le_self _ _) ha') hb'
  have p0 : 0 < a / Nat.gcd a b := Nat.div_pos (Nat.le_of_dvd (by omega) da) g0
  refine ⟨_, _, _, _, rfl, hl, g0, Nat.mul_pos p0 (by omega), by omega, rfl, rfl, Nat.gcd_div_gcd_div_gcd_of_pos_left (by omega), Nat.mod_eq_zero_of_dvd da, Nat.mod_eq_zero_of_dvd db, ?_, ?_, ?_, Nat.mul_div_cancel' db, Nat.le_of_dvd (by omega) da, Nat.div_le_self _ _, Nat.div_le_self _ _⟩
  · rw [e]; exact Nat.mul_mod_right _ _
  · exact Nat.mul_mod_left _ _
  · rw [e]; exact Nat.mul_div_cancel_left _ (by omega)

theorem tdiv_cast {a b q : Nat} {x y : Int} (hx : x = a) (hy : y = b) (h : a / b = q) : x.tdiv y = q := by
  subst hx hy h
  rw [Int.tdiv_eq_ediv_of_nonneg (by omega)]
  exact (Int.natCast_ediv a b).symm

theorem tmod_cast {a b q : Nat} {x y : Int} (hx : x = a) (hy : y = b) (h : a % b = q) : x.tmod y = q := by
  subst hx hy h
  rw [Int.tmod_eq_emod_of_nonneg (by omega)]
  exact (Int.natCast_emod a b).symm

set_option maxHeartbeats 1600000 in
theorem walk_ExactCommon (a0 a1 : Int) (w : World) (hx : (Lit.int .i32 a0).wf = true) (hy : (Lit.int .i32 a1).wf = true) :
    Calls Try.prog 5 #[.int .i32 a0, .int .i32 a1] w fun e w' => e = .returned (.bool true) ∧ Below w.heap.size w w' := by
  obtain ⟨m, e1, hm⟩ := i32_mask31 a0 hx
  obtain ⟨n, e2, hn⟩ := i32_mask31 a1 hy
  obtain ⟨b1, b2⟩ := bounds_i32 hx
  obtain ⟨b3, b4⟩ := bounds_i32 hy
  obtain ⟨g, l, p, q, hg, hl, g1, l1, l2, hp, hq, hpq, mg, ng, la, lb, hlq, hgq, ga, pa, qb⟩ := common_of (1 + m) (1 + n) (by omega) (by omega) (by omega) (by omega)
  have h1 := fun w => gcd_yes (1 + m) (1 + n) w (by omega) (by omega)
  rw [hg, show ((1 + m : Nat) : Int) = 1 + (m : Int) from by omega, show ((1 + n : Nat) : Int) = 1 + (n : Int) from by omega] at h1
  have h2 : ∀ b w, b < w.heap.size → w.cell? ⟨b, 0, none⟩ = some (.int .i64 (1 + m)) → w.cell? ⟨b, 1, none⟩ = some (.int .i64 (1 + n)) → Calls Try.prog 22 #[.slice (some ⟨b, 0, none⟩) 2 2] w fun e w' => e = .returned (.tuple #[.int .i64 l, .int .i64 0]) ∧ Below w.heap.size w w' := fun b w hb c0 c1 => by
    have h := lcm_any b 0 2 2 [1 + m, 1 + n] w hb rfl (by omega) (fun i hi => by match i, hi with | 0, _ => simpa using c0 | 1, _ => simpa using c1) (fun i hi => by match i, hi with | 0, _ => (show Fits (1 + m); unfold Fits; omega) | 1, _ => (show Fits (1 + n); unfold Fits; omega))
    rw [show lcmS 1 [1 + (m : Int), 1 + (n : Int)] = ((l : Int), 0) from by simpa using hl] at h
    exact h
  have h3 := fun w => gcd_yes p q w (by omega) (by omega)
  rw [hpq] at h3
  have H0 := Lib.hid awake01
  have H1 := Lib.hid h1
  have H2 := Lib.hid h2
  have H3 := Lib.hid h3
  clear h1 h2 h3 hl
  go_enter Try.func5, Try.ntmps5
  go_wp2_with (first
    | (go_at_call 15; (with_reducible refine (H0.out _).mono ?_); rintro e w1 ⟨rfl, hb1⟩; have s_w1 := hb1.size; (try simp only [World.size_alloc, World.size_setCell, World.size_drew, sz_drewN] at s_w1))
    | (go_at_call 20; (with_reducible refine (H1.out _).mono ?_); rintro e w2 ⟨rfl, hb2⟩; have s_w2 := hb2.size; (try simp only [World.size_alloc, World.size_setCell, World.size_drew, sz_drewN] at s_w2))
    | (go_at_call 22; refine (H2.out _ _ (by simp) (by go_simp) (by go_simp)).mono ?_; rintro e w3 ⟨rfl, hb3⟩; have s_w3 := hb3.size; (try simp only [World.size_alloc, World.size_setCell, World.size_drew, sz_drewN] at s_w3)))
  have k0 : ((g : Int) == 0) = false := by simp; omega
  have k1 : (1 + (m : Int)).tdiv g = p := tdiv_cast (by omega) rfl hp
  have k2 : (1 + (n : Int)).tdiv g = q := tdiv_cast (by omega) rfl hq
  have kz : ¬ g = 0 := by omega
  have kz1 : ¬ (g : Int) = 0 := by omega
  have k1' : (1 + (m : Int)) / g = p := by exact_mod_cast hp
  have k2' : (1 + (n : Int)) / g = q := by exact_mod_cast hq
  have i1 : IntKind.i64.wrap (p : Int) = p := wrap_in _ (by omega) (by omega)
  have i2 : IntKind.i64.wrap (q : Int) = q := wrap_in _ (by omega) (by omega)
  have k3 : ((1 + (m : Int)) == 0) = false := by simp; omega
  have k4 : ((1 + (n : Int)) == 0) = false := by simp; omega
  have k5 : (1 + (m : Int)) % (g : Int) = 0 := by exact_mod_cast mg
  have k6 : (1 + (n : Int)) % (g : Int) = 0 := by exact_mod_cast ng
  have k7 : (l : Int) % (1 + (m : Int)) = 0 := by exact_mod_cast la
  have k8 : (l : Int) % (1 + (n : Int)) = 0 := by exact_mod_cast lb
  have k9 : (l : Int) / (1 + (m : Int)) = q := by exact_mod_cast hlq
  have k11 : (l : Int).tdiv (1 + (m : Int)) = q := tdiv_cast rfl (by omega) hlq
  have k10 : (g : Int) * (q : Int) = 1 + n := by exact_mod_cast hgq
  go_region_held3 (fun x => Below (w3).heap.size (w3) x ∧ (∀ b o, b < (w3).heap.size → x.cell? ⟨b, o, none⟩ = (w3).cell? ⟨b, o, none⟩) ∧ (∀ b o, b < (w3).heap.size → x.frozen? ⟨b, o, none⟩ = (w3).frozen? ⟨b, o, none⟩)) ((first | (simp only [mark_set]; refine held_of ?_; repeat' (first | (with_reducible exact (by with_reducible assumption : Below _ _ _ ∧ _).1) | (with_reducible refine below_setc ?_ ?_) | omega | (simp; done) | (simp; omega))) | (with_reducible exact held_of ((by with_reducible assumption : Below _ _ _ ∧ _).1.trans (hb.mono (by with_reducible assumption : Below _ _ _ ∧ _).1.size))) | (with_reducible exact held_of (Below.drew (Below.refl _ _))) | (with_reducible exact held_of ((by with_reducible assumption : Below _ _ _ ∧ _).1.alloc (by with_reducible assumption : Below _ _ _ ∧ _).1.size _)) | (with_reducible exact held_of (below_realloc hz (by with_reducible assumption : Below _ _ (World.alloc _ _) ∧ _).1)))) (first | (go_at_call 20; (with_reducible refine (H3.out _).mono ?_); rintro e w4 ⟨rfl, hb⟩))
  all_goals go_wp2
  all_goals go_ret
  all_goals exact ⟨rfl, bel_call (w := w3) (by have s0_ := hb1.size; have s1_ := hb2.size; have s2_ := hb3.size; (try simp only [World.size_alloc, World.size_setCell, World.size_drew, sz_drewN] at s0_ s1_ s2_); repeat' (first | (with_reducible exact Below.refl _ _) | (with_reducible refine bel_call ?_ ?_ hb3) | (with_reducible refine bel_call ?_ ?_ hb2) | (with_reducible refine bel_call ?_ ?_ hb1) | (with_reducible refine Below.alloc ?_ ?_ _) | (with_reducible refine below_drewN ?_ _) | (with_reducible refine Below.drew ?_) | (with_reducible refine Below.setCell ?_ ?_ _) | omega | (simp; omega) | (simp; done))) (by omega) (by assumption : Below _ _ _ ∧ _).1⟩
end Go.Proofs.Ytpmenmcigflkdaa
