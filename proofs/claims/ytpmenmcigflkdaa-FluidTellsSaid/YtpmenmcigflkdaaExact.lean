/- Contracts of exact numbers: Mul64, size, Add, Sub, Mul, for all numbers of 64 bits. -/
import Derived.Test.YtpmenmcigflkdaaParts
import Derived.Lib.Mul64
import Derived.Laws.BitsAllLaws
namespace Go.Proofs.Ytpmenmcigflkdaa
open Go.RowKit
set_option linter.unusedVariables false
set_option linter.unusedSimpArgs false

/-- Does a number need no more than 64 bits with a sign? -/
def Fits (n : Int) : Prop := -9223372036854775808 ≤ n ∧ n ≤ 9223372036854775807
instance (n : Int) : Decidable (Fits n) := by unfold Fits; infer_instance

theorem wrap_toInt (v : BitVec 64) : IntKind.i64.wrap (v.toNat : Int) = v.toInt := by
  rw [IntKind.wrap_i64, BitVec.toInt_eq_toNat_cond]
  have := v.isLt
  split <;> omega
theorem ofInt_msb {x : Int} (h : Fits x) : (BitVec.ofInt 64 x).msb = decide (x < 0) := by
  rw [BitVec.msb_eq_toInt, BitVec.toInt_ofInt]
  unfold Fits at h
  congr 1
  rw [Int.bmod_eq_of_le (by omega) (by omega)]
theorem and_neg {x y : Int} (hx : Fits x) (hy : Fits y) : (bits .and .i64 x y < 0) ↔ (x < 0 ∧ y < 0) := by
  show IntKind.i64.wrap ((BitVec.ofInt 64 x &&& BitVec.ofInt 64 y).toNat : Int) < 0 ↔ _
  rw [wrap_toInt]
  have h : (BitVec.ofInt 64 x &&& BitVec.ofInt 64 y).msb = (decide (x < 0) && decide (y < 0)) := by rw [BitVec.msb_and, ofInt_msb hx, ofInt_msb hy]
  rw [BitVec.msb_eq_toInt] at h
  have := congrArg (· = true) h
  simpa using this
theorem xor_neg {x y : Int} (hx : Fits x) (hy : Fits y) : (bits .xor .i64 x y < 0) ↔ ¬ (x < 0 ↔ y < 0) := by
  show IntKind.i64.wrap ((BitVec.ofInt 64 x ^^^ BitVec.ofInt 64 y).toNat : Int) < 0 ↔ _
  rw [wrap_toInt]
  have h : (BitVec.ofInt 64 x ^^^ BitVec.ofInt 64 y).msb = (decide (x < 0) ^^ decide (y < 0)) := by rw [BitVec.msb_xor, ofInt_msb hx, ofInt_msb hy]
  rw [BitVec.msb_eq_toInt] at h
  generalize (BitVec.ofInt 64 x ^^^ BitVec.ofInt 64 y).toInt = v at *
  by_cases a : x < 0 <;> by_cases b : y < 0 <;> simp [a, b] at h ⊢ <;> omega
theorem bits_fits (op : BinOp) (x y : Int) : Fits (bits op .i64 x y) := by
  have := bounds_i64 (wf_bits op .i64 x y)
  exact this
theorem wrap_fits (n : Int) : Fits (wrap64 n) := by unfold Fits wrap64; omega

theorem over_add {a b : Int} (ha : Fits a) (hb : Fits b) : (bits .and .i64 (bits .xor .i64 a (wrap64 (a + b))) (bits .xor .i64 b (wrap64 (a + b))) < 0) ↔ ¬ Fits (a + b) := by
  rw [and_neg (bits_fits _ _ _) (bits_fits _ _ _), xor_neg ha (wrap_fits _), xor_neg hb (wrap_fits _)]
  unfold Fits at *
  unfold wrap64
  omega
theorem over_sub {a b : Int} (ha : Fits a) (hb : Fits b) : (bits .and .i64 (bits .xor .i64 a b) (bits .xor .i64 a (wrap64 (a - b))) < 0) ↔ ¬ Fits (a - b) := by
  rw [and_neg (bits_fits _ _ _) (bits_fits _ _ _), xor_neg ha hb, xor_neg ha (wrap_fits _)]
  unfold Fits at *
  unfold wrap64
  omega

/-- What a sum, a difference, a product is told as. -/
def told (n : Int) : Int × Int := if Fits n then (n, 0) else (0, 16)
theorem told_in {n : Int} (h : Fits n) : told n = (n, 0) := if_pos h
theorem told_out {n : Int} (h : ¬ Fits n) : told n = (0, 16) := if_neg h

set_option maxHeartbeats 400000 in
theorem add_any (a b : Int) (w : World) (ha : Fits a) (hb : Fits b) : Calls Try.prog 34 #[.int .i64 a, .int .i64 b] w fun e w' => e = .returned (.tuple #[.int .i64 (told (a + b)).1, .int .i64 (told (a + b)).2]) ∧ w = w' := by
  by_cases h : Fits (a + b)
  · have H : Hid (told (a + b) = (a + b, 0)) := told_in h
    have g : ¬ (bits .and .i64 (bits .xor .i64 a (wrap64 (a + b))) (bits .xor .i64 b (wrap64 (a + b))) < 0) := by rw [over_add ha hb]; exact fun k => k h
    have hw : Hid (wrap64 (a + b) = a + b) := IntWalk.wrap64_in _ h
    clear h ha hb
    go_enter Try.func34, Try.ntmps34
    go_wp2
    go_ret2
    exact ⟨by rw [H.out]; exact congrArg (fun n => Ending.returned (.tuple #[.int .i64 n, .int .i64 0])) hw.out, rfl⟩
  · have H : Hid (told (a + b) = (0, 16)) := told_out h
    have g : bits .and .i64 (bits .xor .i64 a (wrap64 (a + b))) (bits .xor .i64 b (wrap64 (a + b))) < 0 := by rw [over_add ha hb]; exact h
    clear h ha hb
    go_enter Try.func34, Try.ntmps34
    go_wp2
    go_ret2
    exact ⟨by rw [H.out]; rfl, rfl⟩

set_option maxHeartbeats 400000 in
theorem sub_any (a b : Int) (w : World) (ha : Fits a) (hb : Fits b) : Calls Try.prog 36 #[.int .i64 a, .int .i64 b] w fun e w' => e = .returned (.tuple #[.int .i64 (told (a - b)).1, .int .i64 (told (a - b)).2]) ∧ w = w' := by
  by_cases h : Fits (a - b)
  · have H : Hid (told (a - b) = (a - b, 0)) := told_in h
    have g : ¬ (bits .and .i64 (bits .xor .i64 a b) (bits .xor .i64 a (wrap64 (a - b))) < 0) := by rw [over_sub ha hb]; exact fun k => k h
    have hw : Hid (wrap64 (a - b) = a - b) := IntWalk.wrap64_in _ h
    clear h ha hb
    go_enter Try.func36, Try.ntmps36
    go_wp2
    go_ret2
    exact ⟨by rw [H.out]; exact congrArg (fun n => Ending.returned (.tuple #[.int .i64 n, .int .i64 0])) hw.out, rfl⟩
  · have H : Hid (told (a - b) = (0, 16)) := told_out h
    have g : bits .and .i64 (bits .xor .i64 a b) (bits .xor .i64 a (wrap64 (a - b))) < 0 := by rw [over_sub ha hb]; exact h
    clear h ha hb
    go_enter Try.func36, Try.ntmps36
    go_wp2
    go_ret2
    exact ⟨by rw [H.out]; rfl, rfl⟩

theorem maskN (a : Nat) (ha : a < 18446744073709551616) : bits .and .u64 (a : Int) 4294967295 = ((a % 4294967296 : Nat) : Int) := by
  have h := bits_and_u64_nat a 4294967295 ha (by omega)
  have e : a &&& 4294967295 = a % 4294967296 := Nat.and_two_pow_sub_one_eq_mod a 32
  rw [e] at h
  exact h
theorem divN (a : Nat) : (a : Int) / 4294967296 = ((a / 4294967296 : Nat) : Int) := by omega
theorem mulN (a b : Nat) : (a : Int) * (b : Int) = ((a * b : Nat) : Int) := (Int.natCast_mul a b).symm
theorem addN (a b : Nat) : (a : Int) + (b : Int) = ((a + b : Nat) : Int) := (Int.natCast_add a b).symm
theorem wrapN (a : Nat) (ha : a < 18446744073709551616) : IntKind.u64.wrap (a : Int) = (a : Int) := by rw [IntKind.wrap_u64]; omega
theorem wrapM (a : Nat) : IntKind.u64.wrap (a : Int) = ((a % 18446744073709551616 : Nat) : Int) := by rw [IntKind.wrap_u64]; omega

set_option maxHeartbeats 1000000 in
theorem mul64_any (x y : Nat) (hx : x < 18446744073709551616) (hy : y < 18446744073709551616) (w : World) :
    Calls Try.prog 44 #[.int .u64 x, .int .u64 y] w fun e w' => e = .returned (.tuple #[.int .u64 ((x * y / 18446744073709551616 : Nat) : Int), .int .u64 ((x * y % 18446744073709551616 : Nat) : Int)]) ∧ w = w' := by
  obtain ⟨bd, bt, bw, hhi⟩ := Lib.mul64_hi x y hx hy
  have ba := Lib.half_mul_le (a := x / 4294967296) (b := y / 4294967296) (by omega) (by omega)
  have bb := Lib.half_mul_le (a := x / 4294967296) (b := y % 4294967296) (by omega) (by omega)
  have bc := Lib.half_mul_le (a := x % 4294967296) (b := y / 4294967296) (by omega) (by omega)
  have ba' : x / 4294967296 * (y / 4294967296) < 18446744073709551616 := by omega
  have bb' : x / 4294967296 * (y % 4294967296) < 18446744073709551616 := by omega
  have bc' : x % 4294967296 * (y / 4294967296) < 18446744073709551616 := by omega
  have bh1 : x / 4294967296 * (y / 4294967296) + (x / 4294967296 * (y % 4294967296) + x % 4294967296 * (y % 4294967296) / 4294967296) / 4294967296 < 18446744073709551616 := by omega
  have bh : x / 4294967296 * (y / 4294967296) + (x / 4294967296 * (y % 4294967296) + x % 4294967296 * (y % 4294967296) / 4294967296) / 4294967296 + ((x / 4294967296 * (y % 4294967296) + x % 4294967296 * (y % 4294967296) / 4294967296) % 4294967296 + x % 4294967296 * (y / 4294967296)) / 4294967296 < 18446744073709551616 := by omega
  go_enter Try.func44, Try.ntmps44
  go_wp2
  simp only [maskN x hx, maskN y hy, divN, mulN, addN, wrapN _ bd, wrapN _ bb', wrapN _ bt, maskN _ bt, wrapN _ bc', wrapN _ bw, wrapN _ ba', wrapN _ bh1, wrapN _ bh, wrapM (x * y)]
  rw [hhi]
  go_ret2
  exact ⟨rfl, rfl⟩

set_option maxHeartbeats 400000 in
theorem size_any (a : Int) (w : World) (ha : Fits a) : Calls Try.prog 45 #[.int .i64 a] w fun e w' => e = .returned (.int .u64 (a.natAbs : Int)) ∧ w = w' := by
  unfold Fits at ha
  by_cases h : a < 0
  · have hw : Hid (IntKind.u64.wrap (-(IntKind.u64.wrap a)) = (a.natAbs : Int)) := by show _ = _; rw [IntKind.wrap_u64, IntKind.wrap_u64]; omega
    go_enter Try.func45, Try.ntmps45
    go_wp2
    go_ret
    exact ⟨by rw [← hw.out]; rfl, rfl⟩
  · have hw : Hid (IntKind.u64.wrap a = (a.natAbs : Int)) := by show _ = _; rw [IntKind.wrap_u64]; omega
    go_enter Try.func45, Try.ntmps45
    go_wp2
    go_ret
    exact ⟨by rw [← hw.out]; first | rfl | (rw [hw.out]; simp; omega), rfl⟩

theorem prod_split (a b : Int) : ((a.natAbs * b.natAbs : Nat) : Int) = if (a < 0) ↔ (b < 0) then a * b else -(a * b) := by
  rw [← Int.natAbs_mul]
  by_cases h1 : a < 0 <;> by_cases h2 : b < 0
  · have := Int.mul_nonneg_of_nonpos_of_nonpos (show a ≤ 0 by omega) (show b ≤ 0 by omega); simp [h1, h2]; omega
  · have := Int.mul_nonpos_of_nonpos_of_nonneg (show a ≤ 0 by omega) (show 0 ≤ b by omega); simp [h1, h2]; omega
  · have := Int.mul_nonpos_of_nonneg_of_nonpos (show 0 ≤ a by omega) (show b ≤ 0 by omega); simp [h1, h2]; omega
  · have := Int.mul_nonneg (show 0 ≤ a by omega) (show 0 ≤ b by omega); simp [h1, h2]; omega

/-- The product's two halves, told. -/
theorem mul_told (a b : Int) (hi lo : Nat) (h : ((a.natAbs * b.natAbs : Nat)) = hi * 18446744073709551616 + lo) (hl : lo < 18446744073709551616) :
    (((a < 0) ↔ (b < 0)) → ((hi = 0 ∧ lo ≤ 9223372036854775807) → told (a * b) = ((lo : Int), 0)) ∧ (¬ (hi = 0 ∧ lo ≤ 9223372036854775807) → told (a * b) = (0, 16))) ∧
    (¬ ((a < 0) ↔ (b < 0)) → ((hi = 0 ∧ lo ≤ 9223372036854775808) → told (a * b) = (-(lo : Int), 0)) ∧ (¬ (hi = 0 ∧ lo ≤ 9223372036854775808) → told (a * b) = (0, 16))) := by
  have hs := prod_split a b
  rw [h] at hs
  refine ⟨fun s => ?_, fun s => ?_⟩
  · rw [if_pos s] at hs
    refine ⟨fun k => ?_, fun k => ?_⟩
    · have e : a * b = lo := by omega
      rw [e]; exact told_in (by unfold Fits; omega)
    · exact told_out (by unfold Fits; omega)
  · rw [if_neg s] at hs
    refine ⟨fun k => ?_, fun k => ?_⟩
    · have e : a * b = -(lo : Int) := by omega
      rw [e]; exact told_in (by unfold Fits; omega)
    · exact told_out (by unfold Fits; omega)

set_option maxHeartbeats 1600000 in
theorem mul_any (a b : Int) (w : World) (ha : Fits a) (hb : Fits b) : Calls Try.prog 24 #[.int .i64 a, .int .i64 b] w fun e w' => e = .returned (.tuple #[.int .i64 (told (a * b)).1, .int .i64 (told (a * b)).2]) ∧ w = w' := by
  have n1 : a.natAbs < 18446744073709551616 := by unfold Fits at ha; omega
  have n2 : b.natAbs < 18446744073709551616 := by unfold Fits at hb; omega
  have hm := fun w => mul64_any a.natAbs b.natAbs n1 n2 w
  have M := mul_told a b (a.natAbs * b.natAbs / 18446744073709551616) (a.natAbs * b.natAbs % 18446744073709551616) (by omega) (by omega)
  have hl : a.natAbs * b.natAbs % 18446744073709551616 < 18446744073709551616 := by omega
  generalize a.natAbs * b.natAbs / 18446744073709551616 = hi at *
  generalize a.natAbs * b.natAbs % 18446744073709551616 = lo at *
  have sa := fun w => size_any a w ha
  have sb := fun w => size_any b w hb
  generalize a.natAbs = na at *
  generalize b.natAbs = nb at *
  have HM := Lib.hid hm
  have HA := Lib.hid sa
  have HB := Lib.hid sb
  clear hm sa sb ha hb n1 n2
  by_cases c1 : a < 0
  · by_cases c2 : b < 0
    · by_cases z : hi = 0
      · by_cases y : lo ≤ 9223372036854775807
        · have H : Hid (told (a * b) = ((lo : Int), 0)) := (M.1 (by simp [c1, c2])).1 (by omega)
          have g1 : ((hi : Int) != 0) = false := by simp; omega
          have g2 : ¬ (9223372036854775807 : Int) < (lo : Int) := by omega
          have hw : Hid (IntKind.i64.wrap (lo : Int) = (lo : Int)) := IntWalk.i64_in _ (by omega)
          clear M hl
          go_enter Try.func24, Try.ntmps24
          go_wp2_with (first | (go_at_call 45; (first | (with_reducible refine (HA.out _).mono ?_) | (with_reducible refine (HB.out _).mono ?_)); rintro e w' ⟨rfl, rfl⟩) | (go_at_call 44; (with_reducible refine (HM.out _).mono ?_); rintro e w' ⟨rfl, rfl⟩))
          go_ret2
          exact ⟨by rw [H.out]; first | rfl | exact congrArg (fun n => Ending.returned (.tuple #[.int .i64 n, .int .i64 0])) hw.out, rfl⟩
        · have H : Hid (told (a * b) = (0, 16)) := (M.1 (by simp [c1, c2])).2 (by omega)
          have g1 : ((hi : Int) != 0) = false := by simp; omega
          have g2 : (9223372036854775807 : Int) < (lo : Int) := by omega
          clear M hl
          go_enter Try.func24, Try.ntmps24
          go_wp2_with (first | (go_at_call 45; (first | (with_reducible refine (HA.out _).mono ?_) | (with_reducible refine (HB.out _).mono ?_)); rintro e w' ⟨rfl, rfl⟩) | (go_at_call 44; (with_reducible refine (HM.out _).mono ?_); rintro e w' ⟨rfl, rfl⟩))
          go_ret2
          exact ⟨by rw [H.out]; first | rfl | exact congrArg (fun n => Ending.returned (.tuple #[.int .i64 n, .int .i64 0])) hw.out, rfl⟩
      · have H : Hid (told (a * b) = (0, 16)) := (M.1 (by simp [c1, c2])).2 (by omega)
        have g1 : ((hi : Int) != 0) = true := by simp; omega
        clear M hl
        go_enter Try.func24, Try.ntmps24
        go_wp2_with (first | (go_at_call 45; (first | (with_reducible refine (HA.out _).mono ?_) | (with_reducible refine (HB.out _).mono ?_)); rintro e w' ⟨rfl, rfl⟩) | (go_at_call 44; (with_reducible refine (HM.out _).mono ?_); rintro e w' ⟨rfl, rfl⟩))
        go_ret2
        exact ⟨by rw [H.out]; first | rfl | exact congrArg (fun n => Ending.returned (.tuple #[.int .i64 n, .int .i64 0])) hw.out, rfl⟩
    · by_cases z : hi = 0
      · by_cases y : lo ≤ 9223372036854775808
        · have H : Hid (told (a * b) = (-(lo : Int), 0)) := (M.2 (by simp [c1, c2])).1 (by omega)
          have g1 : ((hi : Int) != 0) = false := by simp; omega
          have g2 : ¬ (9223372036854775808 : Int) < (lo : Int) := by omega
          have hw : Hid (wrap64 (IntKind.u64.wrap (-(lo : Int))) = -(lo : Int)) := by show _ = _; rw [IntKind.wrap_u64]; unfold wrap64; omega
          clear M hl
          have d2 : decide (b < 0) = false := decide_eq_false c2
          go_enter Try.func24, Try.ntmps24
          go_wp2_with (first | (go_at_call 45; (first | (with_reducible refine (HA.out _).mono ?_) | (with_reducible refine (HB.out _).mono ?_)); rintro e w' ⟨rfl, rfl⟩) | (go_at_call 44; (with_reducible refine (HM.out _).mono ?_); rintro e w' ⟨rfl, rfl⟩))
          go_ret2
          exact ⟨by rw [H.out]; first | rfl | exact congrArg (fun n => Ending.returned (.tuple #[.int .i64 n, .int .i64 0])) hw.out, rfl⟩
        · have H : Hid (told (a * b) = (0, 16)) := (M.2 (by simp [c1, c2])).2 (by omega)
          have g1 : ((hi : Int) != 0) = false := by simp; omega
          have g2 : (9223372036854775808 : Int) < (lo : Int) := by omega
          clear M hl
          have d2 : decide (b < 0) = false := decide_eq_false c2
          go_enter Try.func24, Try.ntmps24
          go_wp2_with (first | (go_at_call 45; (first | (with_reducible refine (HA.out _).mono ?_) | (with_reducible refine (HB.out _).mono ?_)); rintro e w' ⟨rfl, rfl⟩) | (go_at_call 44; (with_reducible refine (HM.out _).mono ?_); rintro e w' ⟨rfl, rfl⟩))
          go_ret2
          exact ⟨by rw [H.out]; first | rfl | exact congrArg (fun n => Ending.returned (.tuple #[.int .i64 n, .int .i64 0])) hw.out, rfl⟩
      · have H : Hid (told (a * b) = (0, 16)) := (M.2 (by simp [c1, c2])).2 (by omega)
        have g1 : ((hi : Int) != 0) = true := by simp; omega
        clear M hl
        have d2 : decide (b < 0) = false := decide_eq_false c2
        go_enter Try.func24, Try.ntmps24
        go_wp2_with (first | (go_at_call 45; (first | (with_reducible refine (HA.out _).mono ?_) | (with_reducible refine (HB.out _).mono ?_)); rintro e w' ⟨rfl, rfl⟩) | (go_at_call 44; (with_reducible refine (HM.out _).mono ?_); rintro e w' ⟨rfl, rfl⟩))
        go_ret2
        exact ⟨by rw [H.out]; first | rfl | exact congrArg (fun n => Ending.returned (.tuple #[.int .i64 n, .int .i64 0])) hw.out, rfl⟩
  · by_cases c2 : b < 0
    · by_cases z : hi = 0
      · by_cases y : lo ≤ 9223372036854775808
        · have H : Hid (told (a * b) = (-(lo : Int), 0)) := (M.2 (by simp [c1, c2])).1 (by omega)
          have g1 : ((hi : Int) != 0) = false := by simp; omega
          have g2 : ¬ (9223372036854775808 : Int) < (lo : Int) := by omega
          have hw : Hid (wrap64 (IntKind.u64.wrap (-(lo : Int))) = -(lo : Int)) := by show _ = _; rw [IntKind.wrap_u64]; unfold wrap64; omega
          clear M hl
          have d1 : decide (a < 0) = false := decide_eq_false c1
          go_enter Try.func24, Try.ntmps24
          go_wp2_with (first | (go_at_call 45; (first | (with_reducible refine (HA.out _).mono ?_) | (with_reducible refine (HB.out _).mono ?_)); rintro e w' ⟨rfl, rfl⟩) | (go_at_call 44; (with_reducible refine (HM.out _).mono ?_); rintro e w' ⟨rfl, rfl⟩))
          go_ret2
          exact ⟨by rw [H.out]; first | rfl | exact congrArg (fun n => Ending.returned (.tuple #[.int .i64 n, .int .i64 0])) hw.out, rfl⟩
        · have H : Hid (told (a * b) = (0, 16)) := (M.2 (by simp [c1, c2])).2 (by omega)
          have g1 : ((hi : Int) != 0) = false := by simp; omega
          have g2 : (9223372036854775808 : Int) < (lo : Int) := by omega
          clear M hl
          have d1 : decide (a < 0) = false := decide_eq_false c1
          go_enter Try.func24, Try.ntmps24
          go_wp2_with (first | (go_at_call 45; (first | (with_reducible refine (HA.out _).mono ?_) | (with_reducible refine (HB.out _).mono ?_)); rintro e w' ⟨rfl, rfl⟩) | (go_at_call 44; (with_reducible refine (HM.out _).mono ?_); rintro e w' ⟨rfl, rfl⟩))
          go_ret2
          exact ⟨by rw [H.out]; first | rfl | exact congrArg (fun n => Ending.returned (.tuple #[.int .i64 n, .int .i64 0])) hw.out, rfl⟩
      · have H : Hid (told (a * b) = (0, 16)) := (M.2 (by simp [c1, c2])).2 (by omega)
        have g1 : ((hi : Int) != 0) = true := by simp; omega
        clear M hl
        have d1 : decide (a < 0) = false := decide_eq_false c1
        go_enter Try.func24, Try.ntmps24
        go_wp2_with (first | (go_at_call 45; (first | (with_reducible refine (HA.out _).mono ?_) | (with_reducible refine (HB.out _).mono ?_)); rintro e w' ⟨rfl, rfl⟩) | (go_at_call 44; (with_reducible refine (HM.out _).mono ?_); rintro e w' ⟨rfl, rfl⟩))
        go_ret2
        exact ⟨by rw [H.out]; first | rfl | exact congrArg (fun n => Ending.returned (.tuple #[.int .i64 n, .int .i64 0])) hw.out, rfl⟩
    · by_cases z : hi = 0
      · by_cases y : lo ≤ 9223372036854775807
        · have H : Hid (told (a * b) = ((lo : Int), 0)) := (M.1 (by simp [c1, c2])).1 (by omega)
          have g1 : ((hi : Int) != 0) = false := by simp; omega
          have g2 : ¬ (9223372036854775807 : Int) < (lo : Int) := by omega
          have hw : Hid (IntKind.i64.wrap (lo : Int) = (lo : Int)) := IntWalk.i64_in _ (by omega)
          clear M hl
          have d1 : decide (a < 0) = false := decide_eq_false c1
          have d2 : decide (b < 0) = false := decide_eq_false c2
          go_enter Try.func24, Try.ntmps24
          go_wp2_with (first | (go_at_call 45; (first | (with_reducible refine (HA.out _).mono ?_) | (with_reducible refine (HB.out _).mono ?_)); rintro e w' ⟨rfl, rfl⟩) | (go_at_call 44; (with_reducible refine (HM.out _).mono ?_); rintro e w' ⟨rfl, rfl⟩))
          go_ret2
          exact ⟨by rw [H.out]; first | rfl | exact congrArg (fun n => Ending.returned (.tuple #[.int .i64 n, .int .i64 0])) hw.out, rfl⟩
        · have H : Hid (told (a * b) = (0, 16)) := (M.1 (by simp [c1, c2])).2 (by omega)
          have g1 : ((hi : Int) != 0) = false := by simp; omega
          have g2 : (9223372036854775807 : Int) < (lo : Int) := by omega
          clear M hl
          have d1 : decide (a < 0) = false := decide_eq_false c1
          have d2 : decide (b < 0) = false := decide_eq_false c2
          go_enter Try.func24, Try.ntmps24
          go_wp2_with (first | (go_at_call 45; (first | (with_reducible refine (HA.out _).mono ?_) | (with_reducible refine (HB.out _).mono ?_)); rintro e w' ⟨rfl, rfl⟩) | (go_at_call 44; (with_reducible refine (HM.out _).mono ?_); rintro e w' ⟨rfl, rfl⟩))
          go_ret2
          exact ⟨by rw [H.out]; first | rfl | exact congrArg (fun n => Ending.returned (.tuple #[.int .i64 n, .int .i64 0])) hw.out, rfl⟩
      · have H : Hid (told (a * b) = (0, 16)) := (M.1 (by simp [c1, c2])).2 (by omega)
        have g1 : ((hi : Int) != 0) = true := by simp; omega
        clear M hl
        have d1 : decide (a < 0) = false := decide_eq_false c1
        have d2 : decide (b < 0) = false := decide_eq_false c2
        go_enter Try.func24, Try.ntmps24
        go_wp2_with (first | (go_at_call 45; (first | (with_reducible refine (HA.out _).mono ?_) | (with_reducible refine (HB.out _).mono ?_)); rintro e w' ⟨rfl, rfl⟩) | (go_at_call 44; (with_reducible refine (HM.out _).mono ?_); rintro e w' ⟨rfl, rfl⟩))
        go_ret2
        exact ⟨by rw [H.out]; first | rfl | exact congrArg (fun n => Ending.returned (.tuple #[.int .i64 n, .int .i64 0])) hw.out, rfl⟩
end Go.Proofs.Ytpmenmcigflkdaa
