/- Cores, the plain part of PlaceStays. -/
import Derived.Test.YtnjdomfhjhlamaaPw
namespace Go.Proofs.Ytnjdomfhjhlamaa
open Go.RowKit
set_option linter.unusedVariables false
set_option linter.unusedSimpArgs false

theorem ctake_none (s : CSt) (i : Nat) : ctake s i (-1) = s := by unfold ctake; rw [if_neg (fun h => h.1 rfl)]
theorem cph_none (f : Nat → Int) (s : CSt) (n : Nat) (h : ∀ j, j < n → f j = -1) : cph f s n = s := by
  induction n with
  | zero => rfl
  | succ n ih => show ctake (cph f s n) n (f n) = s; rw [ih (fun j hj => h j (by omega)), h n (by omega), ctake_none]
/-- Each has his last core, all distinct: behind the round each is there. -/
theorem cph_last (La : Nat → Int) (n : Nat) (h0 : ∀ j, j < n → 0 ≤ La j) (hd : ∀ j k, j < n → k < n → La j = La k → j = k) (i : Nat) (hi : i ≤ n) :
    (∀ j, (cph La cinit i).1 j = if j < i then La j else -1) ∧ (∀ c, (cph La cinit i).2 c = true ↔ ∃ j, j < i ∧ La j = c) := by
  induction i with
  | zero => exact ⟨fun j => by simp [cph, cinit], fun c => by simp [cph, cinit]⟩
  | succ i ih =>
    obtain ⟨a, b⟩ := ih (by omega)
    have hf : (cph La cinit i).2 (La i) = false := by
      rw [← Bool.not_eq_true, b]
      rintro ⟨j, hj, e⟩
      have := hd j i (by omega) (by omega) e
      omega
    have ho : (cph La cinit i).1 i = -1 := by rw [a, if_neg (by omega)]
    have hne : La i ≠ -1 := by have := h0 i (by omega); omega
    have e : cph La cinit (i + 1) = (fun j => if j = i then La i else (cph La cinit i).1 j, fun x => if x = La i then true else (cph La cinit i).2 x) := by
      show ctake (cph La cinit i) i (La i) = _
      unfold ctake
      rw [if_pos ⟨hne, ho, hf⟩]
    rw [e]
    refine ⟨fun j => ?_, fun c => ?_⟩
    · show (if j = i then La i else (cph La cinit i).1 j) = _
      by_cases h : j = i
      · subst h; rw [if_pos rfl, if_pos (by omega)]
      · rw [if_neg h, a]
        by_cases h2 : j < i
        · rw [if_pos h2, if_pos (by omega)]
        · rw [if_neg h2, if_neg (by omega)]
    · show (if c = La i then true else (cph La cinit i).2 c) = true ↔ _
      by_cases h : c = La i
      · rw [if_pos h]; exact ⟨fun _ => ⟨i, by omega, h.symm⟩, fun _ => rfl⟩
      · rw [if_neg h, b]
        constructor
        · rintro ⟨j, hj, ej⟩; exact ⟨j, by omega, ej⟩
        · rintro ⟨j, hj, ej⟩
          by_cases h2 : j = i
          · subst h2; exact absurd ej.symm h
          · exact ⟨j, by omega, ej⟩
theorem cph3_none (s : CSt) (n : Nat) (h : ∀ j, j < n → s.1 j ≠ -1) : cph3 s n = (s, 0) := by
  induction n with
  | zero => rfl
  | succ n ih =>
    rw [cph3_succ, ih (fun j hj => h j (by omega)), if_neg (h n (by omega))]
theorem stays (n : Nat) (Pn La : Nat → Int) (hp : ∀ j, j < n → Pn j = -1) (h0 : ∀ j, j < n → 0 ≤ La j) (hd : ∀ j k, j < n → k < n → La j = La k → j = k) : ∀ j, j < n → casg n Pn La j = La j := by
  intro j hj
  obtain ⟨a, b⟩ := cph_last La n h0 hd n (Nat.le_refl _)
  show (cph3 (cph La (cph Pn cinit n) n) n).1.1 j = La j
  rw [cph_none Pn cinit n hp, cph3_none _ n (fun k hk => by rw [a, if_pos hk]; have := h0 k hk; omega)]
  show (cph La cinit n).1 j = La j
  rw [a, if_pos hj]
theorem cmov_zero (La c : Nat → Int) (k : Nat) (h : ∀ j, j < k → c j = La j) : cmov La c k = 0 := by
  induction k with
  | zero => rfl
  | succ k ih =>
    simp only [cmov]
    rw [ih (fun j hj => h j (by omega)), if_neg (fun h' => h'.2 (h k (by omega)).symm)]
theorem cmov_pos (La c : Nat → Int) (k i : Nat) (hi : i < k) (h1 : La i ≠ -1) (h2 : La i ≠ c i) : 0 < cmov La c k := by
  induction k with
  | zero => omega
  | succ k ih =>
    simp only [cmov]
    by_cases e : i = k
    · subst e; rw [if_pos ⟨h1, h2⟩]; omega
    · have := ih (by omega); omega
theorem stays_zero (n : Nat) (Pn La : Nat → Int) (hp : ∀ j, j < n → Pn j = -1) (h0 : ∀ j, j < n → 0 ≤ La j) (hd : ∀ j k, j < n → k < n → La j = La k → j = k) : cmov La (casg n Pn La) n = 0 :=
  cmov_zero _ _ _ (stays n Pn La hp h0 hd)

theorem cff_below (t : Int → Bool) (k f : Nat) (h : ∀ c : Nat, c < f → t c = true) : ∀ c : Nat, c < cff t k f → t c = true := by
  induction k generalizing f with
  | zero => exact h
  | succ k ih =>
    simp only [cff]
    split
    · next ht =>
      exact ih (f + 1) (fun c hc => by
        by_cases e : c = f
        · subst e; exact ht
        · exact h c (by omega))
    · exact h
/-- The last round keeps cores apart. -/
theorem cph3_ok {m : Int} {n : Nat} {s : CSt} (h : COk m n s) (hn : (n : Int) ≤ m) (i : Nat) (hi : i ≤ n) : COk m n (cph3 s i).1 ∧ (∀ c : Nat, c < (cph3 s i).2 → (cph3 s i).1.2 c = true) := by
  induction i with
  | zero => exact ⟨h, fun c hc => by have : c < 0 := hc; omega⟩
  | succ i ih =>
    obtain ⟨a, b⟩ := ih (by omega)
    rw [cph3_succ]
    by_cases ho : (cph3 s i).1.1 i = -1
    · rw [if_pos ho]
      have hb := cff_below (cph3 s i).1.2 2000 (cph3 s i).2 b
      have hl := free_lt a (show i < n by omega) ho hb
      exact ⟨a.take (by omega) (by omega) (by omega), fun c hc => ctake_keeps (hb c hc)⟩
    · rw [if_neg ho]; exact ⟨a, b⟩
theorem casg_ok {m : Int} {n : Nat} {D Pn La : Nat → Int} (h : Chk m n D Pn La) : COk m n (cph3 (casg2 n Pn La) n).1 :=
  (cph3_ok (((COk.init m n).round (fun j hj => (h.2.2.2 j hj).1) n (Nat.le_refl _)).round (fun j hj => (h.2.2.2 j hj).2.1) n (Nat.le_refl _)) h.2.2.1 n (Nat.le_refl _)).1
/-- Two that ran on one core: one moves. -/
theorem moves_pos {m : Int} {n : Nat} {D Pn La : Nat → Int} (h : Chk m n D Pn La) {i j : Nat} (hi : i < n) (hj : j < n) (hne : i ≠ j) (he : La i = La j) (h0 : 0 ≤ La i) : 0 < cmov La (casg n Pn La) n := by
  by_cases hi2 : La i = casg n Pn La i
  · by_cases hj2 : La j = casg n Pn La j
    · have := (casg_ok h).2.2 i j hi hj (by show casg n Pn La i = casg n Pn La j; omega) (by show casg n Pn La i ≠ -1; omega)
      exact absurd this hne
    · exact cmov_pos _ _ _ j hj (by omega) hj2
  · exact cmov_pos _ _ _ i hi (by omega) hi2
end Go.Proofs.Ytnjdomfhjhlamaa
