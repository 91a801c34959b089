/- Cores, the plain part: the three rounds of place.Assign. -/
import Derived.Test.YtnjdomfhjhlamaaPr
namespace Go.Proofs.Ytnjdomfhjhlamaa
open Go.RowKit
set_option linter.unusedVariables false
set_option linter.unusedSimpArgs false

def cph (f : Nat → Int) (s : CSt) : Nat → CSt
  | 0 => s
  | i + 1 => ctake (cph f s i) i (f i)
/-- The first core from fr on that is not taken. -/
def cff (t : Int → Bool) : Nat → Nat → Nat
  | 0, fr => fr
  | k + 1, fr => if t fr then cff t k (fr + 1) else fr
def cph3 (s : CSt) : Nat → CSt × Nat
  | 0 => (s, 0)
  | i + 1 => if (cph3 s i).1.1 i = -1 then (ctake (cph3 s i).1 i (cff (cph3 s i).1.2 2000 (cph3 s i).2), cff (cph3 s i).1.2 2000 (cph3 s i).2) else cph3 s i
def cinit : CSt := (fun _ => -1, fun _ => false)
def casg2 (n : Nat) (Pn La : Nat → Int) : CSt := cph La (cph Pn cinit n) n
/-- Where each runs. -/
def casg (n : Nat) (Pn La : Nat → Int) : Nat → Int := (cph3 (casg2 n Pn La) n).1.1

/-- Each that runs is on a core of m that is taken; each core that is taken is one's; no two are on one. -/
def COk (m : Int) (n : Nat) (s : CSt) : Prop := (∀ j, j < n → s.1 j = -1 ∨ (0 ≤ s.1 j ∧ s.1 j < m ∧ s.2 (s.1 j) = true)) ∧ (∀ c, s.2 c = true → 0 ≤ c ∧ ∃ j, j < n ∧ s.1 j = c) ∧ (∀ j k, j < n → k < n → s.1 j = s.1 k → s.1 j ≠ -1 → j = k)
theorem COk.init (m : Int) (n : Nat) : COk m n cinit := by
  refine ⟨fun j _ => .inl rfl, ?_, ?_⟩
  · intro c h; cases h
  · intro j k _ _ _ h; exact absurd rfl h
theorem COk.take {m : Int} {n i : Nat} {s : CSt} {c : Int} (h : COk m n s) (hi : i < n) (c0 : -1 ≤ c) (c1 : c < m) : COk m n (ctake s i c) := by
  unfold ctake
  by_cases hc : c ≠ -1 ∧ s.1 i = -1 ∧ s.2 c = false
  · rw [if_pos hc]
    obtain ⟨h1, h2, h3⟩ := h
    obtain ⟨g1, g2, g3⟩ := hc
    have hne : ∀ j, j < n → s.1 j ≠ c := fun j hj e => by
      rcases h1 j hj with h | ⟨_, _, h⟩
      · omega
      · rw [e, g3] at h; cases h
    refine ⟨fun j hj => ?_, fun x hx => ?_, fun j k hj hk e hn => ?_⟩
    · show (if j = i then c else s.1 j) = -1 ∨ (0 ≤ (if j = i then c else s.1 j) ∧ (if j = i then c else s.1 j) < m ∧ (if (if j = i then c else s.1 j) = c then true else s.2 (if j = i then c else s.1 j)) = true)
      by_cases e : j = i
      · rw [if_pos e, if_pos rfl]; exact .inr ⟨by omega, c1, rfl⟩
      · rw [if_neg e]
        rcases h1 j hj with h | ⟨a, b, d⟩
        · exact .inl h
        · exact .inr ⟨a, b, by rw [if_neg (hne j hj)]; exact d⟩
    · have hx' : (if x = c then true else s.2 x) = true := hx
      show 0 ≤ x ∧ ∃ j, j < n ∧ (if j = i then c else s.1 j) = x
      by_cases e : x = c
      · exact ⟨by omega, i, hi, by rw [if_pos rfl, e]⟩
      · rw [if_neg e] at hx'
        obtain ⟨x0, j, hj, ej⟩ := h2 x hx'
        refine ⟨x0, j, hj, ?_⟩
        rw [if_neg (fun e2 => by subst e2; omega)]; exact ej
    · have e' : (if j = i then c else s.1 j) = (if k = i then c else s.1 k) := e
      have hn' : (if j = i then c else s.1 j) ≠ -1 := hn
      by_cases ej : j = i
      · by_cases ek : k = i
        · omega
        · rw [if_pos ej, if_neg ek] at e'; exact absurd e'.symm (hne k hk)
      · by_cases ek : k = i
        · rw [if_neg ej, if_pos ek] at e'; exact absurd e' (hne j hj)
        · rw [if_neg ej, if_neg ek] at e'; rw [if_neg ej] at hn'; exact h3 j k hj hk e' hn'
  · rw [if_neg hc]; exact h
theorem COk.round {m : Int} {n : Nat} {f : Nat → Int} {s : CSt} (h : COk m n s) (hf : ∀ j, j < n → -1 ≤ f j ∧ f j < m) (i : Nat) (hi : i ≤ n) : COk m n (cph f s i) := by
  induction i with
  | zero => exact h
  | succ i ih => exact (ih (by omega)).take (by omega) (hf i (by omega)).1 (hf i (by omega)).2

/-- How many of the first n are on a core below f. -/
def cbel (o : Nat → Int) (f : Nat) : Nat → Nat
  | 0 => 0
  | j + 1 => cbel o f j + if 0 ≤ o j ∧ o j < f then 1 else 0
theorem cbel_le (o : Nat → Int) (f n : Nat) : cbel o f n ≤ n := by
  induction n with
  | zero => exact Nat.le_refl _
  | succ n ih => simp only [cbel]; split <;> omega
theorem cbel_mono (o : Nat → Int) (f n : Nat) : cbel o f n ≤ cbel o (f + 1) n := by
  induction n with
  | zero => exact Nat.le_refl _
  | succ n ih =>
    simp only [cbel]
    by_cases h : 0 ≤ o n ∧ o n < f
    · rw [if_pos h, if_pos (by omega)]; omega
    · rw [if_neg h]; split <;> omega
theorem cbel_step (o : Nat → Int) (f n : Nat) (h : ∃ j, j < n ∧ o j = f) : cbel o f n + 1 ≤ cbel o (f + 1) n := by
  induction n with
  | zero => obtain ⟨j, hj, _⟩ := h; omega
  | succ n ih =>
    obtain ⟨j, hj, e⟩ := h
    simp only [cbel]
    by_cases hn : o n = f
    · rw [if_neg (by omega), if_pos (by omega)]
      have := cbel_mono o f n
      omega
    · have := ih ⟨j, by
        by_cases e2 : j = n
        · subst e2; exact absurd e hn
        · omega, e⟩
      by_cases h2 : 0 ≤ o n ∧ o n < f
      · rw [if_pos h2, if_pos (by omega)]; omega
      · rw [if_neg h2, if_neg (by omega)]; omega
theorem cbel_all (o : Nat → Int) (f n : Nat) (h : ∀ c, c < f → ∃ j, j < n ∧ o j = (c : Int)) : f ≤ cbel o f n := by
  induction f with
  | zero => omega
  | succ f ih =>
    have a := ih (fun c hc => h c (by omega))
    have b := cbel_step o f n (h f (by omega))
    omega
theorem cbel_miss (o : Nat → Int) (f n i : Nat) (hi : i < n) (h : o i = -1) : cbel o f n + 1 ≤ n := by
  induction n with
  | zero => omega
  | succ n ih =>
    simp only [cbel]
    by_cases e : i = n
    · subst e
      rw [if_neg (by omega)]
      have := cbel_le o f i
      omega
    · have := ih (by omega)
      split <;> omega
/-- While one has no core, a core that is free lies below m. -/
theorem free_lt {m : Int} {n i fr : Nat} {s : CSt} (h : COk m n s) (hi : i < n) (hs : s.1 i = -1) (hf : ∀ c : Nat, c < fr → s.2 c = true) : fr < n := by
  have a := cbel_all s.1 fr n (fun c hc => (h.2.1 c (hf c hc)).2)
  have b := cbel_miss s.1 fr n i hi hs
  omega
end Go.Proofs.Ytnjdomfhjhlamaa
