/- Plain part of PlaceHolds: what is assigned holds; who may stay, and is the first that may, stays. -/
import Derived.Test.YtnjdomfhjhlamaaPh
namespace Go.Proofs.Ytnjdomfhjhlamaa
set_option linter.unusedVariables false

theorem ctake_at {s : CSt} {i : Nat} {c : Int} (h : c ≠ -1 ∧ s.1 i = -1 ∧ s.2 c = false) : (ctake s i c).1 i = c := by
  unfold ctake; rw [if_pos h]; exact if_pos rfl
theorem ctake_not {s : CSt} {i : Nat} {c : Int} (h : ¬ (c ≠ -1 ∧ s.1 i = -1 ∧ s.2 c = false)) : ctake s i c = s := by
  unfold ctake; rw [if_neg h]
theorem ctake_kept {s : CSt} {i j : Nat} {c : Int} (h : s.1 j ≠ -1) : (ctake s i c).1 j = s.1 j := by
  by_cases e : j = i
  · subst e; rw [ctake_not (fun h' => h h'.2.1)]
  · exact ctake_other _ _ _ _ e
theorem ctake_in {s : CSt} {i : Nat} {c x : Int} (h : (ctake s i c).2 x = true) : s.2 x = true ∨ (x = c ∧ c ≠ -1 ∧ s.1 i = -1 ∧ s.2 c = false) := by
  by_cases hc : c ≠ -1 ∧ s.1 i = -1 ∧ s.2 c = false
  · unfold ctake at h
    rw [if_pos hc] at h
    by_cases e : x = c
    · exact .inr ⟨e, hc⟩
    · simp only [if_neg e] at h; exact .inl h
  · rw [ctake_not hc] at h; exact .inl h

/-- Behind the round of pins. -/
theorem round1 (n : Nat) (Pn : Nat → Int) (hd : ∀ i, i < n → Pn i ≠ -1 → ∀ k, k < i → Pn k ≠ Pn i) (i : Nat) (hi : i ≤ n) :
    (∀ j, (cph Pn cinit i).1 j = if j < i then Pn j else -1) ∧ (∀ x, (cph Pn cinit i).2 x = true → x ≠ -1 ∧ ∃ j, j < i ∧ Pn j = x) := by
  induction i with
  | zero => exact ⟨fun j => rfl, fun x hx => by cases hx⟩
  | succ i ih =>
    obtain ⟨a, b⟩ := ih (by omega)
    have hs : (cph Pn cinit i).1 i = -1 := by rw [a]; exact if_neg (Nat.lt_irrefl _)
    by_cases hp : Pn i = -1
    · have e : cph Pn cinit (i + 1) = cph Pn cinit i := by
        show ctake _ i (Pn i) = _
        rw [hp, ctake_none]
      rw [e]
      refine ⟨fun j => ?_, fun x hx => ?_⟩
      · rw [a]
        by_cases e : j = i
        · subst e; rw [if_neg (Nat.lt_irrefl _), if_pos (by omega), hp]
        · by_cases h : j < i
          · rw [if_pos h, if_pos (by omega)]
          · rw [if_neg h, if_neg (by omega)]
      · obtain ⟨h1, j, h2, h3⟩ := b x hx
        exact ⟨h1, j, by omega, h3⟩
    · have hf : (cph Pn cinit i).2 (Pn i) = false := by
        cases h : (cph Pn cinit i).2 (Pn i)
        · rfl
        · obtain ⟨_, j, hj, e⟩ := b _ h
          exact absurd e (hd i (by omega) hp j hj)
      refine ⟨fun j => ?_, fun x hx => ?_⟩
      · show (ctake _ i (Pn i)).1 j = _
        by_cases e : j = i
        · subst e; rw [ctake_at ⟨hp, hs, hf⟩, if_pos (by omega)]
        · rw [ctake_other _ _ _ _ e, a]
          by_cases h : j < i
          · rw [if_pos h, if_pos (by omega)]
          · rw [if_neg h, if_neg (by omega)]
      · rcases ctake_in hx with h | ⟨e, h⟩
        · obtain ⟨h1, j, h2, h3⟩ := b x h
          exact ⟨h1, j, by omega, h3⟩
        · exact ⟨by rw [e]; exact hp, i, by omega, e.symm⟩
/-- In the round of last cores. -/
theorem round2 (n : Nat) (Pn La : Nat → Int) (hd : ∀ i, i < n → Pn i ≠ -1 → ∀ k, k < i → Pn k ≠ Pn i) (i : Nat) (hi : i ≤ n) :
    (∀ j, i ≤ j → j < n → (cph La (cph Pn cinit n) i).1 j = Pn j) ∧ (∀ j, j < n → Pn j ≠ -1 → (cph La (cph Pn cinit n) i).1 j = Pn j) ∧
    (∀ x, (cph La (cph Pn cinit n) i).2 x = true → x ≠ -1 ∧ ((∃ j, j < n ∧ Pn j = x) ∨ ∃ j, j < i ∧ Pn j = -1 ∧ La j = x ∧ (cph La (cph Pn cinit n) i).1 j = x)) ∧
    (∀ j, j < i → Pn j = -1 → La j ≠ -1 → (cph La (cph Pn cinit n) i).1 j = La j ∨ (∃ k, k < n ∧ Pn k = La j) ∨ ∃ k, k < j ∧ Pn k = -1 ∧ La k = La j ∧ (cph La (cph Pn cinit n) i).1 k = La j) := by
  induction i with
  | zero =>
    obtain ⟨a, b⟩ := round1 n Pn hd n (Nat.le_refl _)
    refine ⟨fun j _ hj => ?_, fun j hj _ => ?_, fun x hx => ?_, fun j hj => by omega⟩
    · show (cph Pn cinit n).1 j = _
      rw [a, if_pos hj]
    · show (cph Pn cinit n).1 j = _
      rw [a, if_pos hj]
    · obtain ⟨h1, h2⟩ := b x hx
      exact ⟨h1, .inl h2⟩
  | succ i ih =>
    obtain ⟨a1, a2, a3, a4⟩ := ih (by omega)
    generalize hs : cph La (cph Pn cinit n) i = s at *
    have e : cph La (cph Pn cinit n) (i + 1) = ctake s i (La i) := by rw [← hs]; rfl
    rw [e]
    clear e hs
    by_cases hc : La i ≠ -1 ∧ s.1 i = -1 ∧ s.2 (La i) = false
    · have hpi : Pn i = -1 := by
        apply Classical.byContradiction
        intro h
        have := a2 i (by omega) h
        rw [hc.2.1] at this
        exact h this.symm
      refine ⟨fun j h1 h2 => ?_, fun j hj hp => ?_, fun x hx => ?_, fun j hj hp hl => ?_⟩
      · rw [ctake_other _ _ _ _ (by omega)]; exact a1 j (by omega) h2
      · rw [ctake_other _ _ _ _ (by intro e; subst e; exact hp hpi)]; exact a2 j hj hp
      · rcases ctake_in hx with h | ⟨e, h⟩
        · obtain ⟨h1, h2⟩ := a3 x h
          refine ⟨h1, h2.imp id ?_⟩
          rintro ⟨j, g1, g2, g3, g4⟩
          exact ⟨j, by omega, g2, g3, by rw [ctake_other _ _ _ _ (by omega)]; exact g4⟩
        · exact ⟨by rw [e]; exact hc.1, .inr ⟨i, by omega, hpi, e.symm, by rw [ctake_at hc, e]⟩⟩
      · by_cases e : j = i
        · subst e; exact .inl (ctake_at hc)
        · rw [ctake_other _ _ _ _ e]
          refine (a4 j (by omega) hp hl).imp id (Or.imp id ?_)
          rintro ⟨k, g1, g2, g3, g4⟩
          exact ⟨k, g1, g2, g3, by rw [ctake_other _ _ _ _ (by omega)]; exact g4⟩
    · rw [ctake_not hc]
      refine ⟨fun j h1 h2 => a1 j (by omega) h2, a2, fun x hx => ?_, fun j hj hp hl => ?_⟩
      · obtain ⟨h1, h2⟩ := a3 x hx
        refine ⟨h1, h2.imp id ?_⟩
        rintro ⟨j, g1, g2⟩
        exact ⟨j, by omega, g2⟩
      · by_cases e : j = i
        · subst e
          have hsj : s.1 j = -1 := by rw [a1 j (Nat.le_refl _) (by omega), hp]
          have ht : s.2 (La j) = true := by
            cases h : s.2 (La j)
            · exact absurd ⟨hl, hsj, h⟩ hc
            · rfl
          exact .inr ((a3 _ ht).2)
        · exact a4 j (by omega) hp hl
theorem cff_stop (t : Int → Bool) (k f : Nat) : t (cff t k f) = false ∨ cff t k f = f + k := by
  induction k generalizing f with
  | zero => exact .inr rfl
  | succ k ih =>
    simp only [cff]
    cases h : t f
    · rw [if_neg (by simp)]; exact .inl h
    · rw [if_pos rfl]
      rcases ih (f + 1) with h | h
      · exact .inl h
      · exact .inr (by omega)
/-- The last round keeps what was given, and gives each a core. -/
theorem round3 {m : Int} {n : Nat} {s : CSt} (h : COk m n s) (hn : (n : Int) ≤ m) (hm : m ≤ 1024) (i : Nat) (hi : i ≤ n) : (∀ j, s.1 j ≠ -1 → (cph3 s i).1.1 j = s.1 j) ∧ ∀ j, j < i → (cph3 s i).1.1 j ≠ -1 := by
  induction i with
  | zero => exact ⟨fun j _ => rfl, fun j hj => by omega⟩
  | succ i ih =>
    obtain ⟨a, b⟩ := ih (by omega)
    obtain ⟨c1, c2⟩ := cph3_ok h hn i (by omega)
    rw [cph3_succ]
    by_cases ho : (cph3 s i).1.1 i = -1
    · rw [if_pos ho]
      have hb := cff_below (cph3 s i).1.2 2000 (cph3 s i).2 c2
      have hl := free_lt c1 (show i < n by omega) ho hb
      have hf : (cph3 s i).1.2 (cff (cph3 s i).1.2 2000 (cph3 s i).2 : Nat) = false := by
        rcases cff_stop (cph3 s i).1.2 2000 (cph3 s i).2 with h | h
        · exact h
        · omega
      refine ⟨fun j hj => ?_, fun j hj => ?_⟩
      · show (ctake _ i _).1 j = _
        rw [ctake_kept (by rw [a j hj]; exact hj), a j hj]
      · show (ctake _ i _).1 j ≠ -1
        by_cases e : j = i
        · subst e
          rw [ctake_at ⟨by omega, ho, hf⟩]
          omega
        · rw [ctake_other _ _ _ _ e]
          exact b j (by omega)
    · rw [if_neg ho]
      exact ⟨a, fun j hj => by
        by_cases e : j = i
        · subst e; exact ho
        · exact b j (by omega)⟩
section
variable {m : Int} {n : Nat} {D Pn La : Nat → Int}
theorem casg2_ok (h : Chk m n D Pn La) : COk m n (casg2 n Pn La) :=
  ((COk.init m n).round (fun j hj => (h.2.2.2 j hj).1) n (Nat.le_refl _)).round (fun j hj => (h.2.2.2 j hj).2.1) n (Nat.le_refl _)
theorem casg_hld (h : Chk m n D Pn La) : Hld m n D Pn La n (casg n Pn La) := by
  refine ⟨h, rfl, fun i hi => ?_⟩
  have hd := fun i hi => (h.2.2.2 i hi).2.2.2
  obtain ⟨r1, r2⟩ := round3 (casg2_ok h) h.2.2.1 h.2.1 n (Nat.le_refl _)
  obtain ⟨_, q2, _, _⟩ := round2 n Pn La hd n (Nat.le_refl _)
  obtain ⟨k1, _, k3⟩ := casg_ok h
  have hne : casg n Pn La i ≠ -1 := r2 i hi
  rcases k1 i hi with g | ⟨g1, g2, _⟩
  · exact absurd g hne
  · refine ⟨g1, g2, fun k hk e => ?_, fun hp => ?_⟩
    · have := k3 k i (by omega) hi e (r2 k (by omega))
      omega
    · have e : (casg2 n Pn La).1 i = Pn i := q2 i hi hp
      have := r1 i (by rw [e]; exact hp)
      show Pn i = (cph3 (casg2 n Pn La) n).1.1 i
      rw [this, e]
/-- Who may stay, and is the first that may, stays. -/
theorem casg_stay (h : Chk m n D Pn La) {i : Nat} (hi : i < n) (hp : Pn i < 0) (hl : 0 ≤ La i) (hc : casg n Pn La i ≠ La i) : ∃ k, k < n ∧ (Pn k = La i ∨ (k < i ∧ Pn k < 0 ∧ casg n Pn La k = La i ∧ La k = La i)) := by
  have hd := fun i hi => (h.2.2.2 i hi).2.2.2
  have hp1 : Pn i = -1 := by have := (h.2.2.2 i hi).1.1; omega
  obtain ⟨r1, r2⟩ := round3 (casg2_ok h) h.2.2.1 h.2.1 n (Nat.le_refl _)
  obtain ⟨_, _, _, q4⟩ := round2 n Pn La hd n (Nat.le_refl _)
  rcases q4 i hi hp1 (by omega) with g | ⟨k, g1, g2⟩ | ⟨k, g1, g2, g3, g4⟩
  · have e := r1 i (by rw [show (casg2 n Pn La).1 i = La i from g]; omega)
    exact absurd (e.trans g) hc
  · exact ⟨k, g1, .inl g2⟩
  · refine ⟨k, by omega, .inr ⟨g1, by omega, ?_, g3⟩⟩
    exact (r1 k (by rw [show (casg2 n Pn La).1 k = La i from g4]; omega)).trans g4
end
end Go.Proofs.Ytnjdomfhjhlamaa
