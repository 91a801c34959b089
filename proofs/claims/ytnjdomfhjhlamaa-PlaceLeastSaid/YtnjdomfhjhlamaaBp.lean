/- Plain part of PlaceLeast: no cores that hold the runners have fewer moves than those assigned; the document's Best, as a number. -/
import Derived.Test.YtnjdomfhjhlamaaPp
namespace Go.Proofs.Ytnjdomfhjhlamaa
set_option linter.unusedVariables false
set_option linter.unusedSimpArgs false

/-- How many of the first k are so. -/
def cn (p : Nat → Bool) : Nat → Nat
  | 0 => 0
  | k + 1 => cn p k + if p k = true then 1 else 0
theorem cn_out (q : Nat → Bool) (j N : Nat) (hj : j < N) (h : q j = true) : cn q N = cn (fun x => if x = j then false else q x) N + 1 := by
  have lo : ∀ k, k ≤ j → cn (fun x => if x = j then false else q x) k = cn q k := by
    intro k hk
    induction k with
    | zero => rfl
    | succ k ih =>
      simp only [cn]
      have e : (if k = j then false else q k) = q k := if_neg (by omega)
      simp only [ih (show k ≤ j by omega), e]
  induction N with
  | zero => omega
  | succ N ih =>
    simp only [cn]
    by_cases e : j = N
    · subst e
      have e : (if j = j then false else q j) = false := if_pos rfl
      simp only [lo j (Nat.le_refl _), e, h]; simp
    · have e2 : (if N = j then false else q N) = q N := if_neg (by omega)
      have := ih (by omega)
      simp only [e2]; omega
/-- As many, if each goes to one of its own. -/
theorem cn_inj (N : Nat) (p : Nat → Bool) (R : Nat → Nat → Prop) (n : Nat) : ∀ q : Nat → Bool, (∀ i, i < n → p i = true → ∃ j, j < N ∧ q j = true ∧ R i j) → (∀ i i' j, i < n → i' < n → p i = true → p i' = true → R i j → R i' j → i = i') → cn p n ≤ cn q N := by
  induction n with
  | zero => intro q _ _; exact Nat.zero_le _
  | succ n ih =>
    intro q h1 h2
    simp only [cn]
    by_cases hp : p n = true
    · rw [if_pos hp]
      obtain ⟨j, hj, hq, hr⟩ := h1 n (by omega) hp
      rw [cn_out q j N hj hq]
      have := ih (fun x => if x = j then false else q x) (fun i hi hpi => by
        obtain ⟨j', hj', hq', hr'⟩ := h1 i (by omega) hpi
        refine ⟨j', hj', ?_, hr'⟩
        by_cases e : j' = j
        · subst e
          have := h2 i n j' (by omega) (by omega) hpi hp hr' hr
          omega
        · show (if j' = j then false else q j') = true
          rw [if_neg e]; exact hq') (fun i i' j hi hi' => h2 i i' j (by omega) (by omega))
      omega
    · rw [if_neg hp]
      exact ih q (fun i hi => h1 i (by omega)) (fun i i' j hi hi' => h2 i i' j (by omega) (by omega))
def nlast (La : Nat → Int) (j : Nat) : Bool := La j != -1
def nstay (La c : Nat → Int) (j : Nat) : Bool := (La j != -1) && (La j == c j)
theorem cmov_stay (La c : Nat → Int) (k : Nat) : cmov La c k + cn (nstay La c) k = cn (nlast La) k := by
  induction k with
  | zero => rfl
  | succ k ih =>
    simp only [cmov, cn]
    by_cases h1 : La k = -1
    · rw [if_neg (by simp [h1]), if_neg (by simp [nstay, h1]), if_neg (by simp [nlast, h1])]; omega
    · by_cases h2 : La k = c k
      · rw [if_neg (by simp [h2]), if_pos (by simp [nstay, ← h2, h1]), if_pos (by simp [nlast, h1])]; omega
      · rw [if_pos ⟨h1, h2⟩, if_neg (by simp [nstay, h2]), if_pos (by simp [nlast, h1])]; omega
section
variable {m : Int} {n : Nat} {D Pn La : Nat → Int}
theorem hone_inj {c : Nat → Int} (h : ∀ i, i < n → HOne m Pn c i) {i j : Nat} (hi : i < n) (hj : j < n) (e : c i = c j) : i = j := by
  rcases Nat.lt_trichotomy i j with x | x | x
  · exact absurd e ((h j hj).2.2.1 i x)
  · exact x
  · exact absurd e.symm ((h i hi).2.2.1 j x)
/-- NO CORES HAVE FEWER MOVES. -/
theorem casg_least (h : Chk m n D Pn La) {c : Nat → Int} (hc : ∀ i, i < n → HOne m Pn c i) : cmov La (casg n Pn La) n ≤ cmov La c n := by
  have hh := (casg_hld h).2.2
  have key : cn (nstay La c) n ≤ cn (nstay La (casg n Pn La)) n := by
    refine cn_inj n _ (fun i j => La j = La i) n _ (fun i hi hp => ?_) (fun i i' j hi hi' hp hp' e1 e2 => ?_)
    · simp only [nstay, Bool.and_eq_true, bne_iff_ne, ne_eq, beq_iff_eq] at hp
      have hl : 0 ≤ La i := by have := (h.2.2.2 i hi).2.1.1; omega
      by_cases g : casg n Pn La i = La i
      · exact ⟨i, hi, by simp [nstay, hp.1, g], rfl⟩
      · by_cases p : Pn i < 0
        · obtain ⟨k, hk, x | ⟨x1, x2, x3, x4⟩⟩ := casg_stay h hi p hl g
          · have a := (hc k hk).2.2.2 (by omega)
            have b := hone_inj hc hk hi (by omega)
            subst b
            omega
          · exact ⟨k, hk, by simp only [nstay, Bool.and_eq_true, bne_iff_ne, ne_eq, beq_iff_eq]; omega, x4⟩
        · have a := (hc i hi).2.2.2 (by omega)
          have b := (hh i hi).2.2.2 (by omega)
          omega
    · simp only [nstay, Bool.and_eq_true, bne_iff_ne, ne_eq, beq_iff_eq] at hp hp'
      exact hone_inj hc hi hi' (by omega)
  have a := cmov_stay La c n
  have b := cmov_stay La (casg n Pn La) n
  omega
end
/-! ### Best -/
def bfold (f : Nat → Option Int) : Nat → Int
  | 0 => 1000
  | c + 1 => match f c with
    | none => bfold f c
    | some x => if x < bfold f c then x else bfold f c
theorem bfold_le (f : Nat → Option Int) (m c : Nat) (x : Int) (hc : c < m) (h : f c = some x) : bfold f m ≤ x := by
  induction m with
  | zero => omega
  | succ m ih =>
    by_cases e : c = m
    · subst e
      simp only [bfold, h]
      split <;> omega
    · have := ih (by omega)
      simp only [bfold]
      split
      · exact this
      · split <;> omega
theorem bfold_ge (f : Nat → Option Int) (m : Nat) (L : Int) (h0 : L ≤ 1000) (h : ∀ c x, c < m → f c = some x → L ≤ x) : L ≤ bfold f m := by
  induction m with
  | zero => exact h0
  | succ m ih =>
    have := ih (fun c x hc => h c x (by omega))
    simp only [bfold]
    split
    · exact this
    · next x hx => have := h m x (by omega) hx; split <;> omega
/-- A row with one more. -/
def ext (cs : Nat → Int) (i : Nat) (c : Int) (j : Nat) : Int := if j = i then c else cs j
theorem ext_lt (cs : Nat → Int) {i j : Nat} (c : Int) (h : j < i) : ext cs i c j = cs j := if_neg (by omega)
theorem ext_at (cs : Nat → Int) (i : Nat) (c : Int) : ext cs i c i = c := if_pos rfl
/-- Is c the pin of one of the t behind i? -/
def plat (Pn : Nat → Int) (i : Nat) (c : Int) : Nat → Bool
  | 0 => false
  | t + 1 => plat Pn i c t || (Pn (i + 1 + t) == c)
theorem plat_no {Pn : Nat → Int} {i : Nat} {c : Int} {t : Nat} (h : ∀ k, i < k → k < i + 1 + t → Pn k ≠ c) : plat Pn i c t = false := by
  induction t with
  | zero => rfl
  | succ t ih =>
    simp only [plat]
    rw [ih (fun k h1 h2 => h k h1 (by omega))]
    simpa using h (i + 1 + t) (by omega) (by omega)
def skp (n : Nat) (Pn : Nat → Int) (i : Nat) (cs : Nat → Int) (c : Int) : Bool := pinned cs i c || (plat Pn i c (n - (i + 1)) || (decide (0 ≤ Pn i) && (Pn i != c)))
def bst (n m : Nat) (Pn La : Nat → Int) : Nat → Nat → (Nat → Int) → Int
  | 0, _, cs => (cmov La cs n : Nat)
  | k + 1, i, cs => bfold (fun c => if skp n Pn i cs c = true then none else some (bst n m Pn La k (i + 1) (ext cs i c))) m
theorem cmov_same (La c d : Nat → Int) (n : Nat) (h : ∀ j, j < n → c j = d j) : cmov La c n = cmov La d n := by
  induction n with
  | zero => rfl
  | succ n ih => simp only [cmov]; rw [ih (fun j hj => h j (by omega)), h n (by omega)]
section
variable {m n : Nat} {D Pn La : Nat → Int}
theorem bst_le {c' : Nat → Int} (hc : ∀ i, i < n → HOne m Pn c' i) (k : Nat) : ∀ i cs, i + k = n → (∀ j, j < i → c' j = cs j) → bst n m Pn La k i cs ≤ (cmov La c' n : Nat) := by
  induction k with
  | zero =>
    intro i cs hi hj
    show ((cmov La cs n : Nat) : Int) ≤ _
    rw [cmov_same La cs c' n (fun j h => (hj j (by omega)).symm)]
    exact Int.le_refl _
  | succ k ih =>
    intro i cs hi hj
    have hin : i < n := by omega
    obtain ⟨h0, h1, h2, h3⟩ := hc i hin
    obtain ⟨x, hx⟩ : ∃ x : Nat, c' i = x := ⟨(c' i).toNat, by omega⟩
    have hs : skp n Pn i cs x = false := by
      have a : pinned cs i x = false := by
        rw [← Bool.not_eq_true, pinned_iff]
        rintro ⟨k, hk, e⟩
        rw [← hj k hk, ← hx] at e
        exact h2 k hk e
      have b : plat Pn i x (n - (i + 1)) = false := plat_no (fun k g1 g2 e => by
        have := (hc k (by omega)).2.2.2 (by omega)
        exact (hc k (by omega)).2.2.1 i g1 (by omega))
      unfold skp
      rw [a, b]
      by_cases p : 0 ≤ Pn i
      · have := h3 (by omega)
        simp only [Bool.false_or, Bool.and_eq_false_iff]
        right
        simp; omega
      · simp [p]
    refine Int.le_trans (bfold_le _ m x _ (by omega) (by show (if skp n Pn i cs x = true then none else some _) = _; rw [hs]; rfl)) ?_
    exact ih (i + 1) (ext cs i x) (by omega) (fun j hj' => by
      by_cases e : j = i
      · subst e; rw [ext_at]; exact hx
      · rw [ext_lt _ _ (by omega)]; exact hj j (by omega))
theorem bst_ge (hp : ∀ i, i < n → -1 ≤ Pn i) {L : Int} (h0 : L ≤ 1000) (hL : ∀ c', (∀ i, i < n → HOne m Pn c' i) → L ≤ (cmov La c' n : Nat)) (k : Nat) : ∀ i cs, i + k = n → (∀ j, j < i → HOne m Pn cs j) → L ≤ bst n m Pn La k i cs := by
  induction k with
  | zero =>
    intro i cs hi hj
    exact hL cs (fun j h => hj j (by omega))
  | succ k ih =>
    intro i cs hi hj
    refine bfold_ge _ m L h0 (fun c x hc hx => ?_)
    have hx' : (if skp n Pn i cs c = true then none else some (bst n m Pn La k (i + 1) (ext cs i c))) = some x := hx
    by_cases hs : skp n Pn i cs c = true
    · rw [if_pos hs] at hx'; cases hx'
    · rw [if_neg hs] at hx'
      injection hx' with hx'
      rw [← hx']
      refine ih (i + 1) (ext cs i c) (by omega) (fun j hji => ?_)
      by_cases e : j = i
      · subst e
        have hs' : skp n Pn j cs c = false := by simpa using hs
        unfold skp at hs'
        rw [Bool.or_eq_false_iff, Bool.or_eq_false_iff] at hs'
        obtain ⟨s1, s2, s3⟩ := hs'
        refine ⟨by rw [ext_at]; omega, by rw [ext_at]; omega, fun k hk => ?_, fun hpn => ?_⟩
        · rw [ext_at, ext_lt _ _ hk]
          intro e
          have := (pinned_iff cs j c).2 ⟨k, hk, e⟩
          rw [s1] at this
          cases this
        · rw [ext_at]
          have := hp j (by omega)
          rw [Bool.and_eq_false_iff] at s3
          rcases s3 with s3 | s3
          · simp at s3; omega
          · simpa using s3
      · obtain ⟨g0, g1, g2, g3⟩ := hj j (by omega)
        refine ⟨by rw [ext_lt _ _ (by omega)]; exact g0, by rw [ext_lt _ _ (by omega)]; exact g1, fun k hk => ?_, fun hpn => ?_⟩
        · rw [ext_lt _ _ (by omega), ext_lt _ _ (by omega)]; exact g2 k hk
        · rw [ext_lt _ _ (by omega)]; exact g3 hpn
/-- Best of all is what is assigned. -/
theorem best_is (h : Chk m n D Pn La) (hn : n ≤ 1000) (cs : Nat → Int) : bst n m Pn La n 0 cs = (cmov La (casg n Pn La) n : Nat) := by
  have a := bst_le (La := La) (casg_hld h).2.2 n 0 cs (by omega) (fun j hj => by omega)
  have b := bst_ge (m := m) (La := La) (fun i hi => (h.2.2.2 i hi).1.1) (L := (cmov La (casg n Pn La) n : Nat)) (by have := cmov_le La (casg n Pn La) n; omega) (fun c' hc => by have := casg_least h hc; omega) n 0 cs (by omega) (fun j hj => by omega)
  omega
end
end Go.Proofs.Ytnjdomfhjhlamaa
