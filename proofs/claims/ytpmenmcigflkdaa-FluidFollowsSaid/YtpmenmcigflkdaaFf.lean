/- Plain: a row in which subtasks run within their windows follows the share. -/
import Derived.Test.YtpmenmcigflkdaaFt
namespace Go.Proofs.Ytpmenmcigflkdaa
open Go.RowKit
set_option linter.unusedVariables false
set_option linter.unusedSimpArgs false

/-- k subtasks have run, the last one at 'last', each within its window. -/
structure Fol (E P : Int) (k : Nat) (last : Int) (bs : List Bool) : Prop where
  len : bs.length = 1400
  up : last < 1400
  good : ∀ m, m ≤ 1400 → cnt bs m ≤ k ∧ (1 ≤ cnt bs m → Win.rel E P (cnt bs m) < m) ∧ (cnt bs m < k → (m : Int) < Win.dl E P (cnt bs m + 1))
  full : ∀ m : Nat, m ≤ 1400 → last < m → cnt bs m = k
  off : ∀ m : Nat, last < m → bs[m]?.getD false = false
  lo : -1 ≤ last
  dl : 1 ≤ k → last < Win.dl E P k
  none : k = 0 → last = -1
theorem Fol.start (E P : Int) : Fol E P 0 (-1) (List.replicate 1400 false) := by
  have z : ∀ m : Nat, (List.replicate 1400 false)[m]?.getD false = false := by
    intro m
    rw [List.getElem?_replicate]
    split <;> rfl
  have c : ∀ m, cnt (List.replicate 1400 false) m = 0 := by
    intro m
    induction m with
    | zero => rfl
    | succ m ih => rw [cnt, ih, z]; simp
  exact ⟨List.length_replicate, by omega, fun m hm => ⟨by rw [c]; omega, fun h => by rw [c] at h; omega, fun h => by omega⟩, fun m _ _ => c m, fun m _ => z m, by omega, fun h => by omega, fun _ => rfl⟩
theorem cnt_set (bs : List Bool) (t m : Nat) (ht : t < bs.length) (h0 : bs[t]?.getD false = false) : cnt (bs.set t true) m = if t < m then cnt bs m + 1 else cnt bs m := by
  induction m with
  | zero => rfl
  | succ m ih =>
    rw [cnt, cnt, ih]
    by_cases c : t < m
    · rw [if_pos c, if_pos (show t < m + 1 by omega), List.getElem?_set_ne (show t ≠ m by omega)]; omega
    · by_cases d : t = m
      · subst d
        rw [if_neg c, if_pos (show t < t + 1 by omega), List.getElem?_set_self ht, h0]; simp
      · rw [if_neg c, if_neg (show ¬ t < m + 1 by omega), List.getElem?_set_ne (show t ≠ m by omega)]
theorem Fol.next {E P : Int} {k : Nat} {last : Int} {bs : List Bool} (h : Fol E P k last bs) (t : Nat) (h1 : last < t) (h2 : Win.rel E P (k + 1) ≤ t) (h3 : (t : Int) < Win.dl E P (k + 1)) (h4 : t < 1400) : Fol E P (k + 1) t (bs.set t true) := by
  have hc := fun m => cnt_set bs t m (by rw [h.len]; exact h4) (h.off t h1)
  refine ⟨by rw [List.length_set]; exact h.len, by omega, fun m hm => ?_, fun m hm hl => ?_, fun m hm => ?_, by omega, fun _ => by rw [Int.natCast_add]; exact h3, fun h => by omega⟩
  · have g := h.good m hm
    rw [hc m]
    by_cases c : t < m
    · have := h.full m hm (by omega)
      rw [if_pos c, this]
      exact ⟨Nat.le_refl _, fun _ => by rw [Int.natCast_add]; exact Int.lt_of_le_of_lt h2 (by omega), fun x => by omega⟩
    · rw [if_neg c]
      refine ⟨by omega, g.2.1, fun x => ?_⟩
      by_cases d : cnt bs m < k
      · exact g.2.2 d
      · have e : cnt bs m = k := by omega
        rw [e]; omega
  · rw [hc m, if_pos (by omega), h.full m hm (by omega)]
  · rw [List.getElem?_set_ne (by omega)]; exact h.off m (by omega)
/-- Room: the next subtask's window holds a slot behind the last one. -/
theorem Fol.room {E P : Int} {k : Nat} {last : Int} {bs : List Bool} (h : Fol E P k last bs) (e1 : 1 ≤ E) (e2 : E ≤ P) : last + 1 < Win.dl E P (k + 1) ∧ Win.rel E P (k + 1) < Win.dl E P (k + 1) := by
  refine ⟨?_, Win.rel_lt_dl E P _ (by omega) (by omega)⟩
  by_cases c : 1 ≤ k
  · have a := h.dl c
    have b := Win.dl_lt E P k (by omega) e2
    omega
  · have e : k = 0 := by omega
    subst e
    have b : (0 : Int) < Win.dl E P ((0 : Nat) + 1) := by
      refine Win.lt_up (by omega) ?_
      simp; omega
    have := h.none rfl
    omega
theorem dl_bd {E P k : Int} (e1 : 1 ≤ E) (e2 : E ≤ P) (e3 : P ≤ 40) (k0 : 0 ≤ k) (k1 : k ≤ 30) : 0 ≤ Win.dl E P k ∧ Win.dl E P k ≤ 1200 := by
  refine ⟨Win.dl_nonneg E P k (by omega) (by omega) k0, Win.up_le (by omega) ?_⟩
  have a := Int.mul_le_mul_of_nonneg_left e3 k0
  omega
theorem rel_bd {E P k : Int} (e1 : 1 ≤ E) (e2 : E ≤ P) (k0 : 1 ≤ k) : 0 ≤ Win.rel E P k := Int.ediv_nonneg (Int.mul_nonneg (by omega) (by omega)) (by omega)
theorem Fol.fair {E P : Int} {k : Nat} {last : Int} {bs : List Bool} (h : Fol E P k last bs) (e1 : 1 ≤ E) (e2 : E ≤ P) (e3 : P ≤ 40) (hk : k ≤ 30) (m : Nat) (hm : (m : Int) ≤ Win.dl E P k) : fairV E P m (cnt bs m) = true := by
  have db := dl_bd e1 e2 e3 (k := k) (by omega) (by omega)
  obtain ⟨g1, g2, g3⟩ := h.good m (by omega)
  have em : E * m = m * E := Int.mul_comm _ _
  have ec : P * (cnt bs m : Int) = cnt bs m * P := Int.mul_comm _ _
  have lo : -P < E * m - P * cnt bs m := by
    by_cases c : 1 ≤ cnt bs m
    · have a := g2 c
      have b := Win.lt_fl (((cnt bs m : Int) - 1) * P) E (by omega)
      have d : (Win.rel E P (cnt bs m) + 1) * E ≤ m * E := Int.mul_le_mul_of_nonneg_right (by omega) (by omega)
      rw [Int.add_mul, Int.one_mul] at d
      unfold Win.rel at d
      rw [Int.sub_mul, Int.one_mul] at b d
      omega
    · have e : cnt bs m = 0 := by omega
      have : 0 ≤ E * (m : Int) := Int.mul_nonneg (by omega) (by omega)
      rw [e]; simp; omega
  have hi : E * m - P * cnt bs m < P := by
    by_cases c : cnt bs m < k
    · have a := g3 c
      have b := Win.up_lt (((cnt bs m : Int) + 1) * P) E (by omega)
      have d : ((m : Int) + 1) * E ≤ Win.dl E P (cnt bs m + 1) * E := Int.mul_le_mul_of_nonneg_right (by omega) (by omega)
      unfold Win.dl at d
      rw [Int.add_mul, Int.one_mul] at d
      rw [Int.add_mul, Int.one_mul] at b d
      omega
    · have e : cnt bs m = k := by omega
      have b := Win.up_lt ((k : Int) * P) E (by omega)
      have d : (m : Int) * E ≤ Win.dl E P k * E := Int.mul_le_mul_of_nonneg_right hm (by omega)
      unfold Win.dl at d
      rw [e] at ec ⊢
      omega
  have hmay : may E P = true := by simp [may]; omega
  have hm1 : mayN m = true := by simp [mayN]; omega
  have hm2 : mayN (cnt bs m) = true := by simp [mayN]; omega
  simp [fairV, hmay, hm1, hm2, fairB]
  omega
theorem Fol.follows {E P : Int} {k : Nat} {last : Int} {bs : List Bool} (h : Fol E P k last bs) (e1 : 1 ≤ E) (e2 : E ≤ P) (e3 : P ≤ 40) (hk : k ≤ 30) (en : Nat) (hm : (en : Int) = Win.dl E P k) : folB (fairV E P) (bs.take en) = true := by
  have db := dl_bd e1 e2 e3 (k := k) (by omega) (by omega)
  refine fol_all fun j hj => ?_
  rw [List.length_take, h.len] at hj
  rw [cnt_take bs en j (by omega)]
  exact h.fair e1 e2 e3 hk j (by omega)
theorem Fol.runs {E P : Int} {k : Nat} {last : Int} {bs : List Bool} (h : Fol E P k last bs) (e1 : 1 ≤ E) (e2 : E ≤ P) (e3 : P ≤ 40) (hk : k ≤ 30) (k1 : 1 ≤ k) (en : Nat) (hm : (en : Int) = Win.dl E P k) : cnt (bs.take en) (bs.take en).length = k := by
  have db := dl_bd e1 e2 e3 (k := k) (by omega) (by omega)
  have dk := h.dl k1
  rw [List.length_take, h.len, Nat.min_eq_left (by omega), cnt_take bs en en (Nat.le_refl _)]
  exact h.full en (by omega) (by omega)
theorem late_no {E P k : Int} (e1 : 1 ≤ E) (e2 : E ≤ P) : fairV E P (Win.dl E P k) (k - 1) = false := by
  have b := Win.up_ge (k * P) E (by omega)
  have em : E * Win.dl E P k = Win.up (k * P) E * E := Int.mul_comm _ _
  have ek : P * (k - 1) = k * P - P := by rw [Int.mul_sub, Int.mul_comm]; omega
  have : fairB P (E * Win.dl E P k - P * (k - 1)) = false := by
    unfold fairB
    rw [Bool.and_eq_false_iff]
    right
    rw [decide_eq_false_iff_not]
    omega
  simp only [fairV, this, Bool.and_false]
theorem early_no {E P k : Int} (e1 : 1 ≤ E) (e2 : E ≤ P) : fairV E P (Win.rel E P k) k = false := by
  have b := Win.fl_le ((k - 1) * P) E (by omega)
  have em : E * Win.rel E P k = (k - 1) * P / E * E := Int.mul_comm _ _
  have ek : P * k = k * P := Int.mul_comm _ _
  rw [Int.sub_mul, Int.one_mul] at b em
  have : fairB P (E * Win.rel E P k - P * k) = false := by
    unfold fairB
    rw [Bool.and_eq_false_iff]
    left
    rw [decide_eq_false_iff_not]
    omega
  simp only [fairV, this, Bool.and_false]
/-- The numbers of a weight up to 40. -/
def pF (q : Int) : Int := 1 + (q.tmod 40 + 40).tmod 40
def eF (q p : Int) : Int := 1 + (q.tmod p + p).tmod p
theorem tmod_bd (q p : Int) (hp : 1 ≤ p) : -p < q.tmod p ∧ q.tmod p < p := by
  have a := Int.tmod_lt_of_pos q (show 0 < p by omega)
  have b := Int.tmod_lt_of_pos (-q) (show 0 < p by omega)
  rw [Int.neg_tmod] at b
  omega
theorem tmod2_bd (q p : Int) (hp : 1 ≤ p) : 0 ≤ (q.tmod p + p).tmod p ∧ (q.tmod p + p).tmod p < p := by
  have a := tmod_bd q p hp
  have b := tmod_bd (q.tmod p + p) p hp
  exact ⟨Int.tmod_nonneg _ (by omega), b.2⟩
end Go.Proofs.Ytpmenmcigflkdaa
