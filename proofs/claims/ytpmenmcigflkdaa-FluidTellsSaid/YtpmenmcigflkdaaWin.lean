/- Plain lemmas on windows: parts rounded, windows by number, groups; no program in sight. -/
namespace Go.Proofs.Ytpmenmcigflkdaa.Win

/-- a by b, rounded up, as the program says it. -/
def up (a b : Int) : Int := if a / b * b < a then a / b + 1 else a / b

theorem fl_le (a b : Int) (hb : 0 < b) : a / b * b ≤ a := Int.ediv_mul_le a (by omega)
theorem lt_fl (a b : Int) (hb : 0 < b) : a < a / b * b + b := by
  have := Int.lt_ediv_add_one_mul_self a hb
  rw [Int.add_mul, Int.one_mul] at this
  exact this

theorem up_ge (a b : Int) (hb : 0 < b) : a ≤ up a b * b := by
  unfold up
  have h1 := fl_le a b hb
  have h2 := lt_fl a b hb
  split
  · rw [Int.add_mul, Int.one_mul]; omega
  · omega
theorem up_lt (a b : Int) (hb : 0 < b) : up a b * b < a + b := by
  unfold up
  have h1 := fl_le a b hb
  have h2 := lt_fl a b hb
  split
  · rw [Int.add_mul, Int.one_mul]; omega
  · omega

/-- from products to numbers: x b < y b + b and so on. -/
theorem lt_of_mul {x y b : Int} (hb : 0 < b) (h : x * b < y * b) : x < y := Int.lt_of_mul_lt_mul_right h (by omega)
theorem le_of_mul {x y b : Int} (hb : 0 < b) (h : x * b ≤ y * b) : x ≤ y := Int.le_of_mul_le_mul_right h hb

theorem fl_unique {a b q : Int} (hb : 0 < b) (h1 : q * b ≤ a) (h2 : a < q * b + b) : a / b = q := by
  have h3 := fl_le a b hb
  have h4 := lt_fl a b hb
  have h5 : q < a / b + 1 := lt_of_mul hb (by rw [Int.add_mul, Int.one_mul]; omega)
  have h6 : a / b < q + 1 := lt_of_mul hb (by rw [Int.add_mul, Int.one_mul]; omega)
  omega
theorem up_unique {a b q : Int} (hb : 0 < b) (h1 : a ≤ q * b) (h2 : q * b < a + b) : up a b = q := by
  have h3 := up_ge a b hb
  have h4 := up_lt a b hb
  have h5 : q < up a b + 1 := lt_of_mul hb (by rw [Int.add_mul, Int.one_mul]; omega)
  have h6 : up a b < q + 1 := lt_of_mul hb (by rw [Int.add_mul, Int.one_mul]; omega)
  omega
theorem up_mono {a a' b : Int} (hb : 0 < b) (h : a ≤ a') : up a b ≤ up a' b := by
  have h3 := up_lt a b hb
  have h4 := up_ge a' b hb
  have : up a b < up a' b + 1 := lt_of_mul hb (by rw [Int.add_mul, Int.one_mul]; omega)
  omega
theorem up_nonneg {a b : Int} (hb : 0 < b) (h : 0 ≤ a) : 0 ≤ up a b := by
  have h4 := up_ge a b hb
  have : -1 < up a b := lt_of_mul hb (by omega)
  omega
theorem up_le {a b q : Int} (hb : 0 < b) (h : a ≤ q * b) : up a b ≤ q := by
  have h4 := up_lt a b hb
  have : up a b < q + 1 := lt_of_mul hb (by rw [Int.add_mul, Int.one_mul]; omega)
  omega
theorem lt_up {a b q : Int} (hb : 0 < b) (h : q * b < a) : q < up a b := by
  have h4 := up_ge a b hb
  exact lt_of_mul hb (by omega)
theorem le_fl {a b q : Int} (hb : 0 < b) (h : q * b ≤ a) : q ≤ a / b := by
  have h4 := lt_fl a b hb
  have : q < a / b + 1 := lt_of_mul hb (by rw [Int.add_mul, Int.one_mul]; omega)
  omega
theorem fl_lt {a b q : Int} (hb : 0 < b) (h : a < q * b) : a / b < q := by
  have h4 := fl_le a b hb
  exact lt_of_mul hb (by omega)
theorem up_add_mul {a b n : Int} (hb : 0 < b) : up (a + n * b) b = up a b + n := by
  apply up_unique hb
  · have := up_ge a b hb; rw [Int.add_mul]; omega
  · have := up_lt a b hb; rw [Int.add_mul]; omega

/-! ### windows: E of P -/
def rel (E P i : Int) : Int := (i - 1) * P / E
def dl (E P i : Int) : Int := up (i * P) E
def bit (E P i : Int) : Int := if i * P % E = 0 then 0 else 1
/-- the group's deadline, as the program finds it. -/
def grp (E P i : Int) : Int :=
  if P - E > E then 0 else if P - E = 0 then dl E P i
  else up ((dl E P i / P * (P - E) + up (dl E P i % P * (P - E)) P) * P) (P - E)

theorem bit_eq (E P i : Int) (hE : 0 < E) : dl E P i - i * P / E = bit E P i := by
  unfold dl bit up
  have h1 := Int.mul_ediv_add_emod (i * P) E
  have h2 := Int.emod_nonneg (i * P) (b := E) (by omega)
  have h3 : i * P / E * E = E * (i * P / E) := Int.mul_comm _ _
  split <;> split <;> omega

theorem next_rel (E P i : Int) (hE : 0 < E) : rel E P (i + 1) = dl E P i - bit E P i := by
  have h := bit_eq E P i hE
  unfold rel
  rw [show i + 1 - 1 = i by omega]
  omega

theorem rel_lt_dl (E P i : Int) (hE : 0 < E) (hP : 0 < P) : rel E P i < dl E P i := by
  unfold rel dl
  have h1 := fl_le ((i - 1) * P) E hE
  have h2 := up_ge (i * P) E hE
  have h3 : (i - 1) * P = i * P - P := by rw [Int.sub_mul, Int.one_mul]
  exact lt_of_mul hE (by omega)

theorem dl_lt (E P i : Int) (hE : 0 < E) (hP : E ≤ P) : dl E P i < dl E P (i + 1) := by
  unfold dl
  have h1 := up_lt (i * P) E hE
  have h2 := up_ge ((i + 1) * P) E hE
  have h3 : (i + 1) * P = i * P + P := by rw [Int.add_mul, Int.one_mul]
  exact lt_of_mul hE (by omega)

theorem dl_mono (E P i : Int) (hE : 0 < E) (hP : E ≤ P) : dl E P i ≤ dl E P (i + 1) := by have := dl_lt E P i hE hP; omega

theorem rel_round (E P i : Int) (hE : 0 < E) : rel E P (i + E) = rel E P i + P := by
  unfold rel
  rw [show (i + E - 1) * P = (i - 1) * P + P * E by rw [show i + E - 1 = (i - 1) + E by omega, Int.add_mul, Int.mul_comm E P], Int.add_mul_ediv_right _ _ (by omega)]
theorem dl_round (E P i : Int) (hE : 0 < E) : dl E P (i + E) = dl E P i + P := by
  unfold dl
  rw [show (i + E) * P = i * P + P * E by rw [Int.add_mul, Int.mul_comm E P], up_add_mul hE]
theorem bit_round (E P i : Int) : bit E P (i + E) = bit E P i := by
  unfold bit
  rw [show (i + E) * P = i * P + P * E by rw [Int.add_mul, Int.mul_comm E P], Int.add_mul_emod_self_right]
theorem dl_E (E P : Int) (hE : 0 < E) : dl E P E = P := by
  unfold dl
  rw [Int.mul_comm E P]
  exact up_unique hE (by omega) (by omega)
theorem bit_E (E P : Int) : bit E P E = 0 := by
  unfold bit
  rw [if_pos (by rw [Int.mul_emod_right])]

theorem grp_round (E P i : Int) (hE : 0 < E) (hP : E ≤ P) : (grp E P i = 0 ∧ grp E P (i + E) = 0) ∨ grp E P (i + E) = grp E P i + P := by
  unfold grp
  rw [dl_round E P i hE]
  by_cases h1 : P - E > E
  · left; simp [h1]
  · right
    by_cases h2 : P - E = 0
    · simp only [if_neg h1, if_pos h2]
    · simp only [if_neg h1, if_neg h2]
      have hr : 0 < P - E := by omega
      have hPp : 0 < P := by omega
      rw [show (dl E P i + P) / P = dl E P i / P + 1 by
          have := Int.add_mul_ediv_right (dl E P i) 1 (c := P) (by omega)
          rw [Int.one_mul] at this; exact this,
        show (dl E P i + P) % P = dl E P i % P by rw [Int.add_emod_right]]
      generalize up (dl E P i % P * (P - E)) P = k
      generalize dl E P i / P = q
      generalize P - E = r at hr
      rw [show ((q + 1) * r + k) * P = (q * r + k) * P + P * r by rw [Int.add_mul q 1 r, Int.one_mul, show q * r + r + k = (q * r + k) + r by omega, Int.add_mul, Int.mul_comm r P], up_add_mul hr]

/-- the least k with k P not below d (P - E). -/
theorem grp_k (d r P : Int) (hP : 0 < P) : d / P * r + up (d % P * r) P = up (d * r) P := by
  have h1 := Int.mul_ediv_add_emod d P
  have h : d * r = d % P * r + d / P * r * P := by
    conv => lhs; rw [← h1]
    rw [Int.add_mul, Int.mul_assoc P, Int.mul_comm P]; omega
  rw [h, up_add_mul hP]; omega

theorem grp_eq (E P i : Int) (hE : 0 < E) (hP : E ≤ P) (h1 : ¬ P - E > E) (h2 : ¬ P - E = 0) : grp E P i = up (up (dl E P i * (P - E)) P * P) (P - E) := by
  unfold grp
  rw [if_neg h1, if_neg h2, grp_k _ _ _ (by omega)]

theorem dl_nonneg (E P i : Int) (hE : 0 < E) (hP : 0 < P) (hi : 0 ≤ i) : 0 ≤ dl E P i := up_nonneg hE (Int.mul_nonneg hi (by omega))

theorem grp_ge (E P i : Int) (hE : 0 < E) (hP : E ≤ P) (h1 : ¬ P - E > E) : dl E P i ≤ grp E P i := by
  by_cases h2 : P - E = 0
  · unfold grp; rw [if_neg h1, if_pos h2]; omega
  · rw [grp_eq E P i hE hP h1 h2]
    have hr : 0 < P - E := by omega
    have a := up_ge (dl E P i * (P - E)) P (by omega)
    have b := up_ge (up (dl E P i * (P - E)) P * P) (P - E) hr
    exact le_of_mul hr (by omega)
theorem grp_near (E P i : Int) (hE : 0 < E) (hP : E ≤ P) (h1 : ¬ P - E > E) : grp E P i - dl E P i ≤ P := by
  by_cases h2 : P - E = 0
  · unfold grp; rw [if_neg h1, if_pos h2]; omega
  · rw [grp_eq E P i hE hP h1 h2]
    have hr : 0 < P - E := by omega
    have a := up_lt (dl E P i * (P - E)) P (by omega)
    have b := up_lt (up (dl E P i * (P - E)) P * P) (P - E) hr
    have c : P ≤ P * (P - E) := by
      have := Int.mul_le_mul_of_nonneg_left (show (1 : Int) ≤ P - E by omega) (show 0 ≤ P by omega)
      rwa [Int.mul_one] at this
    have : up (up (dl E P i * (P - E)) P * P) (P - E) < dl E P i + P + 1 := lt_of_mul hr (by rw [Int.add_mul, Int.add_mul, Int.one_mul]; omega)
    omega
theorem grp_mono (E P i : Int) (hE : 0 < E) (hP : E ≤ P) (h1 : ¬ P - E > E) : grp E P i ≤ grp E P (i + 1) := by
  have hd := dl_mono E P i hE hP
  by_cases h2 : P - E = 0
  · unfold grp; rw [if_neg h1, if_neg h1, if_pos h2, if_pos h2]; exact hd
  · rw [grp_eq E P i hE hP h1 h2, grp_eq E P (i + 1) hE hP h1 h2]
    have hr : 0 < P - E := by omega
    refine up_mono hr (Int.mul_le_mul_of_nonneg_right (up_mono (by omega) (Int.mul_le_mul_of_nonneg_right hd (by omega))) (by omega))

theorem long_heavy (E P i : Int) (hE : 0 < E) (hP : E < P) (h1 : ¬ P - E > E) : dl E P i - rel E P i = 2 ∨ dl E P i - rel E P i = 3 := by
  unfold rel dl
  have a := fl_le ((i - 1) * P) E hE
  have b := lt_fl ((i - 1) * P) E hE
  have c := up_ge (i * P) E hE
  have d := up_lt (i * P) E hE
  have h3 : (i - 1) * P = i * P - P := by rw [Int.sub_mul, Int.one_mul]
  have e : (i - 1) * P / E + 1 < up (i * P) E := lt_of_mul hE (by rw [Int.add_mul, Int.one_mul]; omega)
  have f : up (i * P) E < (i - 1) * P / E + 4 := lt_of_mul hE (by rw [Int.add_mul]; omega)
  omega
theorem long_light (E P i : Int) (hE : 0 < E) (h1 : P - E > E) : 3 ≤ dl E P i - rel E P i ∧ dl E P i - rel E P i ≤ P / E + 2 := by
  unfold rel dl
  have a := fl_le ((i - 1) * P) E hE
  have b := lt_fl ((i - 1) * P) E hE
  have c := up_ge (i * P) E hE
  have d := up_lt (i * P) E hE
  have g := lt_fl P E hE
  have h3 : (i - 1) * P = i * P - P := by rw [Int.sub_mul, Int.one_mul]
  have e : (i - 1) * P / E + 2 < up (i * P) E := lt_of_mul hE (by rw [Int.add_mul]; omega)
  have f : up (i * P) E < (i - 1) * P / E + P / E + 3 := lt_of_mul hE (by rw [Int.add_mul, Int.add_mul]; omega)
  omega
theorem long_full (P i : Int) (hP : 0 < P) : dl P P i - rel P P i = 1 ∧ bit P P i = 0 := by
  refine ⟨?_, by unfold bit; rw [if_pos (by rw [Int.mul_emod_left])]⟩
  unfold rel dl
  rw [up_unique (q := i) hP (by omega) (by omega), fl_unique (q := i - 1) hP (by omega) (by omega)]; omega

/-! ### up to a slot -/
theorem lag_over (E P t : Int) (hE : 0 < E) (hP : 0 < P) : dl E P (t * E / P) ≤ t := up_le hE (fl_le _ _ hP)
theorem lag_next (E P t : Int) (hE : 0 < E) (hP : 0 < P) : t < dl E P (t * E / P + 1) :=
  lt_up hE (by have := lt_fl (t * E) P hP; rw [Int.add_mul, Int.one_mul]; omega)
theorem lag_begun (E P t : Int) (hE : 0 < E) (hP : 0 < P) : rel E P (t * E / P + 1) ≤ t := by
  unfold rel
  rw [show t * E / P + 1 - 1 = t * E / P by omega]
  have := fl_le (t * E) P hP
  have : t * E / P * P / E < t + 1 := fl_lt hE (by rw [Int.add_mul, Int.one_mul]; omega)
  omega
theorem lag_ahead (E P t : Int) (hE : 0 < E) (hP : 0 < P) : t ≤ rel E P (t * E / P + 2) := by
  unfold rel
  rw [show t * E / P + 2 - 1 = t * E / P + 1 by omega]
  have := lt_fl (t * E) P hP
  exact le_fl hE (by rw [Int.add_mul, Int.one_mul]; omega)
end Go.Proofs.Ytpmenmcigflkdaa.Win
