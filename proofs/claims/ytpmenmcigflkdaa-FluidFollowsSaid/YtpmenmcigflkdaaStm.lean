/- Plain lemmas on the stepper's counters: quotients step by step, the groups' number; no program in sight. -/
import Derived.Test.YtpmenmcigflkdaaWin
namespace Go.Proofs.Ytpmenmcigflkdaa.Win

theorem split_div (a d : Int) : a / d * d + a % d = a := by
  have h := Int.mul_ediv_add_emod a d
  rw [Int.mul_comm] at h; exact h

theorem stepdiv_lo (a p d : Int) (hd : 0 < d) (h : a % d + p % d < d) : (a + p) / d = a / d + p / d ∧ (a + p) % d = a % d + p % d := by
  have h1 := split_div a d
  have h2 := split_div p d
  have h3 := Int.emod_nonneg a (b := d) (by omega)
  have h4 := Int.emod_nonneg p (b := d) (by omega)
  have h5 : (a / d + p / d) * d = a / d * d + p / d * d := Int.add_mul _ _ _
  have q : (a + p) / d = a / d + p / d := fl_unique hd (by omega) (by omega)
  have h6 := split_div (a + p) d
  rw [q] at h6
  exact ⟨q, by omega⟩

theorem stepdiv_hi (a p d : Int) (hd : 0 < d) (h : d ≤ a % d + p % d) : (a + p) / d = a / d + p / d + 1 ∧ (a + p) % d = a % d + p % d - d := by
  have h1 := split_div a d
  have h2 := split_div p d
  have h3 := Int.emod_lt_of_pos a (b := d) hd
  have h4 := Int.emod_lt_of_pos p (b := d) hd
  have h5 : (a / d + p / d + 1) * d = a / d * d + p / d * d + d := by rw [Int.add_mul, Int.add_mul, Int.one_mul]
  have q : (a + p) / d = a / d + p / d + 1 := fl_unique hd (by omega) (by omega)
  have h6 := split_div (a + p) d
  rw [q] at h6
  exact ⟨q, by omega⟩

theorem up_rest (a d : Int) (hd : 0 < d) : up a d = if 0 < a % d then a / d + 1 else a / d := by
  have h1 := split_div a d
  have h3 := Int.emod_nonneg a (b := d) (by omega)
  unfold up
  split <;> split <;> omega

/-- how many groups have begun, so to say: the group's number of subtask n. -/
def kk (E P n : Int) : Int := dl E P n - n

theorem kk_zero (E P : Int) (hE : 0 < E) : kk E P 0 = 0 := by
  unfold kk dl
  rw [up_unique (q := 0) hE (by omega) (by omega)]; omega

theorem kk_mono (E P n : Int) (hE : 0 < E) (hP : E ≤ P) : kk E P n ≤ kk E P (n + 1) := by
  have := dl_lt E P n hE hP
  unfold kk; omega

theorem kk_nonneg (E P n : Int) (hE : 0 < E) (hP : E ≤ P) (hn : 0 ≤ n) : 0 ≤ kk E P n := by
  unfold kk dl
  have h1 := up_ge (n * P) E hE
  have h2 : n * E ≤ n * P := Int.mul_le_mul_of_nonneg_left hP hn
  have := le_of_mul (x := n) hE (by omega : n * E ≤ up (n * P) E * E)
  omega

theorem mul_rest (x E P : Int) : x * (P - E) = x * P - x * E := Int.mul_sub _ _ _

/-- the group's number is what the windows say. -/
theorem kk_up (E P n : Int) (hE : 0 < E) (hP : E < P) : up (dl E P n * (P - E)) P = kk E P n := by
  unfold kk dl
  have h1 := up_ge (n * P) E hE
  have h2 := up_lt (n * P) E hE
  generalize up (n * P) E = D at *
  rw [mul_rest]
  refine up_unique (by omega) ?_ ?_ <;> rw [Int.sub_mul] <;> omega

/-- ahead of it no group's end is as late as the deadline. -/
theorem kk_ahead (E P n k : Int) (hE : 0 < E) (hP : E < P) (h : k < kk E P n) : up (k * P) (P - E) < dl E P n := by
  unfold kk at h
  unfold dl at *
  have h1 := up_ge (n * P) E hE
  have h2 := up_lt (n * P) E hE
  generalize up (n * P) E = D at *
  have h3 : k * P ≤ (D - n - 1) * P := Int.mul_le_mul_of_nonneg_right (by omega) (by omega)
  have h4 : (D - n - 1) * P = D * P - n * P - P := by rw [Int.sub_mul, Int.sub_mul, Int.one_mul]
  have h5 : (D - 1) * (P - E) = D * P - D * E - (P - E) := by rw [mul_rest, Int.sub_mul, Int.sub_mul, Int.one_mul, Int.one_mul]; omega
  have := up_le (a := k * P) (b := P - E) (q := D - 1) (by omega) (by omega)
  omega

theorem grp_kk (E P n : Int) (hE : 0 < E) (hP : E < P) (h1 : ¬ P - E > E) : grp E P n = up (kk E P n * P) (P - E) := by
  rw [grp_eq E P n hE (by omega) h1 (by omega), kk_up E P n hE hP]

/-- the loop's end: at the first group whose end is not ahead of the deadline. -/
theorem kk_stop (E P n k : Int) (hE : 0 < E) (hP : E < P) (h1 : ¬ P - E > E) (hk : k ≤ kk E P n) (h : dl E P n ≤ up (k * P) (P - E)) : k = kk E P n ∧ up (k * P) (P - E) = grp E P n := by
  have e : k = kk E P n := by
    by_cases c : k < kk E P n
    · have := kk_ahead E P n k hE hP c; omega
    · omega
  subst e
  exact ⟨rfl, (grp_kk E P n hE hP h1).symm⟩
/-- and it goes on below it. -/
theorem kk_more (E P n k : Int) (hE : 0 < E) (hP : E < P) (h1 : ¬ P - E > E) (hk : k ≤ kk E P n) (h : up (k * P) (P - E) < dl E P n) : k < kk E P n := by
  by_cases c : k < kk E P n
  · exact c
  · have e : k = kk E P n := by omega
    subst e
    rw [← grp_kk E P n hE hP h1] at h
    have := grp_ge E P n hE (by omega) h1
    omega

/-- one step of a counter is at least one whole. -/
theorem up_step (P r k : Int) (hr : 0 < r) (h : r ≤ P) : k * P / r + 1 ≤ (k + 1) * P / r := by
  have h1 := fl_le (k * P) r hr
  have h2 : (k + 1) * P = k * P + P := by rw [Int.add_mul, Int.one_mul]
  exact le_fl hr (by rw [Int.add_mul, Int.one_mul]; omega)

/-- bounds of all that the stepper reckons, for heavy weights. -/
theorem heavy_bd (E P n k : Int) (hE : 0 < E) (hP : E < P) (p : P ≤ 1048576) (h1 : ¬ P - E > E) (n0 : 0 ≤ n) (n1 : n ≤ 1099511627776) (k0 : 0 ≤ k) (hk : k ≤ kk E P n) :
    0 ≤ k * P / (P - E) ∧ k * P / (P - E) ≤ 2199024304128 ∧ 0 ≤ k * P % (P - E) ∧ k * P % (P - E) < P - E ∧ k ≤ 2199023255552 := by
  have hD : dl E P n ≤ 2 * n := up_le hE (by
    have k := Int.mul_le_mul_of_nonneg_left (show P ≤ 2 * E by omega) n0
    have k2 : n * (2 * E) = 2 * n * E := by rw [← Int.mul_assoc, Int.mul_comm n 2]
    omega)
  have a1 := Int.emod_nonneg (k * P) (b := P - E) (by omega)
  have a2 := Int.emod_lt_of_pos (k * P) (b := P - E) (by omega)
  have a3 : 0 ≤ k * P / (P - E) := Int.ediv_nonneg (Int.mul_nonneg k0 (by omega)) (by omega)
  have hk' := hk
  unfold kk at hk'
  have a4 : k * P / (P - E) ≤ up (k * P) (P - E) := by unfold up; split <;> omega
  have a5 : up (k * P) (P - E) ≤ up (kk E P n * P) (P - E) := up_mono (by omega) (Int.mul_le_mul_of_nonneg_right hk (by omega))
  rw [← grp_kk E P n hE hP h1] at a5
  have a6 := grp_near E P n hE (by omega) h1
  exact ⟨a3, by omega, a1, a2, by omega⟩
end Go.Proofs.Ytpmenmcigflkdaa.Win
