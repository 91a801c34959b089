/- append of any number of elements, none too, onto a row that is not nil; rows of runners. -/
import Derived.Test.YtnjdomfhjhlamaaPl
import Derived.Test.YtnjdomfhjhlamaaRl
namespace Go.Proofs.Ytnjdomfhjhlamaa
open Go.RowKit
set_option linter.unusedVariables false
set_option linter.unusedSimpArgs false

section
variable {P : Program} (w : World)
theorem run_row_any (t ty : TypeId) (base : Nat) (e : TypeId) (i : TypeInfo) (z : Value) (size bytes : Nat) (ht : P.underlying t = Option.some (.slice e)) (hi : P.info? e = Option.some i) (hz : i.zero = Option.some z)
    (hsize : i.size = size) (hby : i.bytes = bytes) (hzs : z.cells.size = size) (hsz : 0 < size)
    (g0 off0 n cap0 : Nat) (xs : List Value) (hown : RowAt w base size (.slice (some ⟨g0, off0, none⟩) n cap0) n xs)
    (ad : Addr) (m c : Nat) (news : List Value) (hl : news.length = m * size) (hnews : ∀ j u, news[j]? = Option.some u → w.cell? (ad.add j) = Option.some u) (h1 : ∀ u ∈ news, u.oneCell' = true)
    (h63 : n + m ≤ maxLen) (hbytes : (n + m) * bytes ≤ 140737488355328) (hbase : base ≤ w.heap.size) :
    ∃ g off cap w', (Builtin.append_ #[t, t] ty #[.slice (some ⟨g0, off0, none⟩) n cap0, .slice (Option.some ad) m c]).run P w = .ok (.slice (Option.some ⟨g, off, none⟩) (n + m) cap) w' ∧
      RowAt w' base size (.slice (Option.some ⟨g, off, none⟩) (n + m) cap) (n + m) (xs ++ news) ∧ w.grownBy w' (some g0) := by
  by_cases hm : 0 < m
  · obtain ⟨g, off, cap, w', a, b, c', _⟩ := run_row_lies (P := P) w t ty base e i z size bytes ht hi hz hsize hby hzs hsz _ n xs hown ad m c news hl hnews h1 hm h63 hbytes hbase
    exact ⟨g, off, cap, w', a, b, c'⟩
  · obtain rfl : m = 0 := by omega
    obtain rfl : news = [] := List.eq_nil_of_length_eq_zero (by simpa using hl)
    subst hsize
    have hrun := run_append_room_cells (P := P) w t ty e i ht hi g0 off0 n cap0 ad 0 c [] (by simp) (by simp) (by simp) (by have := hown.cap_ge'; omega) (by simp) (by simp)
    refine ⟨g0, off0, cap0, w, hrun, by simpa using hown, ⟨rfl, rfl, rfl, Nat.le_refl _, fun _ _ _ => rfl⟩⟩
theorem step_row_any {ops : Array Oper} {o : Oper} {a : Act} {K : Act → World → Prop} {Q : Exit → Act → World → Prop} {E : Prop} (hgd : o.guard = none) (s x : Operand) (t : TypeId)
    (ho : o.op = .call { callee := .builtin .append, args := #[s, x], argTypes := #[t, t] })
    (base : Nat) (e : TypeId) (i : TypeInfo) (z : Value) (size bytes : Nat) (ht : P.underlying t = Option.some (.slice e)) (hi : P.info? e = Option.some i) (hz : i.zero = Option.some z)
    (hsize : i.size = size) (hby : i.bytes = bytes) (hzs : z.cells.size = size) (hsz : 0 < size)
    (g0 off0 n cap0 : Nat) (xs : List Value) (hs : a.eval s = .slice (some ⟨g0, off0, none⟩) n cap0) (hown : RowAt w base size (.slice (some ⟨g0, off0, none⟩) n cap0) n xs)
    (ad : Addr) (m c : Nat) (news : List Value) (hx : a.eval x = .slice (Option.some ad) m c) (hl : news.length = m * size) (hnews : ∀ j u, news[j]? = Option.some u → w.cell? (ad.add j) = Option.some u) (h1 : ∀ u ∈ news, u.oneCell' = true)
    (h63 : n + m ≤ maxLen) (hbytes : (n + m) * bytes ≤ 140737488355328) (hbase : base ≤ w.heap.size)
    (h : ∀ g off cap w', RowAt w' base size (.slice (Option.some ⟨g, off, none⟩) (n + m) cap) (n + m) (xs ++ news) → w.grownBy w' (some g0) → K (a.put o.dst (.slice (Option.some ⟨g, off, none⟩) (n + m) cap)) w') :
    if Region.wanted o (yielded ops a.tmps) = true then Oper.wp P o a w K Q else E := by
  have hw : Region.wanted o (yielded ops a.tmps) = true := by simp [Region.wanted, hgd]
  rw [if_pos hw]
  obtain ⟨g, off, cap, w', hr, h2, h3⟩ := run_row_any (P := P) w t o.type base e i z size bytes ht hi hz hsize hby hzs hsz g0 off0 n cap0 xs hown ad m c news hl hnews h1 h63 hbytes hbase
  unfold Oper.wp execOp
  simp only [ho, resolve, invoke, builtin, Sem.run_bind, Sem.run_pure, Result.andThen_ok, List.map_toArray, List.map_cons, List.map_nil, hs, hx, hr]
  exact h g off cap w' h2 h3
end

/-- Runners' cells. -/
def rv (D Pn La : Nat → Int) : Nat → List Value
  | 0 => []
  | k + 1 => rv D Pn La k ++ [.int .i64 (D k), .int .i64 (Pn k), .int .i64 (La k)]
theorem rv_len (D Pn La : Nat → Int) (k : Nat) : (rv D Pn La k).length = k * 3 := by
  induction k with
  | zero => rfl
  | succ k ih => show (rv D Pn La k ++ _).length = _; rw [List.length_append, ih]; simp; omega
theorem rv_get (D Pn La : Nat → Int) (k j r : Nat) (hj : j < k) (hr : r < 3) : (rv D Pn La k)[j * 3 + r]? = [Value.int .i64 (D j), .int .i64 (Pn j), .int .i64 (La j)][r]? := by
  induction k with
  | zero => omega
  | succ k ih =>
    show (rv D Pn La k ++ _)[j * 3 + r]? = _
    by_cases h : j < k
    · rw [List.getElem?_append_left (by rw [rv_len]; omega)]; exact ih h
    · obtain rfl : j = k := by omega
      rw [List.getElem?_append_right (by rw [rv_len]; omega), rv_len, show j * 3 + r - j * 3 = r by omega]
theorem rv_one (D Pn La : Nat → Int) (k : Nat) (u : Value) (h : u ∈ rv D Pn La k) : u.oneCell' = true := by
  induction k with
  | zero => cases h
  | succ k ih =>
    rcases List.mem_append.1 h with h | h
    · exact ih h
    · simp at h; rcases h with rfl | rfl | rfl <;> rfl
theorem runs_of_row {w : World} {base : Nat} {v : Value} {n : Nat} {D Pn La : Nat → Int} (h : RowAt w base 3 v n (rv D Pn La n)) : Runs w v n D Pn La := by
  obtain ⟨p, cap, rfl⟩ := h.form
  refine ⟨p, cap, rfl, h.cap_ge', fun hn => ?_⟩
  obtain ⟨g, off, hp, hb, hg, hc, hcl, _⟩ := h.some hn
  refine ⟨g, off, hp, hg, fun j hj => ?_⟩
  have a := fun r (hr : r < 3) => (hcl (j * 3 + r) (by omega)).trans (rv_get D Pn La n j r hj hr)
  exact ⟨a 0 (by omega), a 1 (by omega), a 2 (by omega)⟩
/-- One left out. -/
def skip (f : Nat → Int) (at_ j : Nat) : Int := if j < at_ then f j else f (j + 1)
theorem rv_skip_lo (D Pn La : Nat → Int) (a k : Nat) (h : k ≤ a) : rv (fun j => skip D a j) (fun j => skip Pn a j) (fun j => skip La a j) k = rv D Pn La k := by
  induction k with
  | zero => rfl
  | succ k ih =>
    show rv _ _ _ k ++ _ = rv _ _ _ k ++ _
    rw [ih (by omega)]
    simp only [skip, if_pos (show k < a by omega)]
theorem rv_skip (D Pn La : Nat → Int) (a k : Nat) (h : a ≤ k) : rv (fun j => skip D a j) (fun j => skip Pn a j) (fun j => skip La a j) k = rv D Pn La a ++ (rv D Pn La (k + 1)).drop ((a + 1) * 3) := by
  induction k with
  | zero =>
    obtain rfl : a = 0 := by omega
    rfl
  | succ k ih =>
    by_cases e : a = k + 1
    · subst e
      rw [rv_skip_lo _ _ _ _ _ (Nat.le_refl _), List.drop_eq_nil_of_le (by rw [rv_len]; omega), List.append_nil]
    · show rv _ _ _ k ++ _ = _
      rw [ih (by omega)]
      have e2 : rv D Pn La (k + 1 + 1) = rv D Pn La (k + 1) ++ [.int .i64 (D (k + 1)), .int .i64 (Pn (k + 1)), .int .i64 (La (k + 1))] := rfl
      rw [e2, List.drop_append_of_le_length (by rw [rv_len]; omega), List.append_assoc]
      simp only [skip, if_neg (show ¬ k < a by omega)]
theorem info_runner : ∃ i, Try.prog.info? 25 = some i ∧ i.zero = some (.agg #[.int .i64 0, .int .i64 0, .int .i64 0]) ∧ i.size = 3 ∧ i.bytes = 24 := by
  have h : (Try.prog.info? 25).map (fun i => (i.zero, i.size, i.bytes)) = some (some (.agg #[.int .i64 0, .int .i64 0, .int .i64 0]), 3, 24) := by kernel_rfl
  obtain ⟨i, hi, hb⟩ := Option.map_eq_some_iff.1 h
  simp only [Prod.mk.injEq] at hb
  exact ⟨i, hi, hb.1, hb.2.1, hb.2.2⟩
end Go.Proofs.Ytnjdomfhjhlamaa
