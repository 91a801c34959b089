/- Plain part of PlaceOrder; append of a whole row, nil too, onto a row that is not nil; a cell of a row set. -/
import Derived.Test.YtnjdomfhjhlamaaPd
namespace Go.Proofs.Ytnjdomfhjhlamaa
open Go.RowKit
set_option linter.unusedVariables false
set_option linter.unusedSimpArgs false

section
variable {P : Program} (w : World)
theorem run_row_of (t ty : TypeId) (base base' : Nat) (e : TypeId) (i : TypeInfo) (z : Value) (size bytes : Nat) (ht : P.underlying t = Option.some (.slice e)) (hi : P.info? e = Option.some i) (hz : i.zero = Option.some z)
    (hsize : i.size = size) (hby : i.bytes = bytes) (hzs : z.cells.size = size) (hsz : 0 < size)
    (g0 off0 n cap0 : Nat) (xs : List Value) (hown : RowAt w base size (.slice (some ⟨g0, off0, none⟩) n cap0) n xs)
    (r : Value) (m : Nat) (ys : List Value) (hr : RowAt w base' size r m ys) (h1 : ∀ u ∈ ys, u.oneCell' = true)
    (h63 : n + m ≤ maxLen) (hbytes : (n + m) * bytes ≤ 140737488355328) (hbase : base ≤ w.heap.size) :
    ∃ g off cap w', (Builtin.append_ #[t, t] ty #[.slice (some ⟨g0, off0, none⟩) n cap0, r]).run P w = .ok (.slice (Option.some ⟨g, off, none⟩) (n + m) cap) w' ∧
      RowAt w' base size (.slice (Option.some ⟨g, off, none⟩) (n + m) cap) (n + m) (xs ++ ys) ∧ w.grownBy w' (some g0) := by
  obtain ⟨hl, hr⟩ := hr
  rcases hr with ⟨rfl, rfl⟩ | ⟨g, off, c, rfl, _, _, _, hx, _⟩
  · obtain rfl : ys = [] := List.eq_nil_of_length_eq_zero (by simpa using hl)
    have hc := hown.cap_ge'
    exact ⟨g0, off0, cap0, w, by simp [Builtin.append_, run_underlying ht, sizeOf, typeInfo, hi, Builtin.lenOf, Builtin.firstCells, hc, storeCells], by simpa using hown, ⟨rfl, rfl, rfl, Nat.le_refl _, fun _ _ _ => rfl⟩⟩
  · exact run_row_any w t ty base e i z size bytes ht hi hz hsize hby hzs hsz g0 off0 n cap0 xs hown ⟨g, off, none⟩ m c ys hl (fun j u hj => by
      rw [Addr.add_lit, hx j (by rw [← hl]; exact (List.getElem?_eq_some_iff.1 hj).1)]; exact hj) h1 h63 hbytes hbase
theorem wpList_row_of {ops : Array Oper} {rest : List Oper} {o : Oper} {a : Act} {Q : Exit → Act → World → Prop} (hgd : o.guard = none) (s x : Operand) (t : TypeId)
    (ho : o.op = .call { callee := .builtin .append, args := #[s, x], argTypes := #[t, t] })
    (base base' : Nat) (e : TypeId) (i : TypeInfo) (z : Value) (size bytes : Nat) (ht : P.underlying t = Option.some (.slice e)) (hi : P.info? e = Option.some i) (hz : i.zero = Option.some z)
    (hsize : i.size = size) (hby : i.bytes = bytes) (hzs : z.cells.size = size) (hsz : 0 < size)
    (g0 off0 n cap0 : Nat) (xs : List Value) (hs : a.eval s = .slice (some ⟨g0, off0, none⟩) n cap0) (hown : RowAt w base size (.slice (some ⟨g0, off0, none⟩) n cap0) n xs)
    (r : Value) (m : Nat) (ys : List Value) (hx : a.eval x = r) (hr : RowAt w base' size r m ys) (h1 : ∀ u ∈ ys, u.oneCell' = true)
    (h63 : n + m ≤ maxLen) (hbytes : (n + m) * bytes ≤ 140737488355328) (hbase : base ≤ w.heap.size)
    (h : ∀ g off cap w', RowAt w' base size (.slice (Option.some ⟨g, off, none⟩) (n + m) cap) (n + m) (xs ++ ys) → w.grownBy w' (some g0) → wpList P ops Q rest (a.put o.dst (.slice (Option.some ⟨g, off, none⟩) (n + m) cap)) w') : wpList P ops Q (o :: rest) a w :=
  wpList_plain hgd fun _ hK => by
    obtain ⟨g, off, cap, w', hrr, h2, h3⟩ := run_row_of (P := P) w t o.type base base' e i z size bytes ht hi hz hsize hby hzs hsz g0 off0 n cap0 xs hown r m ys hr h1 h63 hbytes hbase
    unfold Oper.wp execOp
    simp only [ho, resolve, invoke, builtin, Sem.run_bind, Sem.run_pure, Result.andThen_ok, List.map_toArray, List.map_cons, List.map_nil, hs, hx, hrr]
    exact hK _ _ (h g off cap w' h2 h3)
end
/-- A cell of a row is set. -/
theorem RowAt.setCell {w : World} {base sz g off n cap : Nat} {xs : List Value} (h : RowAt w base sz (.slice (Option.some ⟨g, off, none⟩) n cap) n xs) (j : Nat) (hj : j < n * sz) (u : Value) : RowAt (w.setCell ⟨g, off + j, none⟩ u) base sz (.slice (Option.some ⟨g, off, none⟩) n cap) n (xs.set j u) := by
  refine ⟨by rw [List.length_set]; exact h.1, ?_⟩
  rcases h.2 with ⟨hv, _⟩ | ⟨g', o', c', hv, hb, hg, hc, h1, h2⟩
  · cases hv
  · injection hv with e1 e2 e3
    injection e1 with e1
    injection e1 with e1 e4
    subst e1 e3 e4
    have hjc : j < cap * sz := Nat.lt_of_lt_of_le hj (Nat.mul_le_mul_right _ hc)
    refine .inr ⟨g, off, cap, rfl, hb, by simpa using hg, hc, fun k hk => ?_, fun k hk => ⟨?_, by rw [World.frozen?_setCell]; exact (h2 k hk).2⟩⟩
    · rw [List.getElem?_set]
      by_cases e : j = k
      · subst e
        rw [if_pos rfl, if_pos (by have := h.1; omega)]
        obtain ⟨c, hcell⟩ := Option.isSome_iff_exists.1 (h2 j hjc).1
        exact World.cell?_setCell_same _ _ _ hcell
      · rw [if_neg e, ← h1 k hk]
        exact World.cell?_setCell_other _ _ _ _ (by intro h; injection h with h1 h2; omega)
    · by_cases e : j = k
      · subst e
        obtain ⟨c, hcell⟩ := Option.isSome_iff_exists.1 (h2 j hjc).1
        rw [World.cell?_setCell_same _ _ _ hcell]; rfl
      · rw [World.cell?_setCell_other _ _ _ _ (by intro h; injection h with h1 h2; omega)]
        exact (h2 k hk).1
theorem rv_congr {D Pn La D' Pn' La' : Nat → Int} (k : Nat) (h : ∀ j, j < k → D j = D' j ∧ Pn j = Pn' j ∧ La j = La' j) : rv D Pn La k = rv D' Pn' La' k := by
  induction k with
  | zero => rfl
  | succ k ih =>
    obtain ⟨a, b, c⟩ := h k (by omega)
    show rv D Pn La k ++ _ = rv D' Pn' La' k ++ _
    rw [ih (fun j hj => h j (by omega)), a, b, c]
theorem rv_set (D Pn La : Nat → Int) (k i : Nat) (x : Int) (hi : i < k) : (rv D Pn La k).set (i * 3) (.int .i64 x) = rv (fun j => if j = i then x else D j) Pn La k := by
  induction k with
  | zero => omega
  | succ k ih =>
    show (rv D Pn La k ++ _).set _ _ = rv _ Pn La k ++ _
    by_cases e : i < k
    · rw [List.set_append_left _ _ (by rw [rv_len]; omega), ih e]
      simp only [if_neg (show ¬ k = i by omega)]
    · obtain rfl : i = k := by omega
      rw [List.set_append_right _ _ (by rw [rv_len]; omega), rv_len, Nat.sub_self]
      rw [rv_congr (D := fun j => if j = i then x else D j) (D' := D) (Pn' := Pn) (La' := La) i (fun j hj => ⟨if_neg (by omega), rfl, rfl⟩)]
      simp

/-! ### One more that ran on none -/
theorem cph_congr {f f' : Nat → Int} (s : CSt) (n : Nat) (h : ∀ j, j < n → f j = f' j) : cph f s n = cph f' s n := by
  induction n with
  | zero => rfl
  | succ n ih =>
    show ctake (cph f s n) n (f n) = ctake (cph f' s n) n (f' n)
    rw [ih (fun j hj => h j (by omega)), h n (by omega)]
theorem ctake_other (s : CSt) (i j : Nat) (c : Int) (h : j ≠ i) : (ctake s i c).1 j = s.1 j := by
  unfold ctake
  split
  · exact if_neg h
  · rfl
theorem casg_more (n : Nat) (Pn La Pn' La' : Nat → Int) (h : ∀ j, j < n → Pn' j = Pn j ∧ La' j = La j) (hp : Pn' n = -1) (hl : La' n = -1) : ∀ j, j < n → casg (n + 1) Pn' La' j = casg n Pn La j := by
  intro j hj
  have e2 : casg2 (n + 1) Pn' La' = casg2 n Pn La := by
    unfold casg2
    have e1 : cph Pn' cinit (n + 1) = cph Pn cinit n := by
      show ctake (cph Pn' cinit n) n (Pn' n) = _
      rw [hp, ctake_none, cph_congr _ n (fun j hj => (h j hj).1)]
    rw [e1]
    show ctake (cph La' _ n) n (La' n) = _
    rw [hl, ctake_none, cph_congr _ n (fun j hj => (h j hj).2)]
  unfold casg
  rw [e2, cph3_succ]
  split
  · exact ctake_other _ _ _ _ (by omega)
  · rfl
theorem cmov_congr {La c La' c' : Nat → Int} (k : Nat) (h : ∀ j, j < k → La j = La' j ∧ c j = c' j) : cmov La c k = cmov La' c' k := by
  induction k with
  | zero => rfl
  | succ k ih =>
    obtain ⟨a, b⟩ := h k (by omega)
    show cmov La c k + _ = cmov La' c' k + _
    rw [ih (fun j hj => h j (by omega)), a, b]
theorem least_more (n : Nat) (Pn La Pn' La' : Nat → Int) (h : ∀ j, j < n → Pn' j = Pn j ∧ La' j = La j) (hp : Pn' n = -1) (hl : La' n = -1) : cmov La' (casg (n + 1) Pn' La') (n + 1) = cmov La (casg n Pn La) n := by
  show cmov La' _ n + _ = _
  rw [if_neg (fun e => e.1 hl), Nat.add_zero]
  exact cmov_congr n (fun j hj => ⟨(h j hj).2, casg_more n Pn La Pn' La' h hp hl j hj⟩)
end Go.Proofs.Ytnjdomfhjhlamaa
