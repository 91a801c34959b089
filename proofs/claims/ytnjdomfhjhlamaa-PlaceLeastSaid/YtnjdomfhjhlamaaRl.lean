/- A row that the walk owns, wherever in its block it begins (behind 's = s[1:]'): told by its cells; and append onto it. No function of the program is named. -/
import Derived.Test.YtnjdomfhjhlamaaRows
import Derived.ArgAppend
import Derived.Deep.AppendLies
import Derived.WalkKit
namespace Go.Proofs.Ytnjdomfhjhlamaa
open Go.RowKit
set_option linter.unusedVariables false
set_option linter.unusedSimpArgs false

/-- A row of n elements of sz cells each: nil, or somewhere in a block at base or above, its cells there up to its capacity and not frozen. -/
def RowAt (w : World) (base sz : Nat) (v : Value) (n : Nat) (xs : List Value) : Prop :=
  xs.length = n * sz ∧ ((v = .slice none 0 0 ∧ n = 0) ∨ ∃ g off cap, v = .slice (some ⟨g, off, none⟩) n cap ∧ base ≤ g ∧ g < w.heap.size ∧ n ≤ cap ∧
    (∀ j, j < n * sz → w.cell? ⟨g, off + j, none⟩ = xs[j]?) ∧ (∀ j, j < cap * sz → (w.cell? ⟨g, off + j, none⟩).isSome = true ∧ w.frozen? ⟨g, off + j, none⟩ = false))
theorem RowAt.nil (w : World) (base sz : Nat) : RowAt w base sz (.slice none 0 0) 0 [] := ⟨by simp, .inl ⟨rfl, rfl⟩⟩
theorem RowAt.of_owns {w : World} {base : Nat} {e : TypeId} {sz : Nat} {v : Value} {n : Nat} {xs : List Value} (h : w.ownsRow base e sz v n xs) : RowAt w base sz v n xs := by
  have h' := h
  refine ⟨h.1, ?_⟩
  rcases h.2 with h | ⟨g, cap, cur, rfl, hb, hg, hc, _, hsz, _⟩
  · exact .inl h
  · refine .inr ⟨g, 0, cap, rfl, hb, (Array.getElem?_eq_some_iff.1 hg).1, hc, fun j hj => by rw [Nat.zero_add]; exact h'.cellAt j hj, fun j hj => ?_⟩
    have hlt : j < cur.size := by omega
    rw [Nat.zero_add]
    constructor
    · simp [World.cell?, hg, hlt]
    · simp [World.frozen?, hg]
theorem RowAt.lt {w : World} {base sz : Nat} {v : Value} {n : Nat} {xs : List Value} (h : RowAt w base sz v n xs) (g : Nat) (hg : v.ownBlock = some g) : base ≤ g ∧ g < w.heap.size := by
  rcases h.2 with ⟨rfl, _⟩ | ⟨g', off, cap, rfl, hb, hs, _⟩
  · cases hg
  · simp [Value.ownBlock] at hg; subst hg; exact ⟨hb, hs⟩
theorem RowAt.block {w w' : World} {base sz : Nat} {v : Value} {n : Nat} {xs : List Value} (h : RowAt w base sz v n xs) (hs : w.heap.size ≤ w'.heap.size) (k : ∀ g, v.ownBlock = some g → w'.heap[g]? = w.heap[g]?) : RowAt w' base sz v n xs := by
  refine ⟨h.1, ?_⟩
  rcases h.2 with h | ⟨g, off, cap, rfl, hb, hg, hc, h1, h2⟩
  · exact .inl h
  · have e := k g rfl
    exact .inr ⟨g, off, cap, rfl, hb, Nat.lt_of_lt_of_le hg hs, hc, fun j hj => (World.cell?_of_block (w := w) (a := ⟨g, off + j, none⟩) e).trans (h1 j hj), fun j hj => by
      rw [World.cell?_of_block (w := w) (a := ⟨g, off + j, none⟩) e, World.frozen?_of_block (w := w) (a := ⟨g, off + j, none⟩) e]; exact h2 j hj⟩
theorem RowAt.mono {w : World} {base base' sz : Nat} {v : Value} {n : Nat} {xs : List Value} (h : RowAt w base sz v n xs) (hb : base' ≤ base) : RowAt w base' sz v n xs := by
  refine ⟨h.1, ?_⟩
  rcases h.2 with h | ⟨g, off, cap, rfl, hb', r⟩
  · exact .inl h
  · exact .inr ⟨g, off, cap, rfl, by omega, r⟩
theorem RowAt.alloc {w : World} {base sz : Nat} {v : Value} {n : Nat} {xs : List Value} (h : RowAt w base sz v n xs) (o : Obj) : RowAt (w.alloc o) base sz v n xs :=
  h.block (by simp) (fun g hg => Below.heap_alloc _ _ _ (h.lt g hg).2)
theorem RowAt.drew {w : World} {base sz : Nat} {v : Value} {n : Nat} {xs : List Value} (h : RowAt w base sz v n xs) : RowAt w.drew base sz v n xs := h.block (Nat.le_refl _) (fun _ _ => rfl)
theorem RowAt.form {w : World} {base sz : Nat} {v : Value} {n : Nat} {xs : List Value} (h : RowAt w base sz v n xs) : ∃ p cap, v = .slice p n cap := by
  rcases h.2 with ⟨rfl, rfl⟩ | ⟨g, off, cap, rfl, _⟩ <;> exact ⟨_, _, rfl⟩
/-- One that is not empty. -/
theorem RowAt.some {w : World} {base sz : Nat} {p : Option Addr} {n cap : Nat} {xs : List Value} (h : RowAt w base sz (.slice p n cap) n xs) (hn : 0 < n) :
    ∃ g off, p = some ⟨g, off, none⟩ ∧ base ≤ g ∧ g < w.heap.size ∧ n ≤ cap ∧ (∀ j, j < n * sz → w.cell? ⟨g, off + j, none⟩ = xs[j]?) ∧ (∀ j, j < cap * sz → (w.cell? ⟨g, off + j, none⟩).isSome = true ∧ w.frozen? ⟨g, off + j, none⟩ = false) := by
  rcases h.2 with ⟨_, h0⟩ | ⟨g, off, c, hv, hb, hg, hc, h1, h2⟩
  · omega
  · injection hv with e1 e2 e3
    subst e1 e3
    exact ⟨g, off, rfl, hb, hg, hc, h1, h2⟩
/-- Behind '[1:]', some capacity being left: the first element is gone. -/
theorem RowAt.tail {w : World} {base sz g off n cap : Nat} {x xs : List Value} (h : RowAt w base sz (.slice (Option.some ⟨g, off, none⟩) (n + 1) cap) (n + 1) (x ++ xs)) (hx : x.length = sz) (off' : Nat) (ho : off' = off + sz ∨ cap = 1) : RowAt w base sz (.slice (Option.some ⟨g, off', none⟩) n (cap - 1)) n xs := by
  obtain ⟨hl, h⟩ := h
  rw [List.length_append, hx, Nat.add_mul, Nat.one_mul] at hl
  refine ⟨by omega, .inr ?_⟩
  rcases h with ⟨hv, _⟩ | ⟨g', o', c', hv, hb, hg, hc, h1, h2⟩
  · cases hv
  · injection hv with e1 e2 e3
    injection e1 with e1
    injection e1 with e1 e4
    subst e1 e3 e4
    rcases ho with rfl | rfl
    · refine ⟨g, off + sz, cap - 1, rfl, hb, hg, by omega, fun j hj => ?_, fun j hj => ?_⟩
      · rw [Nat.add_assoc, h1 (sz + j) (by rw [Nat.add_mul]; omega), List.getElem?_append_right (by omega), hx, Nat.add_sub_cancel_left]
      · rw [Nat.add_assoc]
        exact h2 (sz + j) (by rw [Nat.sub_mul] at hj; have : 1 * sz ≤ cap * sz := Nat.mul_le_mul_right _ (by omega); omega)
    · have : n = 0 := by omega
      subst this
      exact ⟨g, off', 0, rfl, hb, hg, by omega, fun j hj => by omega, fun j hj => by omega⟩

theorem RowAt.cap_ge' {w : World} {base sz len cap : Nat} {p : Option Addr} {xs : List Value} (h : RowAt w base sz (.slice p len cap) len xs) : len ≤ cap := by
  rcases h.2 with ⟨_, h0⟩ | ⟨g, off, c, hv, _, _, hc, _⟩
  · omega
  · injection hv with e1 e2 e3; omega
/-- A smaller capacity. -/
theorem RowAt.clip {w : World} {base sz n cap cap' : Nat} {p : Option Addr} {xs : List Value} (h : RowAt w base sz (.slice p n cap) n xs) (h1 : n ≤ cap') (h2 : cap' ≤ cap) : RowAt w base sz (.slice p n cap') n xs := by
  refine ⟨h.1, ?_⟩
  rcases h.2 with ⟨hv, h0⟩ | ⟨g, off, c, hv, hb, hg, hc, hx, hs⟩
  · injection hv with e1 e2 e3
    exact .inl ⟨by rw [e1, h0, show cap' = 0 by omega], h0⟩
  · injection hv with e1 e2 e3
    subst e1 e3
    exact .inr ⟨g, off, cap', rfl, hb, hg, h1, hx, fun j hj => hs j (Nat.lt_of_lt_of_le hj (Nat.mul_le_mul_right _ h2))⟩

section
variable {P : Program} (w : World)
theorem tape_setCells (g : Nat) : ∀ (vs : List Value) (o : Nat) (w : World), (w.setCells g o vs).tape = w.tape
  | [], _, _ => rfl
  | v :: r, o, w => by rw [World.setCells, tape_setCells g r]; rfl
/-- THE LAW. -/
theorem run_row_lies (t ty : TypeId) (base : Nat) (e : TypeId) (i : TypeInfo) (z : Value) (size bytes : Nat) (ht : P.underlying t = Option.some (.slice e)) (hi : P.info? e = Option.some i) (hz : i.zero = Option.some z)
    (hsize : i.size = size) (hby : i.bytes = bytes) (hzs : z.cells.size = size) (hsz : 0 < size)
    (v : Value) (n : Nat) (xs : List Value) (hown : RowAt w base size v n xs)
    (ad : Addr) (m c : Nat) (news : List Value) (hl : news.length = m * size) (hnews : ∀ j u, news[j]? = Option.some u → w.cell? (ad.add j) = Option.some u) (h1 : ∀ u ∈ news, u.oneCell' = true)
    (hm : 0 < m) (h63 : n + m ≤ maxLen) (hbytes : (n + m) * bytes ≤ 140737488355328) (hbase : base ≤ w.heap.size) :
    ∃ g off cap w', (Builtin.append_ #[t, t] ty #[v, .slice (Option.some ad) m c]).run P w = .ok (.slice (Option.some ⟨g, off, none⟩) (n + m) cap) w' ∧
      RowAt w' base size (.slice (Option.some ⟨g, off, none⟩) (n + m) cap) (n + m) (xs ++ news) ∧ w.grownBy w' v.ownBlock ∧ (v.ownBlock = Option.some g ∨ w.heap.size ≤ g) ∧ g < w'.heap.size := by
  obtain ⟨hxl, h⟩ := hown
  rcases h with ⟨rfl, rfl⟩ | ⟨g, off, cap, rfl, hb, hg, hc, hcl, hsp⟩
  · obtain rfl : xs = [] := List.eq_nil_of_length_eq_zero (by simpa using hxl)
    obtain ⟨g, cap, w', hr, h2, h3, h4, h5⟩ := run_append_lies (P := P) w t ty base e i z size bytes ht hi hz hsize hby hzs hsz (.slice none 0 0) 0 [] (World.ownsRow_nil w _ e size) ad m c news hl hnews h1 hm h63 hbytes hbase w.heap.size rfl
    exact ⟨g, 0, cap, w', hr, RowAt.of_owns h2, h3, h4.imp id (fun e => by omega), h5⟩
  · by_cases hr : n + m ≤ cap
    · subst hsize
      have hin : ∀ j, j < news.length → (w.cell? ⟨g, off + n * i.size + j, none⟩).isSome = true ∧ w.frozen? ⟨g, off + n * i.size + j, none⟩ = false := fun j hj => by
        rw [Nat.add_assoc]
        refine hsp _ ?_
        have : (n + m) * i.size ≤ cap * i.size := Nat.mul_le_mul_right _ hr
        rw [Nat.add_mul] at this
        omega
      have hrun := run_append_room_cells (P := P) w t ty e i ht hi g off n cap ad m c news hl hnews h1 hr (fun j hj => (hin j hj).1) (fun j hj => (hin j hj).2)
      have hk := World.keptBut_setCells g (may := fun p => p.block = g) news (off + n * i.size) w (fun _ _ => rfl)
      refine ⟨g, off, cap, _, hrun, ⟨?_, .inr ⟨g, off, cap, rfl, hb, Nat.lt_of_lt_of_le hg hk.size, hr, fun j hj => ?_, fun j hj => ?_⟩⟩, ⟨hk.1, ?_, hk.2.1, hk.size, fun k hk2 hne => hk.block hk2 (fun _ hp e => hne (by rw [← hp] at *; simp [Value.ownBlock]; exact e.symm ▸ rfl))⟩, .inl rfl, Nat.lt_of_lt_of_le hg hk.size⟩
      · rw [List.length_append, hxl, hl, Nat.add_mul]
      · by_cases hj2 : j < n * i.size
        · rw [List.getElem?_append_left (by omega)]
          exact (World.cell?_setCells_out g news _ w ⟨g, off + j, none⟩ (fun _ _ => Or.inl (by show off + j < off + n * i.size; omega))).trans (hcl j hj2)
        · rw [Nat.add_mul] at hj
          obtain ⟨j', rfl⟩ : ∃ j', j = n * i.size + j' := ⟨j - n * i.size, by omega⟩
          have hj3 : j' < news.length := by omega
          rw [List.getElem?_append_right (by omega), hxl, Nat.add_sub_cancel_left, ← Nat.add_assoc, List.getElem?_eq_getElem hj3]
          exact World.cell?_setCells_in g news (off + n * i.size) w (fun j hj => (hin j hj).1) j' hj3
      · refine ⟨?_, by rw [World.frozen?_setCells]; exact (hsp j hj).2⟩
        by_cases hj2 : j < n * i.size ∨ n * i.size + news.length ≤ j
        · rw [World.cell?_setCells_out g news _ w ⟨g, off + j, none⟩ (fun _ _ => by show off + j < off + n * i.size ∨ off + n * i.size + news.length ≤ off + j; omega)]
          exact (hsp j hj).1
        · obtain ⟨j', rfl⟩ : ∃ j', j = n * i.size + j' := ⟨j - n * i.size, by omega⟩
          have hj3 : j' < news.length := by omega
          rw [← Nat.add_assoc, World.cell?_setCells_in g news (off + n * i.size) w (fun j hj => (hin j hj).1) j' hj3]
          rfl
      · exact tape_setCells g news _ w
    · obtain ⟨v', w', hr2, r1, r2⟩ := run_append_arg_grows (P := P) w t ty e i z size bytes ht hi hz hsize hby hzs hsz ⟨g, off, none⟩ n cap xs hxl (fun j u hj => by
        rw [Addr.add_lit]
        have hlt := (List.getElem?_eq_some_iff.1 hj).1
        exact (hcl j (by omega)).trans hj) ad m c news hl hnews (by omega) h63 hbytes
      obtain ⟨g', cap', rfl, hb', hg'⟩ := r1.form (by omega)
      exact ⟨g', 0, cap', w', hr2, (RowAt.of_owns r1).mono hbase, ⟨r2.os, r2.tape, r2.output, r2.size, fun k hk _ => r2.block k hk (by simp)⟩, .inr hb', hg'⟩
/-- At the operation. -/
theorem wp_row_lies {o : Oper} {a : Act} {K : Act → World → Prop} {Q : Exit → Act → World → Prop} (s x : Operand) (t : TypeId)
    (ho : o.op = .call { callee := .builtin .append, args := #[s, x], argTypes := #[t, t] })
    (base : Nat) (e : TypeId) (i : TypeInfo) (z : Value) (size bytes : Nat) (ht : P.underlying t = Option.some (.slice e)) (hi : P.info? e = Option.some i) (hz : i.zero = Option.some z)
    (hsize : i.size = size) (hby : i.bytes = bytes) (hzs : z.cells.size = size) (hsz : 0 < size)
    (v : Value) (n : Nat) (xs : List Value) (hs : a.eval s = v) (hown : RowAt w base size v n xs)
    (ad : Addr) (m c : Nat) (news : List Value) (hx : a.eval x = .slice (Option.some ad) m c) (hl : news.length = m * size) (hnews : ∀ j u, news[j]? = Option.some u → w.cell? (ad.add j) = Option.some u) (h1 : ∀ u ∈ news, u.oneCell' = true)
    (hm : 0 < m) (h63 : n + m ≤ maxLen) (hbytes : (n + m) * bytes ≤ 140737488355328) (hbase : base ≤ w.heap.size)
    (h : ∀ g off cap w', RowAt w' base size (.slice (Option.some ⟨g, off, none⟩) (n + m) cap) (n + m) (xs ++ news) → w.grownBy w' v.ownBlock → (v.ownBlock = Option.some g ∨ w.heap.size ≤ g) → g < w'.heap.size → K (a.put o.dst (.slice (Option.some ⟨g, off, none⟩) (n + m) cap)) w') : o.wp P a w K Q := by
  obtain ⟨g, off, cap, w', hr, h2, h3, h4, h5⟩ := run_row_lies (P := P) w t o.type base e i z size bytes ht hi hz hsize hby hzs hsz v n xs hown ad m c news hl hnews h1 hm h63 hbytes hbase
  unfold Oper.wp execOp
  simp only [ho, resolve, invoke, builtin, Sem.run_bind, Sem.run_pure, Result.andThen_ok, List.map_toArray, List.map_cons, List.map_nil, hs, hx, hr]
  exact h g off cap w' h2 h3 h4 h5
/-- At the list of a plain region's operations. -/
theorem wpList_row_lies {ops : Array Oper} {rest : List Oper} {o : Oper} {a : Act} {Q : Exit → Act → World → Prop} (hgd : o.guard = none) (s x : Operand) (t : TypeId)
    (ho : o.op = .call { callee := .builtin .append, args := #[s, x], argTypes := #[t, t] })
    (base : Nat) (e : TypeId) (i : TypeInfo) (z : Value) (size bytes : Nat) (ht : P.underlying t = Option.some (.slice e)) (hi : P.info? e = Option.some i) (hz : i.zero = Option.some z)
    (hsize : i.size = size) (hby : i.bytes = bytes) (hzs : z.cells.size = size) (hsz : 0 < size)
    (v : Value) (n : Nat) (xs : List Value) (hs : a.eval s = v) (hown : RowAt w base size v n xs)
    (ad : Addr) (m c : Nat) (news : List Value) (hx : a.eval x = .slice (Option.some ad) m c) (hl : news.length = m * size) (hnews : ∀ j u, news[j]? = Option.some u → w.cell? (ad.add j) = Option.some u) (h1 : ∀ u ∈ news, u.oneCell' = true)
    (hm : 0 < m) (h63 : n + m ≤ maxLen) (hbytes : (n + m) * bytes ≤ 140737488355328) (hbase : base ≤ w.heap.size)
    (h : ∀ g off cap w', RowAt w' base size (.slice (Option.some ⟨g, off, none⟩) (n + m) cap) (n + m) (xs ++ news) → w.grownBy w' v.ownBlock → (v.ownBlock = Option.some g ∨ w.heap.size ≤ g) → g < w'.heap.size → wpList P ops Q rest (a.put o.dst (.slice (Option.some ⟨g, off, none⟩) (n + m) cap)) w') : wpList P ops Q (o :: rest) a w :=
  wpList_plain hgd fun _ hK => wp_row_lies w s x t ho base e i z size bytes ht hi hz hsize hby hzs hsz v n xs hs hown ad m c news hx hl hnews h1 hm h63 hbytes hbase fun g off cap w' h2 h3 h4 h5 => hK _ _ (h g off cap w' h2 h3 h4 h5)
/-- At a step of a region that draws its order. -/
theorem step_row_lies {ops : Array Oper} {o : Oper} {a : Act} {K : Act → World → Prop} {Q : Exit → Act → World → Prop} {E : Prop} (hgd : o.guard = none) (s x : Operand) (t : TypeId)
    (ho : o.op = .call { callee := .builtin .append, args := #[s, x], argTypes := #[t, t] })
    (base : Nat) (e : TypeId) (i : TypeInfo) (z : Value) (size bytes : Nat) (ht : P.underlying t = Option.some (.slice e)) (hi : P.info? e = Option.some i) (hz : i.zero = Option.some z)
    (hsize : i.size = size) (hby : i.bytes = bytes) (hzs : z.cells.size = size) (hsz : 0 < size)
    (v : Value) (n : Nat) (xs : List Value) (hs : a.eval s = v) (hown : RowAt w base size v n xs)
    (ad : Addr) (m c : Nat) (news : List Value) (hx : a.eval x = .slice (Option.some ad) m c) (hl : news.length = m * size) (hnews : ∀ j u, news[j]? = Option.some u → w.cell? (ad.add j) = Option.some u) (h1 : ∀ u ∈ news, u.oneCell' = true)
    (hm : 0 < m) (h63 : n + m ≤ maxLen) (hbytes : (n + m) * bytes ≤ 140737488355328) (hbase : base ≤ w.heap.size)
    (h : ∀ g off cap w', RowAt w' base size (.slice (Option.some ⟨g, off, none⟩) (n + m) cap) (n + m) (xs ++ news) → w.grownBy w' v.ownBlock → (v.ownBlock = Option.some g ∨ w.heap.size ≤ g) → g < w'.heap.size → K (a.put o.dst (.slice (Option.some ⟨g, off, none⟩) (n + m) cap)) w') :
    if Region.wanted o (yielded ops a.tmps) = true then Oper.wp P o a w K Q else E := by
  have hw : Region.wanted o (yielded ops a.tmps) = true := by simp [Region.wanted, hgd]
  rw [if_pos hw]
  exact wp_row_lies w s x t ho base e i z size bytes ht hi hz hsize hby hzs hsz v n xs hs hown ad m c news hx hl hnews h1 hm h63 hbytes hbase h
end
end Go.Proofs.Ytnjdomfhjhlamaa
