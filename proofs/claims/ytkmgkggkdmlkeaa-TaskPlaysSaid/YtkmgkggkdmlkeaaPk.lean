/- Contracts of the stepper's Peek, Shift, Copy. -/
import Derived.Test.YtkmgkggkdmlkeaaAdv
namespace Go.Proofs.Ytkmgkggkdmlkeaa
open Go.RowKit
set_option linter.unusedVariables false
set_option linter.unusedSimpArgs false

/-- A group's end, an offset later. -/
def shG (off g : Int) : Int := if 0 < g then g + off else g

set_option maxHeartbeats 3200000 in
theorem peek_st (b : Nat) (E P off n x0 x1 x2 x3 x4 : Int) (w : World) (h : St w b E P off n x0 x1 x2 x3 x4) (k0 : 1 ≤ x0) (k1 : 0 ≤ x1) (k1' : x1 ≤ 2305843009213693952) (k2 : 0 ≤ x2) (k2' : x2 ≤ 2305843009213693952) (k4 : 0 ≤ x4) (k4' : x4 ≤ 2305843009213693952) (o0 : 0 ≤ off) (o1 : off ≤ 2305843009213693952) :
    Calls Try.prog 37 #[.pointer (some ⟨b, 0, none⟩)] w fun e w' => e = .returned (.agg #[.int .i64 x0, .int .i64 (x1 + off), .int .i64 (x2 + off), .int .i64 x3, .int .i64 (shG off x4)]) ∧ Below w.heap.size w w' := by
  obtain ⟨_, _, h2, _, _, _, _, _, _, _, _, _, _, _, h14, h15, h16, h17, h18, hf, hs⟩ := h
  have T : (x0 == 0) = false := by rw [beq_eq_false_iff_ne]; omega
  by_cases g : 0 < x4
  · have G : Hid (shG off x4 = x4 + off) := if_pos g
    go_enter Try.func37, Try.ntmps37
    go_wp2
    go_big_region
    go_wp2
    go_big_region
    go_wp2
    go_big_region
    go_wp2
    exact bodyPost_ret (v := .agg #[.int .i64 x0, .int .i64 (x1 + off), .int .i64 (x2 + off), .int .i64 x3, .int .i64 (x4 + off)]) (by simp only [results, Try.results37]; go_simp) rfl ⟨by rw [G.out], (by repeat' (first | (with_reducible exact Below.refl _ _) | (with_reducible refine Below.alloc ?_ ?_ _) | (with_reducible refine below_drewN ?_ _) | (with_reducible refine Below.drew ?_) | (with_reducible refine Below.setCell ?_ ?_ _) | omega | (simp; omega) | (simp; done)))⟩
  · have G : Hid (shG off x4 = x4) := if_neg g
    go_enter Try.func37, Try.ntmps37
    go_wp2
    go_big_region
    go_wp2
    go_big_region
    go_wp2
    exact bodyPost_ret (v := .agg #[.int .i64 x0, .int .i64 (x1 + off), .int .i64 (x2 + off), .int .i64 x3, .int .i64 x4]) (by simp only [results, Try.results37]; go_simp) rfl ⟨by rw [G.out], (by repeat' (first | (with_reducible exact Below.refl _ _) | (with_reducible refine Below.alloc ?_ ?_ _) | (with_reducible refine below_drewN ?_ _) | (with_reducible refine Below.drew ?_) | (with_reducible refine Below.setCell ?_ ?_ _) | omega | (simp; omega) | (simp; done)))⟩

set_option maxHeartbeats 1600000 in
theorem peek_nil (w : World) : Calls Try.prog 37 #[.pointer none] w fun e w' => e = .returned (.agg #[.int .i64 0, .int .i64 0, .int .i64 0, .int .i64 0, .int .i64 0]) ∧ Below w.heap.size w w' := by
  go_enter Try.func37, Try.ntmps37
  go_wp2
  exact bodyPost_ret (v := .agg #[.int .i64 0, .int .i64 0, .int .i64 0, .int .i64 0, .int .i64 0]) (by simp only [results, Try.results37]; go_simp) rfl ⟨rfl, (by repeat' (first | (with_reducible exact Below.refl _ _) | (with_reducible refine Below.alloc ?_ ?_ _) | (with_reducible refine below_drewN ?_ _) | (with_reducible refine Below.drew ?_) | (with_reducible refine Below.setCell ?_ ?_ _) | omega | (simp; omega) | (simp; done)))⟩

set_option maxHeartbeats 1600000 in
theorem peek_zero (b : Nat) (w : World) (h : w.cell? ⟨b, 14, none⟩ = some (.int .i64 0)) (hb : b < w.heap.size) : Calls Try.prog 37 #[.pointer (some ⟨b, 0, none⟩)] w fun e w' => e = .returned (.agg #[.int .i64 0, .int .i64 0, .int .i64 0, .int .i64 0, .int .i64 0]) ∧ Below w.heap.size w w' := by
  go_enter Try.func37, Try.ntmps37
  go_wp2
  exact bodyPost_ret (v := .agg #[.int .i64 0, .int .i64 0, .int .i64 0, .int .i64 0, .int .i64 0]) (by simp only [results, Try.results37]; go_simp) rfl ⟨rfl, (by repeat' (first | (with_reducible exact Below.refl _ _) | (with_reducible refine Below.alloc ?_ ?_ _) | (with_reducible refine below_drewN ?_ _) | (with_reducible refine Below.drew ?_) | (with_reducible refine Below.setCell ?_ ?_ _) | omega | (simp; omega) | (simp; done)))⟩

set_option maxHeartbeats 1600000 in
theorem shift_no (b : Nat) (P off s : Int) (w : World) (h1 : w.cell? ⟨b, 1, none⟩ = some (.int .i64 P)) (h2 : w.cell? ⟨b, 2, none⟩ = some (.int .i64 off)) (p : 1 ≤ P) (o0 : 0 ≤ off) (o1 : off ≤ 2305843009213693952) (hs : s < 0 ∨ 2305843009213693952 - off < s) :
    Calls Try.prog 38 #[.pointer (some ⟨b, 0, none⟩), .int .i64 s] w fun e w' => e = .returned (.bool false) ∧ Below w.heap.size w w' := by
  have T : (P == 0) = false := by rw [beq_eq_false_iff_ne]; omega
  by_cases g : s < 0
  · go_enter Try.func38, Try.ntmps38
    go_wp2
    go_ret
    exact ⟨rfl, (by repeat' (first | (with_reducible exact Below.refl _ _) | (with_reducible refine Below.alloc ?_ ?_ _) | (with_reducible refine below_drewN ?_ _) | (with_reducible refine Below.drew ?_) | (with_reducible refine Below.setCell ?_ ?_ _) | omega | (simp; omega) | (simp; done)))⟩
  · have g' : 2305843009213693952 - off < s := by omega
    go_enter Try.func38, Try.ntmps38
    go_wp2
    go_ret
    exact ⟨rfl, (by repeat' (first | (with_reducible exact Below.refl _ _) | (with_reducible refine Below.alloc ?_ ?_ _) | (with_reducible refine below_drewN ?_ _) | (with_reducible refine Below.drew ?_) | (with_reducible refine Below.setCell ?_ ?_ _) | omega | (simp; omega) | (simp; done)))⟩

set_option maxHeartbeats 1600000 in
theorem shift_none (s : Int) (w : World) :
    Calls Try.prog 38 #[.pointer none, .int .i64 s] w fun e w' => e = .returned (.bool false) ∧ Below w.heap.size w w' := by
  go_enter Try.func38, Try.ntmps38
  go_wp2
  go_ret
  exact ⟨rfl, (by repeat' (first | (with_reducible exact Below.refl _ _) | (with_reducible refine Below.alloc ?_ ?_ _) | (with_reducible refine below_drewN ?_ _) | (with_reducible refine Below.drew ?_) | (with_reducible refine Below.setCell ?_ ?_ _) | omega | (simp; omega) | (simp; done)))⟩

set_option maxHeartbeats 1600000 in
theorem shift_zero (b : Nat) (s : Int) (w : World) (h1 : w.cell? ⟨b, 1, none⟩ = some (.int .i64 0)) :
    Calls Try.prog 38 #[.pointer (some ⟨b, 0, none⟩), .int .i64 s] w fun e w' => e = .returned (.bool false) ∧ Below w.heap.size w w' := by
  go_enter Try.func38, Try.ntmps38
  go_wp2
  go_ret
  exact ⟨rfl, (by repeat' (first | (with_reducible exact Below.refl _ _) | (with_reducible refine Below.alloc ?_ ?_ _) | (with_reducible refine below_drewN ?_ _) | (with_reducible refine Below.drew ?_) | (with_reducible refine Below.setCell ?_ ?_ _) | omega | (simp; omega) | (simp; done)))⟩

theorem cell_set_eq (w : World) (a : Addr) (u v : Value) (h : w.cell? a = some u) : (w.setCell a v).cell? a = some v := by
  go_simp

set_option maxHeartbeats 1600000 in
theorem shift_yes (b : Nat) (E P off n x0 x1 x2 x3 x4 s : Int) (w : World) (h : St w b E P off n x0 x1 x2 x3 x4) (p : 1 ≤ P) (o0 : 0 ≤ off) (o1 : off ≤ 2305843009213693952) (s0 : 0 ≤ s) (s1 : s ≤ 2305843009213693952 - off) :
    Calls Try.prog 38 #[.pointer (some ⟨b, 0, none⟩), .int .i64 s] w fun e w' => e = .returned (.bool true) ∧ St w' b E P (off + s) n x0 x1 x2 x3 x4 ∧ Only b w w' := by
  obtain ⟨h0, h1, h2, h3, h4, h5, h6, h7, h8, h9, h10, h11, h12, h13, h14, h15, h16, h17, h18, hf, hs⟩ := h
  have T : (P == 0) = false := by rw [beq_eq_false_iff_ne]; omega
  have g : ¬ s < 0 := by omega
  have g' : ¬ 2305843009213693952 - off < s := by omega
  go_enter Try.func38, Try.ntmps38
  go_wp2
  go_ret
  refine ⟨rfl, ?_, (by repeat' (first | (with_reducible exact Only.refl _ _) | (with_reducible refine Only.alloc ?_ _) | (with_reducible refine only_drewN ?_ _) | (with_reducible refine Only.drew ?_) | (with_reducible refine Only.setCell ?_ ?_ _) | (exact Or.inl rfl) | (right; first | omega | (simp; done) | (simp; omega)) | omega | (simp; omega) | (simp; done)))⟩
  refine ⟨?_, ?_, ?_, ?_, ?_, ?_, ?_, ?_, ?_, ?_, ?_, ?_, ?_, ?_, ?_, ?_, ?_, ?_, ?_, ?_, ?_⟩ <;> first | (go_simp; done) | (intro o; go_simp; done) | (simp; omega)

/-! Loads and stores of many cells in one step. -/
theorem wpList_load_list {P : Program} {ops : Array Oper} {rest : List Oper} {o : Oper} {a : Act} {w : World} {Q : Exit → Act → World → Prop} (hgd : o.guard = none) (ty : TypeId) (x : Operand) (ho : o.op = .load ty x)
    (ad : Addr) (hx : a.eval x = .pointer (some ad)) (cs : List Value) (d : TypeDesc) (hc : ∀ j v, cs[j]? = some v → w.cell? (ad.add j) = some v)
    (hu : P.underlying ty = some d) (hd : (match d with | .struct _ | .array _ _ => true | _ => false) = true) (hi : (P.info? ty).map (·.size) = some cs.length)
    (h : wpList P ops Q rest (a.put o.dst (.agg cs.toArray)) w) : wpList P ops Q (o :: rest) a w := by
  refine wpList_plain hgd fun K hK => ?_
  have hl : (loadCells ad cs.length).run P w = .ok cs.toArray w := run_loadCells_list (P := P) w ad cs hc
  cases hq : P.info? ty with
  | none => simp [hq] at hi
  | some i =>
    have hs : i.size = cs.length := by simpa [hq] using hi
    have hagg : (isAgg ty).run P w = .ok true w := by
      unfold isAgg
      rw [Sem.run_bind, run_underlying hu w]
      cases d <;> simp_all
    have hv : (loadVar ty ad).run P w = .ok (.agg cs.toArray) w := by
      simp [loadVar, Sem.run_bind, hagg, sizeOf, typeInfo, hq, hs, hl]
    unfold Oper.wp execOp
    simp only [ho, hx, Instr.loadAt, Instr.sureAddr, Sem.run_bind, Sem.run_pure, Result.andThen_ok, hv]
    exact hK _ _ h

theorem setRow_new (w : World) (t : TypeId) (old new : Array Value) : (w.alloc (.cells old t)).setRow w.heap.size new = w.alloc (.cells new t) := by
  unfold World.setRow World.alloc
  congr 1
  apply Array.ext_getElem?
  intro k
  simp only [Array.getElem?_modify, Array.getElem?_push]
  by_cases hk : k = w.heap.size
  · subst hk; simp
  · simp [hk, Ne.symm hk]
theorem wpList_store_new {P : Program} {ops : Array Oper} {rest : List Oper} {o : Oper} {a : Act} {w : World} {Q : Exit → Act → World → Prop} (hgd : o.guard = none) (ty : TypeId) (x y : Operand) (ho : o.op = .store ty x y)
    (t : TypeId) (old : Array Value) (cells : List Value) (hx : a.eval x = .pointer (some ⟨w.heap.size, 0, none⟩)) (hy : a.eval y = .agg cells.toArray) (n : Nat) (hn : cells.length = n) (hi : (P.info? ty).map (·.size) = some n)
    (hold : old.size = n) (h1 : ∀ v ∈ cells, v.oneCell' = true)
    (h : wpList P ops Q rest (a.put o.dst undef) (w.alloc (.cells cells.toArray t))) : wpList P ops Q (o :: rest) a (w.alloc (.cells old t)) := by
  refine wpList_store_row hgd ty x y ho w.heap.size cells.toArray hx hy t old (heap_alloc_new _ _) (by rw [hi, ← hn]; simp) (by rw [hold, ← hn]; simp) (Array.all_eq_true_iff_forall_mem.2 (by simpa using h1)) ?_
  rw [setRow_new]
  exact h

theorem wpList_alloc_new {P : Program} {ops : Array Oper} {rest : List Oper} {o : Oper} {a : Act} {w : World} {Q : Exit → Act → World → Prop} (hgd : o.guard = none) (ty : TypeId) (ho : o.op = .alloc ty)
    (z : Array Value) (hi : (P.info? ty).bind (·.zero) = some (.agg z))
    (h : wpList P ops Q rest (a.put o.dst (.pointer (some ⟨w.heap.size, 0, none⟩))) (w.alloc (.cells z ty))) : wpList P ops Q (o :: rest) a w := by
  refine wpList_plain hgd fun K hK => ?_
  cases hq : P.info? ty with
  | none => simp [hq] at hi
  | some i =>
    have hs : i.zero = some (.agg z) := by simpa [hq] using hi
    have hz : (zeroValue ty).run P w = .ok (.agg z) w := by
      simp [zeroValue, typeInfo, hq, hs]
    have hv : (Instr.alloc ty true (.tuple #[])).run P w = .ok (.pointer (some ⟨w.heap.size, 0, none⟩)) (w.alloc (.cells z ty)) := by
      simp [Instr.alloc, Sem.run_bind, hz, newVar, newRow, newObj, Value.cells]
      rfl
    unfold Oper.wp execOp
    simp only [ho, Sem.run_bind, Sem.run_pure, Result.andThen_ok, hv]
    exact hK _ _ h

theorem cells19 {w : World} {b : Nat} {z0 z1 z2 z3 z4 z5 z6 z7 z8 z9 z10 z11 z12 z13 z14 z15 z16 z17 z18 : Int}
    (h0 : w.cell? ⟨b, 0, none⟩ = some (.int .i64 z0)) (h1 : w.cell? ⟨b, 1, none⟩ = some (.int .i64 z1)) (h2 : w.cell? ⟨b, 2, none⟩ = some (.int .i64 z2)) (h3 : w.cell? ⟨b, 3, none⟩ = some (.int .i64 z3)) (h4 : w.cell? ⟨b, 4, none⟩ = some (.int .i64 z4)) (h5 : w.cell? ⟨b, 5, none⟩ = some (.int .i64 z5)) (h6 : w.cell? ⟨b, 6, none⟩ = some (.int .i64 z6)) (h7 : w.cell? ⟨b, 7, none⟩ = some (.int .i64 z7)) (h8 : w.cell? ⟨b, 8, none⟩ = some (.int .i64 z8)) (h9 : w.cell? ⟨b, 9, none⟩ = some (.int .i64 z9)) (h10 : w.cell? ⟨b, 10, none⟩ = some (.int .i64 z10)) (h11 : w.cell? ⟨b, 11, none⟩ = some (.int .i64 z11)) (h12 : w.cell? ⟨b, 12, none⟩ = some (.int .i64 z12)) (h13 : w.cell? ⟨b, 13, none⟩ = some (.int .i64 z13)) (h14 : w.cell? ⟨b, 14, none⟩ = some (.int .i64 z14)) (h15 : w.cell? ⟨b, 15, none⟩ = some (.int .i64 z15)) (h16 : w.cell? ⟨b, 16, none⟩ = some (.int .i64 z16)) (h17 : w.cell? ⟨b, 17, none⟩ = some (.int .i64 z17)) (h18 : w.cell? ⟨b, 18, none⟩ = some (.int .i64 z18)) :
    ∀ j v, [Value.int .i64 z0, .int .i64 z1, .int .i64 z2, .int .i64 z3, .int .i64 z4, .int .i64 z5, .int .i64 z6, .int .i64 z7, .int .i64 z8, .int .i64 z9, .int .i64 z10, .int .i64 z11, .int .i64 z12, .int .i64 z13, .int .i64 z14, .int .i64 z15, .int .i64 z16, .int .i64 z17, .int .i64 z18][j]? = some v → w.cell? ((⟨b, 0, none⟩ : Addr).add j) = some v := by
  intro j v hj
  have hadd : (⟨b, 0, none⟩ : Addr).add j = ⟨b, j, none⟩ := by unfold Addr.add; split <;> simp_all
  rw [hadd]
  match j, hj with
  | 0, hj => simp only [List.getElem?_cons_zero, List.getElem?_cons_succ, Option.some.injEq] at hj; subst hj; exact h0
  | 1, hj => simp only [List.getElem?_cons_zero, List.getElem?_cons_succ, Option.some.injEq] at hj; subst hj; exact h1
  | 2, hj => simp only [List.getElem?_cons_zero, List.getElem?_cons_succ, Option.some.injEq] at hj; subst hj; exact h2
  | 3, hj => simp only [List.getElem?_cons_zero, List.getElem?_cons_succ, Option.some.injEq] at hj; subst hj; exact h3
  | 4, hj => simp only [List.getElem?_cons_zero, List.getElem?_cons_succ, Option.some.injEq] at hj; subst hj; exact h4
  | 5, hj => simp only [List.getElem?_cons_zero, List.getElem?_cons_succ, Option.some.injEq] at hj; subst hj; exact h5
  | 6, hj => simp only [List.getElem?_cons_zero, List.getElem?_cons_succ, Option.some.injEq] at hj; subst hj; exact h6
  | 7, hj => simp only [List.getElem?_cons_zero, List.getElem?_cons_succ, Option.some.injEq] at hj; subst hj; exact h7
  | 8, hj => simp only [List.getElem?_cons_zero, List.getElem?_cons_succ, Option.some.injEq] at hj; subst hj; exact h8
  | 9, hj => simp only [List.getElem?_cons_zero, List.getElem?_cons_succ, Option.some.injEq] at hj; subst hj; exact h9
  | 10, hj => simp only [List.getElem?_cons_zero, List.getElem?_cons_succ, Option.some.injEq] at hj; subst hj; exact h10
  | 11, hj => simp only [List.getElem?_cons_zero, List.getElem?_cons_succ, Option.some.injEq] at hj; subst hj; exact h11
  | 12, hj => simp only [List.getElem?_cons_zero, List.getElem?_cons_succ, Option.some.injEq] at hj; subst hj; exact h12
  | 13, hj => simp only [List.getElem?_cons_zero, List.getElem?_cons_succ, Option.some.injEq] at hj; subst hj; exact h13
  | 14, hj => simp only [List.getElem?_cons_zero, List.getElem?_cons_succ, Option.some.injEq] at hj; subst hj; exact h14
  | 15, hj => simp only [List.getElem?_cons_zero, List.getElem?_cons_succ, Option.some.injEq] at hj; subst hj; exact h15
  | 16, hj => simp only [List.getElem?_cons_zero, List.getElem?_cons_succ, Option.some.injEq] at hj; subst hj; exact h16
  | 17, hj => simp only [List.getElem?_cons_zero, List.getElem?_cons_succ, Option.some.injEq] at hj; subst hj; exact h17
  | 18, hj => simp only [List.getElem?_cons_zero, List.getElem?_cons_succ, Option.some.injEq] at hj; subst hj; exact h18
  | j + 19, hj => simp at hj

end Go.Proofs.Ytkmgkggkdmlkeaa
