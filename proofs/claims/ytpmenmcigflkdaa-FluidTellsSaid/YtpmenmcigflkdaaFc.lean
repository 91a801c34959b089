/- Contracts of fluid's counts (an iterator over a row: how many were so, ahead of each slot and behind the last) and of Follows. -/
import Derived.RangeFuncNested
import Derived.RangeFuncBound
import Derived.RangeFuncCalls
import Derived.RangeFuncLeaves
import Derived.RangeFuncBox
import Derived.Shelf.Abstract
import Derived.Shelf.RegionOpen
import Derived.WalkKit
import Derived.OwnWalkIn
import Derived.TacticsInMore
import Derived.LoopNIn
import Derived.LoopIn
import Derived.WalkMore
import Derived.Deep.RegionHeld3
import Derived.Test.YtpmenmcigflkdaaFluidLaws
namespace Go.Proofs.Ytpmenmcigflkdaa
open Go.RowKit Go.Shelf
set_option linter.unusedVariables false
set_option linter.unusedSimpArgs false
attribute [local go_sem] Oper.semAt_some

/-- How many of the first k are so. -/
def cnt (zs : List Bool) : Nat → Nat
  | 0 => 0
  | k + 1 => cnt zs k + (if zs[k]?.getD false = true then 1 else 0)
theorem cnt_le (zs : List Bool) (k : Nat) : cnt zs k ≤ k := by
  induction k with
  | zero => exact Nat.le_refl _
  | succ k ih => rw [cnt]; split <;> omega
def upto {α : Type} (f : Nat → α) (k : Nat) : List α := (List.range k).map f
theorem upto_succ {α : Type} (f : Nat → α) (k : Nat) : upto f (k + 1) = upto f k ++ [f k] := by simp [upto, List.range_succ]
theorem upto_length {α : Type} (f : Nat → α) (k : Nat) : (upto f k).length = k := by simp [upto]
/-- What the loop's body must keep: what lay below n₀, and block Bs. -/
def KpB (n₀ Bs : Nat) (A B : World) : Prop := ∀ k, k < n₀ ∨ k = Bs → B.heap[k]? = A.heap[k]?
theorem KpB.refl {n₀ Bs : Nat} {A : World} : KpB n₀ Bs A A := fun _ _ => rfl
theorem KpB.trans {n₀ Bs : Nat} {A B C : World} (h : KpB n₀ Bs A B) (k : KpB n₀ Bs B C) : KpB n₀ Bs A C := fun j hj => (k j hj).trans (h j hj)
theorem KpB.cell {n₀ Bs : Nat} {A B : World} (h : KpB n₀ Bs A B) {p : Addr} (hp : p.block < n₀ ∨ p.block = Bs) : B.cell? p = A.cell? p := World.cell?_of_block (w := A) (h p.block hp)
theorem kpB_b {n₀ Bs : Nat} {w : World} (hn : n₀ ≤ w.heap.size) (hB : Bs < w.heap.size) (W : World) (l : Nat) (o o' : Obj) (hl : w.heap.size ≤ l) (h : W.heap[l]? = some o) (_ : o.isCells = false) (_ : o.isWalk = false) : KpB n₀ Bs W (W.putObj l o') := fun k hk =>
  (grownBy_putObj' W l o').block k (by have := (Array.getElem?_eq_some_iff.1 h).1; omega) (fun e => by cases e; omega)

/-- A row of bools lies below n₀, or it is empty. -/
def Bools (n₀ : Nat) (W : World) (sv : Value) (zs : List Bool) : Prop :=
  (∃ a c, sv = .slice a 0 c ∧ zs = []) ∨ ∃ b off cap, sv = .slice (some ⟨b, off, none⟩) zs.length cap ∧ b < n₀ ∧ zs.length ≤ cap ∧ ∀ j, j < zs.length → W.cell? ⟨b, off + j, none⟩ = some (.bool (zs[j]?.getD false))

set_option maxRecDepth 100000 in
set_option maxHeartbeats 2000000 in
theorem counts1_in (n : Nat) (hn : 1 ≤ n) (l Bs n₀ b off len cap : Nat) (zs : List Bool) (hreach : len ≤ 4611686018427387904) (hb : b < n₀) (J Jx : List (Nat × Nat) → World → Prop)
    (hY : ∀ pre x W, J pre W → pre.length < len + 1 → YieldAt Fence.wide (n - 1) Try.prog l #[.int .i64 (x.1 : Int), .int .i64 (x.2 : Int)] W fun e W' =>
      (e = .returned (.bool true) ∧ J (pre ++ [x]) W' ∧ KpB n₀ Bs W W') ∨ (e = .returned (.bool false) ∧ Jx (pre ++ [x]) W'))
    (W : World) (hBs : W.cell? ⟨Bs, 0, none⟩ = some (.slice (some ⟨b, off, none⟩) len cap)) (hc : ∀ j, j < len → W.cell? ⟨b, off + j, none⟩ = some (.bool (zs[j]?.getD false))) (h0 : J [] W) :
    CallsIn Fence.wide n Try.prog 62 #[.func (.yield l) #[] #[], .pointer (some ⟨Bs, 0, none⟩)] W fun e W' => (∃ v, e = .returned v) ∧
      ((∃ ys, ys = upto (fun j => (j, cnt zs j)) (len + 1) ∧ J ys W') ∨ (∃ pre, (∃ k, k ≤ len + 1 ∧ pre = upto (fun j => (j, cnt zs j)) k) ∧ Jx pre W')) := by
  refine callsIn_of_wp Try.func62 rfl trivial ?_ rfl
  simp only [Try.ntmps62, List.size_toArray, List.length_cons, List.length_nil, Nat.reduceAdd, Nat.reduceSub, Array.replicate_succ, Array.replicate_zero, List.push_toArray, List.append_toArray, List.nil_append, List.cons_append]
  gi_wp2
  gi_loopw [3, 8] (fun c i wr => ∃ k : Nat, k ≤ len ∧ i = .int .i64 k ∧ c = .int .i64 (cnt zs k) ∧ J (upto (fun j => (j, cnt zs j)) k) wr ∧ KpB n₀ Bs W wr)
    (fun _ i _ => len - (intOf i).toNat)
  case atStart => exact ⟨0, Nat.zero_le _, rfl, rfl, h0, KpB.refl⟩
  case round =>
    obtain ⟨k, hk, rfl, rfl, hJs, hnx⟩ := hrel
    have hBs' : wr.cell? ⟨Bs, 0, none⟩ = some (.slice (some ⟨b, off, none⟩) len cap) := (hnx.cell (p := ⟨Bs, 0, none⟩) (.inr rfl)).trans hBs
    have hcl := cnt_le zs k
    have wc : IntKind.i64.wrap ((cnt zs k : Int) + 1) = (cnt zs k : Int) + 1 := wrap_in _ (by omega) (by omega)
    have wk : IntKind.i64.wrap ((k : Int) + 1) = (k : Int) + 1 := wrap_in _ (by omega) (by omega)
    by_cases hlt : k < len
    · obtain ⟨fn, tmps, assign, body, hy, hR⟩ := hY _ (k, cnt zs k) wr hJs (by rw [upto_length]; omega)
      dsimp only at hy
      have hcx : wr.cell? ⟨b, off + k, none⟩ = some (.bool (zs[k]?.getD false)) := (hnx.cell (p := ⟨b, off + k, none⟩) (.inl hb)).trans (hc k hlt)
      have hcn : cnt zs (k + 1) = cnt zs k + (if zs[k]?.getD false = true then 1 else 0) := rfl
      cases hz : zs[k]?.getD false with
      | true =>
        rw [hz] at hcx hcn
        have hcn2 : ((cnt zs (k + 1) : Nat) : Int) = (cnt zs k : Int) + 1 := by rw [hcn]; simp
        gi_wp2
        refine hR.mono ?_
        rintro e W3 (⟨rfl, hJ3, hk3⟩ | ⟨rfl, hJx3⟩)
        · gi_wp2
          go_roundw
          case rel => exact ⟨k + 1, by omega, by simp, by rw [hcn2], by rw [upto_succ]; exact hJ3, hnx.trans hk3⟩
          case measure => simp [intOf]; omega
        · gi_wp2
          refine bodyPost_ret (results_none rfl _ _ _) rfl ?_
          exact ⟨⟨_, rfl⟩, .inr ⟨_, ⟨k + 1, by omega, (upto_succ _ _).symm⟩, hJx3⟩⟩
      | false =>
        rw [hz] at hcx hcn
        have hcn2 : ((cnt zs (k + 1) : Nat) : Int) = (cnt zs k : Int) := by rw [hcn]; simp
        gi_wp2
        refine hR.mono ?_
        rintro e W3 (⟨rfl, hJ3, hk3⟩ | ⟨rfl, hJx3⟩)
        · gi_wp2
          go_roundw
          case rel => exact ⟨k + 1, by omega, by simp, by rw [hcn2], by rw [upto_succ]; exact hJ3, hnx.trans hk3⟩
          case measure => simp [intOf]; omega
        · gi_wp2
          refine bodyPost_ret (results_none rfl _ _ _) rfl ?_
          exact ⟨⟨_, rfl⟩, .inr ⟨_, ⟨k + 1, by omega, (upto_succ _ _).symm⟩, hJx3⟩⟩
    · obtain rfl : k = len := by omega
      obtain ⟨fn, tmps, assign, body, hy, hR⟩ := hY _ (k, cnt zs k) wr hJs (by rw [upto_length]; omega)
      dsimp only at hy
      gi_wp2
      refine hR.mono ?_
      rintro e W3 (⟨rfl, hJ3, hk3⟩ | ⟨rfl, hJx3⟩)
      · gi_wp2
        go_end0
        exact ⟨⟨_, rfl⟩, .inl ⟨_, rfl, by rw [upto_succ]; exact hJ3⟩⟩
      · gi_wp2
        go_end0
        exact ⟨⟨_, rfl⟩, .inr ⟨_, ⟨k + 1, by omega, (upto_succ _ _).symm⟩, hJx3⟩⟩

set_option maxRecDepth 100000 in
set_option maxHeartbeats 2000000 in
theorem counts1_nil_in (n : Nat) (hn : 1 ≤ n) (l Bs n₀ : Nat) (a0 : Option Addr) (c0 : Nat) (J Jx : List (Nat × Nat) → World → Prop)
    (hY : ∀ pre x W, J pre W → pre.length < 0 + 1 → YieldAt Fence.wide (n - 1) Try.prog l #[.int .i64 (x.1 : Int), .int .i64 (x.2 : Int)] W fun e W' =>
      (e = .returned (.bool true) ∧ J (pre ++ [x]) W' ∧ KpB n₀ Bs W W') ∨ (e = .returned (.bool false) ∧ Jx (pre ++ [x]) W'))
    (W : World) (hBs : W.cell? ⟨Bs, 0, none⟩ = some (.slice a0 0 c0)) (h0 : J [] W) :
    CallsIn Fence.wide n Try.prog 62 #[.func (.yield l) #[] #[], .pointer (some ⟨Bs, 0, none⟩)] W fun e W' => (∃ v, e = .returned v) ∧
      ((∃ ys, ys = upto (fun j => (j, cnt [] j)) (0 + 1) ∧ J ys W') ∨ (∃ pre, (∃ k, k ≤ 0 + 1 ∧ pre = upto (fun j => (j, cnt [] j)) k) ∧ Jx pre W')) := by
  refine callsIn_of_wp Try.func62 rfl trivial ?_ rfl
  simp only [Try.ntmps62, List.size_toArray, List.length_cons, List.length_nil, Nat.reduceAdd, Nat.reduceSub, Array.replicate_succ, Array.replicate_zero, List.push_toArray, List.append_toArray, List.nil_append, List.cons_append]
  gi_wp2
  gi_loopw [3, 8] (fun c i wr => i = .int .i64 0 ∧ c = .int .i64 0 ∧ J [] wr ∧ KpB n₀ Bs W wr) (fun _ _ _ => 0)
  case atStart => exact ⟨rfl, rfl, h0, KpB.refl⟩
  case round =>
    obtain ⟨rfl, rfl, hJs, hnx⟩ := hrel
    have hBs' : wr.cell? ⟨Bs, 0, none⟩ = some (.slice a0 0 c0) := (hnx.cell (p := ⟨Bs, 0, none⟩) (.inr rfl)).trans hBs
    obtain ⟨fn, tmps, assign, body, hy, hR⟩ := hY _ (0, 0) wr hJs (by simp)
    dsimp only at hy
    have e0 : ((0 : Nat) : Int) = 0 := rfl
    rw [e0] at hy
    gi_wp2
    refine hR.mono ?_
    rintro e W3 (⟨rfl, hJ3, hk3⟩ | ⟨rfl, hJx3⟩)
    · gi_wp2
      go_end0
      exact ⟨⟨_, rfl⟩, .inl ⟨_, rfl, hJ3⟩⟩
    · gi_wp2
      go_end0
      exact ⟨⟨_, rfl⟩, .inr ⟨_, ⟨1, by omega, rfl⟩, hJx3⟩⟩

set_option maxHeartbeats 1000000 in
/-- counts(l): the slice value is boxed; the function value captures the box. -/
theorem counts_in (n : Nat) (a : Option Addr) (len cap : Nat) (w : World) :
    CallsIn Fence.wide n Try.prog 53 #[.slice a len cap] w fun e w' => e = .returned (.func (.func 62) #[] #[.pointer (some ⟨w.heap.size, 0, none⟩)]) ∧ w' = w.alloc (.cells #[.slice a len cap] 47) := by
  refine callsIn_of_wp Try.func53 rfl trivial ?_ rfl
  simp only [Try.ntmps53, List.size_toArray, List.length_cons, List.length_nil, Nat.reduceAdd, Nat.reduceSub, Array.replicate_succ, Array.replicate_zero, List.push_toArray, List.append_toArray, List.nil_append, List.cons_append]
  gi_wp2
  go_ret
  exact ⟨rfl, rfl⟩

theorem Bools.below {n₀ : Nat} {A B : World} (h : Below n₀ A B) {sv : Value} {zs : List Bool} : Bools n₀ A sv zs → Bools n₀ B sv zs
  | .inl e => .inl e
  | .inr ⟨b, off, cap, e, hb, hl, hc⟩ => .inr ⟨b, off, cap, e, hb, hl, fun j hj => (h.cell (p := ⟨b, off + j, none⟩) hb).trans (hc j hj)⟩

theorem counts_stops (n : Nat) (hn : 1 ≤ n) (Bs n₀ : Nat) (sv : Value) (zs : List Bool) (hreach : zs.length ≤ 4611686018427387904) (w : World) (hBs : Bs < w.heap.size) (hn₀ : n₀ ≤ w.heap.size)
    (hc : w.cell? ⟨Bs, 0, none⟩ = some sv) (hI : Bools n₀ w sv zs) :
    SeqStopsK Fence.wide n Try.prog 62 #[.pointer (some ⟨Bs, 0, none⟩)] (fun x : Nat × Nat => #[Value.int .i64 (x.1 : Int), Value.int .i64 (x.2 : Int)]) (KpB n₀ Bs) (fun ys => ys = upto (fun j => (j, cnt zs j)) (zs.length + 1))
      (fun pre => ∃ k, k ≤ zs.length + 1 ∧ pre = upto (fun j => (j, cnt zs j)) k) (zs.length + 1) w := fun l J Jx W hW _ _ hY h0 => by
  have hc' := (hW.cell (p := ⟨Bs, 0, none⟩) hBs).trans hc
  rcases hI.below (hW.mono hn₀) with ⟨a0, c0, rfl, rfl⟩ | ⟨b, off, cap, rfl, hb, hl, hcs⟩
  · exact counts1_nil_in n hn l Bs n₀ a0 c0 J Jx hY W hc' h0
  · exact counts1_in n hn l Bs n₀ b off zs.length cap zs hreach hb J Jx hY W hc' hcs h0

/-- A row follows: it is fair ahead of each slot and behind the last. -/
def folB (fa : Int → Int → Bool) (zs : List Bool) : Bool := (List.range (zs.length + 1)).all (fun k => fa k (cnt zs k))
theorem fol_yes {fa : Int → Int → Bool} {zs : List Bool} (h : ∀ p ∈ upto (fun j => (j, cnt zs j)) (zs.length + 1), fa (p.1 : Int) (p.2 : Int) = true) : folB fa zs = true := by
  unfold folB
  rw [List.all_eq_true]
  intro k hk
  exact h (k, cnt zs k) (by unfold upto; exact List.mem_map.2 ⟨k, hk, rfl⟩)
theorem fol_no {fa : Int → Int → Bool} {zs : List Bool} {k : Nat} (hk : k < zs.length + 1) (h : fa (k : Int) (cnt zs k : Int) = false) : folB fa zs = false := by
  cases hf : folB fa zs with
  | false => rfl
  | true =>
    unfold folB at hf
    rw [List.all_eq_true] at hf
    have := hf k (List.mem_range.2 hk)
    rw [h] at this
    cases this

set_option maxRecDepth 100000 in
set_option maxHeartbeats 2000000 in
theorem follows_any (E P : Int) (fa : Int → Int → Bool) (hfa : ∀ (i q : Int) (W : World), Calls Try.prog 29 #[.agg #[.int .i64 E, .int .i64 P], .int .i64 i, .int .i64 q] W fun e w' => e = .returned (.bool (fa i q)) ∧ Below W.heap.size W w')
    (a : Option Addr) (len cap : Nat) (zs : List Bool) (hreach : zs.length ≤ 4611686018427387904) (w : World) (hI : Bools w.heap.size w (.slice a len cap) zs) :
    Calls Try.prog 40 #[.agg #[.int .i64 E, .int .i64 P], .slice a len cap] w fun e W' => e = .returned (.bool (folB fa zs)) ∧ Below w.heap.size w W' := by
  refine (callsIn_wide (n := 6)).1 ?_
  refine callsIn_of_wp_marks Try.func40 rfl trivial ?_ rfl
  simp only [Try.ntmps40, List.size_toArray, List.length_cons, List.length_nil, Nat.reduceAdd, Nat.reduceSub, Array.replicate_succ, Array.replicate_zero, List.push_toArray, List.append_toArray, List.nil_append, List.cons_append]
  refine wpIn_wide.2 ?_
  go_wp2
  go_step3
  go_wp2
  go_step3
  go_wp2_with (go_at_call 53; refine (callsIn_wide.1 (counts_in 6 _ _ _ _)).mono ?_; rintro e w' ⟨rfl, rfl⟩)
  obtain ⟨W0, hW0⟩ : ∃ W0, (((w.alloc (.cells #[.int .i64 E, .int .i64 P] 36)).alloc (.cells #[.bool true] 4)).alloc (.cells #[.slice a len cap] 47)) = W0 := ⟨_, rfl⟩
  have hB0 : Below w.heap.size w W0 := by rw [← hW0]; exact (((Below.refl _ w).alloc (Nat.le_refl _) _).alloc (by simp) _).alloc (by simp; omega) _
  have hS0 : W0.heap.size = w.heap.size + 1 + 1 + 1 := by rw [← hW0]; simp
  have k0 : W0.cell? ⟨w.heap.size, 0, none⟩ = some (.int .i64 E) := by subst hW0; go_simp
  have k1 : W0.cell? ⟨w.heap.size, 1, none⟩ = some (.int .i64 P) := by subst hW0; go_simp
  have k2 : W0.cell? ⟨w.heap.size + 1, 0, none⟩ = some (.bool true) := by subst hW0; go_simp
  have k3 : W0.frozen? ⟨w.heap.size + 1, 0, none⟩ = false := by subst hW0; go_simp
  have k4 : W0.cell? ⟨w.heap.size + 1 + 1, 0, none⟩ = some (.slice a len cap) := by subst hW0; go_simp
  rw [hW0]
  clear hW0
  refine (wpIn_wide (n := 6)).1 ?_
  refine wpIn_rangeFunc_ownG rfl (by omega) (gf := 62) (lb := #[.pointer (some ⟨w.heap.size + 1 + 1, 0, none⟩)]) rfl trivial (enters_of Try.func62 (by kernel_rfl) rfl)
    (counts_stops (6 - 1) (by omega) (w.heap.size + 1 + 1) w.heap.size (.slice a len cap) zs hreach W0 (by omega) hB0.size k4 (hI.below hB0)) (fun h k => KpB.trans h k) (kpB_b hB0.size (by omega)) (Below.refl _ _) (fun _ => rfl)
    (fun (pre : List (Nat × Nat)) (W : World) => ((∀ p ∈ pre, fa (p.1 : Int) (p.2 : Int) = true) ∧ W.cell? ⟨w.heap.size, 0, none⟩ = some (.int .i64 E) ∧ W.cell? ⟨w.heap.size, 1, none⟩ = some (.int .i64 P) ∧ W.cell? ⟨w.heap.size + 1, 0, none⟩ = some (.bool true) ∧ W.frozen? ⟨w.heap.size + 1, 0, none⟩ = false ∧ w.heap.size + 1 + 1 < W.heap.size) ∧ Below w.heap.size w W)
    (fun (c : Code) (pre : List (Nat × Nat)) (W : World) => (c = .exit 0 ∧ (∃ (ini : List (Nat × Nat)) (last : Nat × Nat), pre = ini ++ [last] ∧ fa (last.1 : Int) (last.2 : Int) = false) ∧ W.cell? ⟨w.heap.size + 1, 0, none⟩ = some (.bool false)) ∧ Below w.heap.size w W)
    (OwnFrom.and (Own.from (fun s A B row hs hg hr => ⟨hs.1, cell_kept hs.2.1 hg hr, cell_kept hs.2.2.1 hg hr, cell_kept hs.2.2.2.1 hg hr, (frozen_kept hs.2.2.2.1 hg hr).trans hs.2.2.2.2.1, Nat.lt_of_lt_of_le hs.2.2.2.2.2 hg.size⟩) _) (ownFrom_below (Nat.le_refl _) hB0.size))
    (fun c => OwnFrom.and (Own.from (fun s A B row hs hg hr => ⟨hs.1, hs.2.1, cell_kept hs.2.2 hg hr⟩) _) (ownFrom_below (Nat.le_refl _) hB0.size))
    ⟨⟨(fun p hp => by cases hp), k0, k1, k2, k3, by omega⟩, hB0⟩
    (fun x => { tmps := #[.agg #[.int .i64 E, .int .i64 P], .slice a len cap, .pointer (some ⟨w.heap.size, 0, none⟩), undef, .bool false, .pointer (some ⟨w.heap.size + 1, 0, none⟩), .int .i64 (x.1 : Int), .int .i64 (x.2 : Int), .slice a len cap, .func (.func 62) #[] #[.pointer (some ⟨w.heap.size + 1 + 1, 0, none⟩)], .int .i64 (x.1 : Int), .int .i64 (x.2 : Int), undef, undef, undef, undef, undef, undef, undef], defers := [] }) ?assign ?body ?done ?stop
  case assign =>
    intro l x W K hK
    gi_wp2
    exact hK
  case body =>
    rintro l pre x W ⟨⟨hp, hE, hP, hc, hf, hz⟩, hB⟩ _
    have hfx := hfa (x.1 : Int) (x.2 : Int)
    have hW0 := hB.size
    have hkf : ∀ w1 v, Below W.heap.size W w1 → KeepsFrom W0.heap.size W (w1.setCell ⟨w.heap.size + 1, 0, none⟩ v) := fun w1 v hb => KeepsFrom.trans ⟨hb.size, fun k o _ hk _ => (hb.block k (Array.getElem?_eq_some_iff.1 hk).1).trans hk⟩ ((KeepsOthers.setCell _ _ _).from _)
    cases hx : fa (x.1 : Int) (x.2 : Int) with
    | false =>
      rw [hx] at hfx
      gi_wp2_with (refine ⟨trivial, ?_⟩; gi_at_call 29; refine (CallsIn.inRound l (callsIn_wide.2 (hfx _))).mono ?_; rintro e w1 ⟨rfl, hb1⟩; have hc1 : w1.cell? ⟨w.heap.size + 1, 0, none⟩ = some (.bool true) := (hb1.cell (p := ⟨w.heap.size + 1, 0, none⟩) (by show w.heap.size + 1 < _; omega)).trans hc; have hf1 : w1.frozen? ⟨w.heap.size + 1, 0, none⟩ = false := (hb1.frozen (p := ⟨w.heap.size + 1, 0, none⟩) (by show w.heap.size + 1 < _; omega)).trans hf)
      exact ⟨hkf w1 _ hb1, ⟨rfl, ⟨pre, x, rfl, hx⟩, World.cell?_setCell_same' _ _ _ (by rw [hc1]; rfl)⟩, (bel_call hB hW0 hb1).setCell (by simp) _⟩
    | true =>
      rw [hx] at hfx
      gi_wp2_with (refine ⟨trivial, ?_⟩; gi_at_call 29; refine (CallsIn.inRound l (callsIn_wide.2 (hfx _))).mono ?_; rintro e w1 ⟨rfl, hb1⟩; have hc1 : w1.cell? ⟨w.heap.size + 1, 0, none⟩ = some (.bool true) := (hb1.cell (p := ⟨w.heap.size + 1, 0, none⟩) (by show w.heap.size + 1 < _; omega)).trans hc; have hf1 : w1.frozen? ⟨w.heap.size + 1, 0, none⟩ = false := (hb1.frozen (p := ⟨w.heap.size + 1, 0, none⟩) (by show w.heap.size + 1 < _; omega)).trans hf)
      refine ⟨hkf w1 _ hb1, fun k hk => ?_, ⟨fun p hp' => (List.mem_append.1 hp').elim (hp p) (fun e => by simp at e; subst e; exact hx), ?_, ?_, World.cell?_setCell_same' _ _ _ (by rw [hc1]; rfl), by rw [World.frozen?_setCell]; exact hf1, ?_⟩, (bel_call hB hW0 hb1).setCell (by simp) _⟩
      · rw [Below.heap_setCell _ _ _ _ (by show k ≠ w.heap.size + 1; omega)]
        exact hb1.block k (by omega)
      · rw [World.cell?_setCell_far _ _ _ _ (by show w.heap.size + 1 ≠ w.heap.size; omega)]
        exact (hb1.cell (p := ⟨w.heap.size, 0, none⟩) (by show w.heap.size < _; omega)).trans hE
      · rw [World.cell?_setCell_far _ _ _ _ (by show w.heap.size + 1 ≠ w.heap.size; omega)]
        exact (hb1.cell (p := ⟨w.heap.size, 1, none⟩) (by show w.heap.size < _; omega)).trans hP
      · have := hb1.size; simp; omega
  case done =>
    rintro D ys W hD rfl ⟨⟨hp, hE, hP, hc, hf, hz⟩, hB⟩ hK
    go_wp2
    try rw [Exit.noGoto_ret]
    refine ⟨by simp, .inl ⟨_, _, rfl, run_takeDeferred hK, ?_⟩⟩
    exact ⟨_, results_tmp rfl _ _ _, by rw [fol_yes hp]; rfl, hB.trans (belowK_b (w := w) (Nat.le_refl _) W D _ _ (by omega) hK rfl rfl)⟩
  case stop =>
    rintro D c pre W hD ⟨k, hk, rfl⟩ ⟨⟨rfl, ⟨ini, last, e1, e2⟩, hc⟩, hB⟩ hK
    refine wpIn_wide.2 ?_
    obtain ⟨k', rfl⟩ : ∃ k', k = k' + 1 := by
      cases k with
      | zero => simp [upto] at e1
      | succ k' => exact ⟨k', rfl⟩
    rw [upto_succ] at e1
    obtain ⟨rfl, e5⟩ := List.append_inj' e1 rfl
    obtain rfl : (k', cnt zs k') = last := by simpa using e5
    have hno := fol_no (fa := fa) (zs := zs) (k := k') (by omega) e2
    go_wp2
    try rw [Exit.noGoto_ret]
    refine ⟨by simp, .inl ⟨_, _, rfl, run_takeDeferred hK, ?_⟩⟩
    exact ⟨_, results_tmp rfl _ _ _, by rw [hno]; rfl, hB.trans (belowK_b (w := w) (Nat.le_refl _) W D _ _ (by omega) hK rfl rfl)⟩
end Go.Proofs.Ytpmenmcigflkdaa
