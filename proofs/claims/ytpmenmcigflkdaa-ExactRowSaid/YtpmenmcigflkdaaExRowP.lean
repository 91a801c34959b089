/- Plain lemmas for the law ExactRow. -/
import Derived.Test.YtpmenmcigflkdaaExPartsW
namespace Go.Proofs.Ytpmenmcigflkdaa
open Go.RowKit
set_option linter.unusedVariables false
set_option linter.unusedSimpArgs false

theorem lcmS_snoc (x : Int) (hx : 1 ≤ x) (l : List Int) : (∀ n ∈ l, 1 ≤ n) → ∀ m : Nat, 1 ≤ m → m ≤ 9223372036854775807 →
    (lcmS m l = (0, 16) ∧ lcmS m (l ++ [x]) = (0, 16)) ∨ (∃ q : Nat, 1 ≤ q ∧ q ≤ 9223372036854775807 ∧ lcmS m l = ((q : Int), 0) ∧ lcmS m (l ++ [x]) = lcmS q [x]) := by
  induction l with
  | nil => intro _ m h1 h2; exact .inr ⟨m, h1, h2, rfl, rfl⟩
  | cons n l ih =>
    intro hl m h1 h2
    have hn : 1 ≤ n := hl n (List.mem_cons_self)
    have hp : 1 ≤ m / Nat.gcd m n.toNat * n.toNat := by
      have a : 0 < m / Nat.gcd m n.toNat := Nat.div_pos (Nat.gcd_le_left _ (by omega)) (Nat.gcd_pos_of_pos_left _ (by omega))
      exact Nat.mul_pos a (by omega)
    have hn' : ¬ n < 1 := by omega
    have e : ∀ t, lcmS m (n :: t) = if m / Nat.gcd m n.toNat * n.toNat ≤ 9223372036854775807 then lcmS (m / Nat.gcd m n.toNat * n.toNat) t else (0, 16) := fun t => by rw [lcmS, if_neg hn']
    rw [List.cons_append, e, e]
    by_cases h : m / Nat.gcd m n.toNat * n.toNat ≤ 9223372036854775807
    · rw [if_pos h, if_pos h]
      exact ih (fun a ha => hl a (List.mem_cons_of_mem _ ha)) _ hp h
    · rw [if_neg h, if_neg h]
      exact .inl ⟨rfl, rfl⟩

theorem lcmS_one (q : Nat) (h1 : 1 ≤ q) (h2 : q ≤ 9223372036854775807) (x : Int) : lcmS 1 [(q : Int), x] = lcmS q [x] := by
  rw [lcmS, if_neg (by omega)]
  simp only [Int.toNat_natCast, Nat.gcd_one_left, Nat.div_one, Nat.one_mul]
  rw [if_pos h2]

theorem lcmS_end (q : Nat) (h1 : 1 ≤ q) (x : Int) (hx : 1 ≤ x) : lcmS q [x] = (0, 16) ∨ ∃ r : Nat, lcmS q [x] = ((r : Int), 0) ∧ 1 ≤ r ∧ r ≤ 9223372036854775807 := by
  have hp : 1 ≤ q / Nat.gcd q x.toNat * x.toNat := by
    have a : 0 < q / Nat.gcd q x.toNat := Nat.div_pos (Nat.gcd_le_left _ (by omega)) (Nat.gcd_pos_of_pos_left _ (by omega))
    exact Nat.mul_pos a (by omega)
  rw [lcmS, if_neg (by omega)]
  by_cases h : q / Nat.gcd q x.toNat * x.toNat ≤ 9223372036854775807
  · rw [if_pos h, lcmS]; exact .inr ⟨_, rfl, hp, h⟩
  · rw [if_neg h]; exact .inl rfl

/-- The k-th number of the row, as the law makes it, and the first k of them. -/
def rowE (z : List Int) (k : Nat) : Int := 1 + bits .and .i64 (z.getD k 0) 1048575
def rowR (z : List Int) (k : Nat) : List Int := (List.range k).map (rowE z)
theorem rowE_bd (z : List Int) (k : Nat) : 1 ≤ rowE z k ∧ rowE z k ≤ 1048576 := by unfold rowE; have := mask20 (z.getD k 0); omega
theorem rowR_len (z : List Int) (k : Nat) : (rowR z k).length = k := by unfold rowR; simp
theorem rowR_succ (z : List Int) (k : Nat) : rowR z (k + 1) = rowR z k ++ [rowE z k] := by unfold rowR; simp [List.range_succ]
theorem rowR_ge (z : List Int) (k : Nat) : ∀ n ∈ rowR z k, 1 ≤ n := by
  intro n hn; unfold rowR at hn; simp at hn; obtain ⟨a, _, rfl⟩ := hn; exact (rowE_bd z a).1
theorem rowR_get (z : List Int) (k i : Nat) (h : i < k) : (rowR z k).getD i 0 = rowE z i := by
  unfold rowR; rw [List.getD_eq_getElem?_getD, List.getElem?_map, List.getElem?_range h]; rfl
theorem row_step (z : List Int) (j : Nat) :
    (lcmS 1 (rowR z j) = (0, 16) ∧ lcmS 1 (rowR z (j + 1)) = (0, 16)) ∨
    ∃ q : Nat, 1 ≤ q ∧ q ≤ 9223372036854775807 ∧ lcmS 1 (rowR z j) = ((q : Int), 0) ∧ lcmS 1 [(q : Int), rowE z j] = lcmS 1 (rowR z (j + 1)) ∧
      (lcmS 1 (rowR z (j + 1)) = (0, 16) ∨ ∃ r : Nat, lcmS 1 (rowR z (j + 1)) = ((r : Int), 0) ∧ 1 ≤ r ∧ r ≤ 9223372036854775807) := by
  have hb := (rowE_bd z j).1
  rw [rowR_succ]
  rcases lcmS_snoc _ hb (rowR z j) (rowR_ge z j) 1 (by omega) (by omega) with h | ⟨q, h1, h2, h3, h4⟩
  · exact .inl h
  · refine .inr ⟨q, h1, h2, h3, ?_, ?_⟩
    · rw [lcmS_one q h1 h2, h4]
    · rw [h4]; exact lcmS_end q h1 _ hb

/-- How the second loop stands ahead of its round i: the number that was found last, and whether it was too great. -/
def rowSt (z : List Int) (i : Nat) (at_ : Int) (o : Bool) : Prop :=
  (i = 0 ∧ at_ = 1 ∧ o = false) ∨ ∃ j, i = j + 1 ∧ ((o = false ∧ 1 ≤ at_ ∧ at_ ≤ 9223372036854775807 ∧ lcmS 1 (rowR z j) = (at_, 0)) ∨ (o = true ∧ lcmS 1 (rowR z j) = (0, 16)))
theorem rowSt_over {z : List Int} {i : Nat} (h : lcmS 1 (rowR z i) = (0, 16)) : rowSt z (i + 1) 0 true := .inr ⟨i, rfl, .inr ⟨rfl, h⟩⟩
theorem rowSt_ok {z : List Int} {i : Nat} {r : Int} (h : lcmS 1 (rowR z i) = (r, 0)) (h1 : 1 ≤ r) (h2 : r ≤ 9223372036854775807) : rowSt z (i + 1) r false := .inr ⟨i, rfl, .inl ⟨rfl, h1, h2, h⟩⟩
theorem rowSt_step {z : List Int} {i : Nat} {a : Int} {o : Bool} (h : rowSt z i a o) :
    (i = 0 ∧ a = 1 ∧ o = false ∧ lcmS 1 (rowR z 0) = (1, 0)) ∨
    (∃ j, i = j + 1 ∧ o = true ∧ lcmS 1 (rowR z (j + 1)) = (0, 16)) ∨
    (∃ j, i = j + 1 ∧ o = false ∧ 1 ≤ a ∧ a ≤ 9223372036854775807 ∧ lcmS 1 [a, rowE z j] = (0, 16) ∧ lcmS 1 (rowR z (j + 1)) = (0, 16)) ∨
    ∃ j, ∃ r : Int, i = j + 1 ∧ o = false ∧ 1 ≤ a ∧ a ≤ 9223372036854775807 ∧ lcmS 1 [a, rowE z j] = (r, 0) ∧ lcmS 1 (rowR z (j + 1)) = (r, 0) ∧ 1 ≤ r ∧ r ≤ 9223372036854775807 := by
  rcases h with ⟨rfl, rfl, rfl⟩ | ⟨j, rfl, ⟨rfl, h1, h2, h3⟩ | ⟨rfl, h⟩⟩
  · exact .inl ⟨rfl, rfl, rfl, rfl⟩
  · rcases row_step z j with ⟨h4, _⟩ | ⟨q, q1, q2, h4, h5, h6⟩
    · rw [h3] at h4; simp at h4
    · obtain rfl : a = q := by rw [h3] at h4; simpa using h4
      rcases h6 with h6 | ⟨r, h6, r1, r2⟩
      · exact .inr (.inr (.inl ⟨j, rfl, rfl, h1, h2, by rw [h5, h6], h6⟩))
      · exact .inr (.inr (.inr ⟨j, r, rfl, rfl, h1, h2, by rw [h5, h6], h6, by omega, by omega⟩))
  · rcases row_step z j with ⟨_, h5⟩ | ⟨q, _, _, h4, _⟩
    · exact .inr (.inl ⟨j, rfl, rfl, h5⟩)
    · rw [h] at h4; simp at h4

theorem info2 : (Try.prog.info? 2).map (fun i => (i.zero, i.size, i.bytes)) = some (some (.int .i64 0), 1, 8) := by kernel_rfl

/-- What an append does to the relation. -/
theorem row_rel {B k : Nat} {z : List Int} {w wr w1 : World} {u v' : Value} {o : Obj} (hB : B ≤ wr.heap.size)
    (hown : wr.ownsRow B 2 1 u k ((rowR z k).map (Value.int .i64))) (hnx : Below B w wr)
    (hown' : w1.ownsRow B 2 1 v' (k + 1) ((rowR z k).map (Value.int .i64) ++ [.int .i64 (rowE z k)])) (hgrow : (wr.alloc o).grownBy w1 u.ownBlock) :
    w1.ownsRow B 2 1 v' (k + 1) ((rowR z (k + 1)).map (Value.int .i64)) ∧ Below B w w1 := by
  refine ⟨by rw [rowR_succ, List.map_append]; exact hown', (hnx.alloc (by omega) o).grown hgrow (by simp; omega) (fun j hj => (hown.lt j hj).1)⟩

/-- A row of numbers that is owned: nil, or its cells. -/
theorem own_cells {w : World} {B n : Nat} {e : TypeId} {v : Value} {xs : List Int} (h : w.ownsRow B e 1 v n (xs.map (Value.int .i64))) :
    (v = .slice none 0 0 ∧ n = 0) ∨ ∃ g cap, v = .slice (some ⟨g, 0, none⟩) n cap ∧ B ≤ g ∧ g < w.heap.size ∧ n ≤ cap ∧ cap ≤ maxLen ∧ ∀ i, i < n → w.cell? ⟨g, 0 + i, none⟩ = some (.int .i64 (xs.getD i 0)) := by
  obtain ⟨hl, h | ⟨g, cap, cur, rfl, hb, hh, h1, h2, h3, h4⟩⟩ := h
  · exact .inl h
  · refine .inr ⟨g, cap, rfl, hb, (Array.getElem?_eq_some_iff.1 hh).1, h1, h2, fun i hi => ?_⟩
    have hx : i < xs.length := by simp at hl; omega
    have e1 : (cur.toList.take (n * 1))[i]? = some (.int .i64 (xs.getD i 0)) := by
      rw [h4, List.getElem?_map, List.getD_eq_getElem?_getD, List.getElem?_eq_getElem hx]; rfl
    rw [List.getElem?_take_of_lt (by omega)] at e1
    simp only [Nat.zero_add, World.cell?, hh]
    simpa using e1
end Go.Proofs.Ytpmenmcigflkdaa
