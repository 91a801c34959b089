/- The document's Assign, plain part and rows: what has been given out, and what is taken. -/
import Derived.Test.YtnjdomfhjhlamaaPu
import Derived.Test.YtnjdomfhjhlamaaPp
namespace Go.Proofs.Ytnjdomfhjhlamaa
open Go.RowKit
set_option linter.unusedVariables false
set_option linter.unusedSimpArgs false

def iv (o : Nat → Int) : Nat → List Value
  | 0 => []
  | k + 1 => iv o k ++ [.int .i64 (o k)]
theorem iv_len (o : Nat → Int) (k : Nat) : (iv o k).length = k := by
  induction k with
  | zero => rfl
  | succ k ih => show (iv o k ++ _).length = _; rw [List.length_append, ih]; rfl
theorem iv_get (o : Nat → Int) {k j : Nat} (h : j < k) : (iv o k)[j]? = some (.int .i64 (o j)) := by
  induction k with
  | zero => omega
  | succ k ih =>
    show (iv o k ++ _)[j]? = _
    by_cases e : j < k
    · rw [List.getElem?_append_left (by rw [iv_len]; exact e)]; exact ih e
    · obtain rfl : j = k := by omega
      rw [List.getElem?_append_right (by rw [iv_len]; omega), iv_len, Nat.sub_self]; rfl
theorem iv_congr {o o' : Nat → Int} (k : Nat) (h : ∀ j, j < k → o j = o' j) : iv o k = iv o' k := by
  induction k with
  | zero => rfl
  | succ k ih => show iv o k ++ _ = iv o' k ++ _; rw [ih (fun j hj => h j (by omega)), h k (by omega)]
theorem iv_set (o : Nat → Int) (k i : Nat) (x : Int) (hi : i < k) : (iv o k).set i (.int .i64 x) = iv (fun j => if j = i then x else o j) k := by
  induction k with
  | zero => omega
  | succ k ih =>
    show (iv o k ++ _).set _ _ = iv _ k ++ _
    by_cases e : i < k
    · rw [List.set_append_left _ _ (by rw [iv_len]; omega), ih e]
      simp only [if_neg (show ¬ k = i by omega)]
    · obtain rfl : i = k := by omega
      rw [List.set_append_right _ _ (by rw [iv_len]; omega), iv_len, Nat.sub_self, iv_congr (o := fun j => if j = i then x else o j) (o' := o) i (fun j hj => if_neg (by omega))]
      simp
def lv (ts : List Int) : List Value := ts.map (fun x => .int .i64 x)
theorem lv_len (ts : List Int) : (lv ts).length = ts.length := List.length_map _
theorem lv_more (ts : List Int) (x : Int) : lv ts ++ [.int .i64 x] = lv (ts ++ [x]) := by simp [lv]

/-- What the document's Assign holds: who is on which core; which cores are taken. -/
structure RS (w : World) (B : Nat) (v : Value) (k : Nat) (o : Nat → Int) (v2 : Value) (ts : List Int) : Prop where
  r1 : RowAt w B 1 v k (iv o k)
  r2 : RowAt w B 1 v2 ts.length (lv ts)
  sep : ∀ g, v.ownBlock = some g → v2.ownBlock = some g → False
variable {w w' w5 : World} {B k : Nat} {v v2 : Value} {o : Nat → Int} {ts : List Int} {g off cap : Nat}
theorem RS.init (w : World) (B : Nat) (o : Nat → Int) : RS w B (.slice none 0 0) 0 o (.slice none 0 0) [] := ⟨RowAt.nil _ _ _, RowAt.nil _ _ _, fun g h => by cases h⟩
theorem RS.below (h : RS w B v k o v2 ts) (hb : Below w.heap.size w w') : RS w' B v k o v2 ts :=
  ⟨h.r1.block hb.size (fun g hg => hb.block g (h.r1.lt g hg).2), h.r2.block hb.size (fun g hg => hb.block g (h.r2.lt g hg).2), h.sep⟩
theorem RS.alloc (h : RS w B v k o v2 ts) (x : Obj) : RS (w.alloc x) B v k o v2 ts := ⟨h.r1.alloc x, h.r2.alloc x, h.sep⟩
theorem RS.out1 (h : RS w B v k o v2 ts) (hrow : RowAt w5 B 1 (.slice (some ⟨g, off, none⟩) (k + 1) cap) (k + 1) (iv o k ++ [.int .i64 (o k)])) (hg : w.grownBy w5 v.ownBlock) (hl : v.ownBlock = some g ∨ w.heap.size ≤ g) :
    RS w5 B (.slice (some ⟨g, off, none⟩) (k + 1) cap) (k + 1) o v2 ts := by
  refine ⟨hrow, h.r2.block hg.size (fun q hq => hg.block q (h.r2.lt q hq).2 (fun e => h.sep q e.symm hq)), fun q h1 h2 => ?_⟩
  simp [Value.ownBlock] at h1
  subst h1
  rcases hl with hl | hl
  · exact h.sep g hl h2
  · have := (h.r2.lt g h2).2; omega
theorem RS.put2 (h : RS w B v k o v2 ts) {x : Int} (hrow : RowAt w5 B 1 (.slice (some ⟨g, off, none⟩) (ts.length + 1) cap) (ts.length + 1) (lv ts ++ [.int .i64 x])) (hg : w.grownBy w5 v2.ownBlock) (hl : v2.ownBlock = some g ∨ w.heap.size ≤ g) :
    RS w5 B v k o (.slice (some ⟨g, off, none⟩) (ts.length + 1) cap) (ts ++ [x]) := by
  refine ⟨h.r1.block hg.size (fun q hq => hg.block q (h.r1.lt q hq).2 (fun e => h.sep q hq e.symm)), by rw [← lv_more, List.length_append]; exact hrow, fun q h1 h2 => ?_⟩
  simp [Value.ownBlock] at h2
  subst h2
  rcases hl with hl | hl
  · exact h.sep g h1 hl
  · have := (h.r1.lt g h1).2; omega
theorem RS.set (h : RS w B (.slice (some ⟨g, off, none⟩) k cap) k o v2 ts) {i : Nat} (hi : i < k) (x : Int) : RS (w.setCell ⟨g, off + i, none⟩ (.int .i64 x)) B (.slice (some ⟨g, off, none⟩) k cap) k (fun j => if j = i then x else o j) v2 ts := by
  refine ⟨by rw [← iv_set o k i x hi]; exact h.r1.setCell i (by omega) _, h.r2.block (by simp) (fun q hq => Below.heap_setCell _ _ _ _ (by intro e; subst e; exact h.sep _ rfl hq)), h.sep⟩
theorem RS.congr (h : RS w B v k o v2 ts) {o' : Nat → Int} (he : ∀ j, j < k → o j = o' j) : RS w B v k o' v2 ts := ⟨by rw [← iv_congr k he]; exact h.r1, h.r2, h.sep⟩
theorem RS.ints (h : RS w B v k o v2 ts) : Ints w v k o := by
  obtain ⟨p, cap, rfl⟩ := h.r1.form
  refine ⟨p, cap, rfl, h.r1.cap_ge', fun hn => ?_⟩
  obtain ⟨g, off, hp, hb, hg, hc, hcl, _⟩ := h.r1.some hn
  exact ⟨g, off, hp, hg, fun j hj => (hcl j (by omega)).trans (iv_get o hj)⟩
theorem RS.taken (h : RS w B v k o v2 ts) : Ints w v2 ts.length (fun j => ts.getD j 0) := by
  obtain ⟨p, cap, rfl⟩ := h.r2.form
  refine ⟨p, cap, rfl, h.r2.cap_ge', fun hn => ?_⟩
  obtain ⟨g, off, hp, hb, hg, hc, hcl, _⟩ := h.r2.some hn
  refine ⟨g, off, hp, hg, fun j hj => (hcl j (by omega)).trans ?_⟩
  simp [lv, List.getD, List.getElem?_eq_getElem hj]
theorem pinned_list (ts : List Int) (x : Int) : pinned (fun j => ts.getD j 0) ts.length x = true ↔ x ∈ ts := by
  rw [pinned_iff, List.mem_iff_getElem?]
  constructor
  · rintro ⟨k, hk, e⟩
    exact ⟨k, by simp only [List.getD, List.getElem?_eq_getElem hk, Option.getD_some] at e; rw [List.getElem?_eq_getElem hk, e]⟩
  · rintro ⟨k, e⟩
    have hk := (List.getElem?_eq_some_iff.1 e).1
    exact ⟨k, hk, by simp only [List.getD, e, Option.getD_some]⟩
/-- The row of taken cores tells what is taken. -/
def TK (ts : List Int) (s : CSt) : Prop := ∀ x, x ∈ ts ↔ s.2 x = true
theorem TK.pinned {s : CSt} (h : TK ts s) (x : Int) : Go.Proofs.Ytnjdomfhjhlamaa.pinned (fun j => ts.getD j 0) ts.length x = s.2 x := by
  rw [Bool.eq_iff_iff, pinned_list, h x]
theorem TK.take {s : CSt} (h : TK ts s) {i : Nat} {c : Int} (hc : c ≠ -1 ∧ s.1 i = -1 ∧ s.2 c = false) : TK (ts ++ [c]) (ctake s i c) := by
  intro x
  unfold ctake
  rw [if_pos hc, List.mem_append, List.mem_singleton, h x]
  by_cases e : x = c
  · subst e; simp
  · simp [e]
end Go.Proofs.Ytnjdomfhjhlamaa
