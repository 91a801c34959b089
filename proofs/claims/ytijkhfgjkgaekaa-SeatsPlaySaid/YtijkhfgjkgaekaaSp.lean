/- Seats, the plain part: who is free and who is taken. -/
import Derived.Test.YtijkhfgjkgaekaaSj
namespace Go.Proofs.Ytijkhfgjkgaekaa
open Go.RowKit Go.Conc
set_option linter.unusedVariables false
set_option linter.unusedSimpArgs false

theorem ids_succ (t : Nat → Bool) (n : Nat) : (idsOf t (n + 1)).length = (idsOf t n).length + if t n then 1 else 0 := by
  unfold idsOf
  rw [List.range_succ, List.filter_append, List.length_append]
  cases h : t n <;> simp [h]
theorem ids_other (t : Nat → Bool) (b : Bool) (k n : Nat) (h : n ≤ k) : (idsOf (fun j => if j = k then b else t j) n).length = (idsOf t n).length := by
  induction n with
  | zero => rfl
  | succ n ih =>
    rw [ids_succ, ids_succ, ih (by omega)]
    have e : n ≠ k := by omega
    simp [e]
theorem ids_true (t : Nat → Bool) (k n : Nat) (h : k < n) (ht : t k = false) : (idsOf (fun j => if j = k then true else t j) n).length = (idsOf t n).length + 1 := by
  induction n with
  | zero => omega
  | succ n ih =>
    rw [ids_succ, ids_succ]
    by_cases e : n = k
    · subst e; rw [ids_other t true n n (Nat.le_refl _)]; simp [ht]
    · rw [ih (by omega)]; simp [e]; omega
theorem ids_false (t : Nat → Bool) (k n : Nat) (h : k < n) (ht : t k = true) : (idsOf (fun j => if j = k then false else t j) n).length + 1 = (idsOf t n).length := by
  induction n with
  | zero => omega
  | succ n ih =>
    rw [ids_succ, ids_succ]
    by_cases e : n = k
    · subst e; rw [ids_other t false n n (Nat.le_refl _)]; simp [ht]
    · have := ih (by omega); simp only [if_neg e]; omega
theorem ids_none (n : Nat) : (idsOf (fun _ => false) n).length = 0 := by
  induction n with
  | zero => rfl
  | succ n ih => rw [ids_succ, ih]; rfl
theorem ids_pos (t : Nat → Bool) (k n : Nat) (h : k < n) (ht : t k = true) : 0 < (idsOf t n).length := by have := ids_false t k n h ht; omega

/-- Those that are free are seats, not taken, each once; with those that are taken they are all. -/
def SInv (n : Nat) (free : List Nat) (taken : Nat → Bool) : Prop := free.Nodup ∧ (∀ x, x ∈ free → x < n ∧ taken x = false) ∧ free.length + (idsOf taken n).length = n
theorem SInv.start (n : Nat) : SInv n (List.range n) (fun _ => false) := ⟨List.nodup_range, fun x hx => ⟨by simpa using hx, rfl⟩, by rw [ids_none]; simp⟩
theorem SInv.take {n x : Nat} {rest : List Nat} {t : Nat → Bool} (h : SInv n (x :: rest) t) : SInv n rest (fun j => if j = x then true else t j) := by
  obtain ⟨h1, h2, h3⟩ := h
  obtain ⟨n1, n2⟩ := List.nodup_cons.1 h1
  obtain ⟨a, b⟩ := h2 x (by simp)
  refine ⟨n2, fun y hy => ⟨(h2 y (by simp [hy])).1, ?_⟩, ?_⟩
  · have : y ≠ x := fun e => n1 (e ▸ hy)
    show (if y = x then true else t y) = false
    rw [if_neg this]; exact (h2 y (by simp [hy])).2
  · rw [ids_true t x n a b]; simp at h3; omega
theorem SInv.give {n k : Nat} {free : List Nat} {t : Nat → Bool} (h : SInv n free t) (hk : k < n) (ht : t k = true) : SInv n (free ++ [k]) (fun j => if j = k then false else t j) := by
  obtain ⟨h1, h2, h3⟩ := h
  have hn : k ∉ free := fun hm => by have := (h2 k hm).2; rw [ht] at this; cases this
  refine ⟨List.nodup_append.2 ⟨h1, by simp, ?_⟩, ?_, ?_⟩
  · intro a ha b hb; simp at hb; subst hb; intro e; exact hn (e ▸ ha)
  · intro y hy
    show y < n ∧ (if y = k then false else t y) = false
    by_cases e : y = k
    · subst e; exact ⟨hk, by simp⟩
    · rw [if_neg e]
      simp [e] at hy
      exact h2 y hy
  · have := ids_false t k n hk ht; rw [List.length_append]; simp only [List.length_singleton]; omega
theorem SInv.room {n k : Nat} {free : List Nat} {t : Nat → Bool} (h : SInv n free t) (hk : k < n) (ht : t k = true) : free.length < n := by
  have := ids_pos t k n hk ht
  have := h.2.2
  omega
theorem SInv.head {n x : Nat} {rest : List Nat} {t : Nat → Bool} (h : SInv n (x :: rest) t) : x < n ∧ t x = false := h.2.1 x (by simp)

/-- A world in which nothing below B has turned keeps seats that lie below B. -/
theorem SC.keepB {w w' : World} {B q c d n : Nat} {free : List Nat} {taken : Nat → Bool} (h : SC w q c d n free taken) (k : Below B w w') (hs : B ≤ w.heap.size) (hq : q < B) (hc : c < B) (hd : d < B) : SC w' q c d n free taken :=
  h.keep (A := fun b => B ≤ b) ⟨k.os, k.tape, k.output, k.size, fun b hb hn => k.block b (by omega)⟩ (by show ¬ B ≤ q; omega) (by show ¬ B ≤ c; omega) (by show ¬ B ≤ d; omega)
theorem owns_keeps {w w' : World} {base : Nat} {e : TypeId} {sz : Nat} {v : Value} {n : Nat} {xs : List Value} {A : Nat → Prop} (h : w.ownsRow base e sz v n xs) (k : Keeps A w w') (hb : ∀ g, v.ownBlock = some g → ¬ A g) : w'.ownsRow base e sz v n xs := by
  refine ⟨h.1, ?_⟩
  rcases h.2 with h | ⟨g, cap, cur, hv, hg, hw, r⟩
  · exact .inl h
  · refine .inr ⟨g, cap, cur, hv, hg, ?_, r⟩
    have hlt : g < w.heap.size := (Array.getElem?_eq_some_iff.1 hw).1
    rw [k.block g hlt (hb g (by rw [hv]; rfl))]
    exact hw
theorem own_form {w : World} {base : Nat} {e : TypeId} {sz : Nat} {v : Value} {n : Nat} {xs : List Value} (h : w.ownsRow base e sz v n xs) : ∃ p cap, v = .slice p n cap := by
  rcases h.2 with ⟨hv, h0⟩ | ⟨g, cap, cur, hv, _⟩
  · exact ⟨none, 0, by rw [hv, h0]⟩
  · exact ⟨_, cap, hv⟩
theorem add_blk (x : Addr) (k : Nat) : (x.add k).block = x.block := by unfold Addr.add; split <;> rfl
theorem mask6s (x : Int) : bits .and .i64 x 63 = x % 64 := i64_mask 6 (by decide) x
theorem mask7s (x : Int) : bits .and .i64 x 127 = x % 128 := i64_mask 7 (by decide) x
/-- A remainder made a seat's number. -/
theorem rest_bd (z : Int) (m : Nat) (h : 1 ≤ m) : -(m : Int) < z.tmod m ∧ z.tmod m < m := by
  have a := Int.tmod_lt_of_pos z (show (0 : Int) < m by omega)
  have b := Int.lt_tmod_of_pos z (show (0 : Int) < m by omega)
  exact ⟨b, a⟩
end Go.Proofs.Ytijkhfgjkgaekaa
