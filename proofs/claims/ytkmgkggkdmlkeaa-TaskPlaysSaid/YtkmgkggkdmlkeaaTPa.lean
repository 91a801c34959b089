/- The two tasks of TaskPlays side by side; plain facts that each step keeps. -/
import Derived.Test.YtkmgkggkdmlkeaaRe10
namespace Go.Proofs.Ytkmgkggkdmlkeaa
open Go.RowKit
set_option linter.unusedVariables false
set_option linter.unusedSimpArgs false

/-- What is known of the two tasks, side by side; the one may be a step ahead. -/
def Half (w : World) (t s r base : Nat) (E P : Int) (early : Bool) (cut : Bool) (off i : Int) (L : List Sb) (x : Sb) (done : Int) (cut' : Bool) (off' i' : Int) (L' : List Sb) (x' : Sb) (done' : Int) (F G : Nat → Prop) : Prop :=
  PT w t s F base E P early cut off i L x done ∧ PR w r G base E P early cut' off' (i' - 1) L' x' done' ∧ (∀ j, F j → ¬ G j)
abbrev Two (w : World) (t s r base : Nat) (E P : Int) (early cut : Bool) (off i : Int) (L : List Sb) (x : Sb) (done : Int) (F G : Nat → Prop) : Prop :=
  Half w t s r base E P early cut off i L x done cut off i L x done F G
section
variable {w w' w1 : World} {t s r base : Nat} {E P : Int} {early cut cut' cut1 : Bool} {off i off' i' off1 i1 : Int} {L L' L1 : List Sb} {x x' x1 : Sb} {done done' done1 : Int} {F G F' G' : Nat → Prop}
theorem Half.keepb (h : Half w t s r base E P early cut off i L x done cut' off' i' L' x' done' F G) (k : Below w.heap.size w w') : Half w' t s r base E P early cut off i L x done cut' off' i' L' x' done' F G :=
  ⟨h.1.keepb k, h.2.1.keepb k, h.2.2⟩
theorem Half.left (h : Half w t s r base E P early cut off i L x done cut' off' i' L' x' done' F G) (hP : PT w1 t s F' base E P early cut1 off1 i1 L1 x1 done1) (hk : Keeps F w w1) (hF : ∀ k, F' k → F k ∨ w.heap.size ≤ k) :
    Half w1 t s r base E P early cut1 off1 i1 L1 x1 done1 cut' off' i' L' x' done' F' G :=
  ⟨hP, h.2.1.keep hk (fun k hg hf => h.2.2 k hf hg), fun j hf hg => by
    rcases hF j hf with h1 | h1
    · exact h.2.2 j h1 hg
    · have := (h.2.1.bd j hg).2; omega⟩
theorem Half.right (h : Half w t s r base E P early cut off i L x done cut' off' i' L' x' done' F G) (hP : PR w1 r G' base E P early cut1 off1 (i1 - 1) L1 x1 done1) (hk : Keeps G w w1) (hG : ∀ k, G' k → G k ∨ w.heap.size ≤ k) :
    Half w1 t s r base E P early cut off i L x done cut1 off1 i1 L1 x1 done1 F G' :=
  ⟨h.1.keep hk (fun k hf hg => h.2.2 k hf hg), hP, fun j hf hg => by
    rcases hG j hg with h1 | h1
    · exact h.2.2 j hf h1
    · have := (h.1.bd j hf).2; omega⟩
/-- The weight's block, and what was there before, stay. -/
def QB (w : World) (Q : Nat) (E P : Int) (V : World) : Prop := V.cell? ⟨Q, 0, none⟩ = some (.int .i64 E) ∧ V.cell? ⟨Q, 1, none⟩ = some (.int .i64 P) ∧ w.heap.size ≤ Q ∧ Q < V.heap.size ∧ Below w.heap.size w V
theorem QB.keep {Q : Nat} {V V' : World} (h : QB w Q E P V) (k : Keeps F V V') (hF : ∀ j, F j → Q + 1 ≤ j) : QB w Q E P V' := by
  obtain ⟨h0, h1, h2, h3, h4⟩ := h
  have nQ : ¬ F Q := fun h => by have := hF Q h; omega
  exact ⟨(k.cell (p := ⟨Q, 0, none⟩) h3 nQ).trans h0, (k.cell (p := ⟨Q, 1, none⟩) h3 nQ).trans h1, h2, Nat.lt_of_lt_of_le h3 k.size, h4.trans (k.to_below h4.size (fun j hj hf => by have := hF j hf; omega))⟩
theorem QB.keepb {Q : Nat} {V V' : World} (h : QB w Q E P V) (k : Below V.heap.size V V') : QB w Q E P V' := h.keep (F := fun _ => False) (Keeps.of_below k) (fun _ h => h.elim)
end
/-- Plain facts that each step keeps. -/
def Fine (E P : Int) (off i : Int) (L : List Sb) (x : Sb) (done : Int) (k : Nat) : Prop :=
  1 ≤ i ∧ i ≤ 1 + 64 * k ∧ 0 ≤ off ∧ off ≤ 1099511627776 ∧ L.length ≤ 64 ∧ 0 ≤ done ∧ done ≤ k ∧ (¬ 0 < done → x = Sb.zero) ∧ Up (Win.rel E P i + off) L
theorem Fine.next {E P off i : Int} {L : List Sb} {x : Sb} {done : Int} {k : Nat} (h : Fine E P off i L x done k) : Fine E P off i L x done (k + 1) := by
  obtain ⟨h1, h2, h3, h4, h5, h6, h7, h8, h9⟩ := h
  exact ⟨h1, by omega, h3, h4, h5, h6, by omega, h8, h9⟩
theorem Fine.run {E P off i : Int} {y : Sb} {l : List Sb} {x : Sb} {done : Int} {k : Nat} (h : Fine E P off i (y :: l) x done k) : Fine E P off i l y (done + 1) (k + 1) := by
  obtain ⟨h1, h2, h3, h4, h5, h6, h7, h8, h9⟩ := h
  exact ⟨h1, by omega, h3, h4, by simp at h5; omega, by omega, by omega, fun h => by omega, h9.sub (List.sublist_cons_self _ _)⟩
theorem Fine.cut {E P off i a : Int} {L : List Sb} {x : Sb} {done : Int} {k : Nat} (h : Fine E P off i L x done k) : Fine E P off i (cutL a L) x done (k + 1) := by
  obtain ⟨h1, h2, h3, h4, h5, h6, h7, h8, h9⟩ := h
  exact ⟨h1, by omega, h3, h4, Nat.le_trans (List.length_filter_le _ _) h5, h6, by omega, h8, h9.sub List.filter_sublist⟩
theorem Fine.arrive {E P off i a : Int} {L : List Sb} {x : Sb} {done : Int} {k n : Nat} (h : Fine E P off i L x done k) (hE : 1 ≤ E) (hP : 1 ≤ P) (a1 : a ≤ 1099511627776) (hn : L.length + n ≤ 64) : Fine E P (aoff E P a off i n) (i + n) (L ++ sbs E P a off i n) x done (k + 1) := by
  obtain ⟨h1, h2, h3, h4, h5, h6, h7, h8, h9⟩ := h
  obtain ⟨b1, b2⟩ := aoff_bd E P a off i hE hP h1 h3 n
  exact ⟨by omega, by omega, b1, by omega, by rw [List.length_append, sbs_len]; exact hn, h6, by omega, h8, up_arrive E P a off i (by omega) (by omega) L h9 n⟩

end Go.Proofs.Ytkmgkggkdmlkeaa
