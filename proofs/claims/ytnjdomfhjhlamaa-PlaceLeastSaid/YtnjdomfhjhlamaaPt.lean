/- The closure of place.Assign, and what it does to the state. -/
import Derived.Test.YtnjdomfhjhlamaaPc
namespace Go.Proofs.Ytnjdomfhjhlamaa
open Go.RowKit
set_option linter.unusedVariables false
set_option linter.unusedSimpArgs false

/-- Where each runs (-1: not yet), and which cores are taken. -/
abbrev CSt := (Nat → Int) × (Int → Bool)
def ctake (s : CSt) (i : Nat) (c : Int) : CSt := if c ≠ -1 ∧ s.1 i = -1 ∧ s.2 c = false then (fun j => if j = i then c else s.1 j, fun x => if x = c then true else s.2 x) else s
/-- In memory: the slice's variable o, its cells' block g, the marks' block t. -/
def AS (w : World) (o g t n : Nat) (s : CSt) : Prop :=
  w.cell? ⟨o, 0, none⟩ = some (.slice (some ⟨g, 0, none⟩) n n) ∧ Hid (∀ j, j < n → w.cell? ⟨g, j, none⟩ = some (.int .i64 (s.1 j))) ∧ (∀ u, w.frozen? ⟨g, u, none⟩ = false) ∧ Hid (∀ c : Nat, c < 1024 → w.cell? ⟨t, c, none⟩ = some (.bool (s.2 c))) ∧ (∀ u, w.frozen? ⟨t, u, none⟩ = false) ∧ o ≠ g ∧ o ≠ t ∧ g ≠ t ∧ o < w.heap.size ∧ g < w.heap.size ∧ t < w.heap.size
theorem AS.keep {w w' : World} {o g t n : Nat} {s : CSt} {A : Nat → Prop} (h : AS w o g t n s) (k : Keeps A w w') (ho : ¬ A o) (hg : ¬ A g) (ht : ¬ A t) : AS w' o g t n s := by
  obtain ⟨h0, h1, h2, h3, h4, n1, n2, n3, s1, s2, s3⟩ := h
  exact ⟨(k.cell (p := ⟨o, 0, none⟩) s1 ho).trans h0, fun j hj => (k.cell (p := ⟨g, j, none⟩) s2 hg).trans (h1.out j hj), fun u => (k.frozen (p := ⟨g, u, none⟩) s2 hg).trans (h2 u), fun c hc => (k.cell (p := ⟨t, c, none⟩) s3 ht).trans (h3.out c hc), fun u => (k.frozen (p := ⟨t, u, none⟩) s3 ht).trans (h4 u), n1, n2, n3, Nat.lt_of_lt_of_le s1 k.size, Nat.lt_of_lt_of_le s2 k.size, Nat.lt_of_lt_of_le s3 k.size⟩
theorem AS.keepb {w w' : World} {o g t n : Nat} {s : CSt} (h : AS w o g t n s) (k : Below w.heap.size w w') : AS w' o g t n s := h.keep (A := fun _ => False) (Keeps.refl.below k) id id id

set_option maxRecDepth 8000 in
set_option maxHeartbeats 3200000 in
theorem take_any (o g t n i : Nat) (s : CSt) (c : Int) (w : World) (h : AS w o g t n s) (hi : i < n) (hn : n ≤ 1024) (c0 : -1 ≤ c) (c1 : c < 1024) :
    Calls Try.prog 22 #[.int .i64 i, .int .i64 c, .pointer (some ⟨o, 0, none⟩), .pointer (some ⟨t, 0, none⟩)] w fun e w' => e = .returned (.tuple #[]) ∧ AS w' o g t n (ctake s i c) ∧ Keeps (fun b => b = g ∨ b = t) w w' := by
  have H := Lib.hid h
  obtain ⟨h0, h1, h2, h3, h4, n1, n2, n3, s1, s2, s3⟩ := h
  have ci := h1.out i hi
  have il : (i : Int) < n := by omega
  go_enter Try.func22, Try.ntmps22
  by_cases hc : c = -1
  · have e : ctake s i c = s := by unfold ctake; rw [if_neg (fun h => h.1 hc)]
    subst hc
    go_wp2
    refine ⟨rfl, .tuple #[], by simp only [results, Try.results22]; go_simp, rfl, by rw [e]; exact H.out, Keeps.refl⟩
  · have hcn : (c == -1) = false := by rw [beq_eq_false_iff_ne]; exact hc
    obtain ⟨ck, rfl⟩ : ∃ k : Nat, c = k := ⟨c.toNat, by omega⟩
    have ckm : ck < 1024 := by omega
    have cki : (ck : Int) < 1024 := by omega
    have ct := h3.out ck ckm
    have hsi : ∀ z, s.1 i = z → w.cell? ⟨g, i, none⟩ = some (.int .i64 z) := fun z hz => by rw [← hz]; exact ci
    by_cases ho : s.1 i = -1
    · have ci' := hsi _ ho
      cases htk : s.2 ck with
      | true =>
        have e : ctake s i ck = s := by unfold ctake; rw [if_neg (fun h => by have := h.2.2; rw [htk] at this; cases this)]
        rw [htk] at ct
        clear ci hsi
        go_wp2
        refine ⟨rfl, .tuple #[], by simp only [results, Try.results22]; go_simp, rfl, by rw [e]; exact H.out, Keeps.refl⟩
      | false =>
        have e : ctake s i ck = (fun j => if j = i then (ck : Int) else s.1 j, fun x => if x = (ck : Int) then true else s.2 x) := by unfold ctake; rw [if_pos ⟨hc, ho, htk⟩]
        rw [htk] at ct
        have hgs := h2
        clear ci hsi
        go_wp2
        refine ⟨rfl, .tuple #[], by simp only [results, Try.results22]; go_simp, rfl, ?_, (Keeps.setCell (A := fun b => b = g ∨ b = t) (Keeps.setCell (A := fun b => b = g ∨ b = t) Keeps.refl (fun _ => .inl rfl) _) (fun _ => .inr rfl) _)⟩
        rw [e]
        refine ⟨by go_simp, fun j hj => ?_, fun u => by go_simp, fun c hc => ?_, fun u => by go_simp, n1, n2, n3, by simpa using s1, by simpa using s2, by simpa using s3⟩
        · show _ = some (Value.int .i64 (if j = i then (ck : Int) else s.1 j))
          rw [cell_put_other (by show g ≠ t; exact n3)]
          by_cases e2 : j = i
          · subst e2; simp; go_simp
          · rw [if_neg e2]; exact (cell_other w g i j _ e2).trans (h1.out j hj)
        · show _ = some (Value.bool (if (c : Int) = (ck : Int) then true else s.2 c))
          by_cases e2 : c = ck
          · subst e2; simp; go_simp
          · rw [if_neg (by omega)]
            exact (cell_other _ t ck c _ e2).trans ((cell_put_other (by show t ≠ g; exact Ne.symm n3)).trans (h3.out c hc))
    · have hon : (s.1 i == -1) = false := by rw [beq_eq_false_iff_ne]; exact ho
      have e : ctake s i ck = s := by unfold ctake; rw [if_neg (fun h => ho h.2.1)]
      generalize hz : s.1 i = z at *
      have ci' := hsi z rfl
      clear ci hsi
      go_wp2
      refine ⟨rfl, .tuple #[], by simp only [results, Try.results22]; go_simp, rfl, by rw [e]; exact H.out, Keeps.refl⟩
end Go.Proofs.Ytnjdomfhjhlamaa
