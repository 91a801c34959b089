/- Contracts of the document's seats. -/
import Derived.Test.YtijkhfgjkgaekaaSp
import Derived.Test.YtijkhfgjkgaekaaRl
namespace Go.Proofs.Ytijkhfgjkgaekaa
open Go.RowKit Go.Conc
set_option linter.unusedVariables false
set_option linter.unusedSimpArgs false

/-- The document's seats: their block r, how many, those that are free in order. -/
def RS (w : World) (r n : Nat) (fr : List Nat) : Prop :=
  ∃ p cap, w.cell? ⟨r, 0, none⟩ = some (.int .i64 n) ∧ w.cell? ⟨r, 1, none⟩ = some (.slice p fr.length cap) ∧ (∀ o, w.frozen? ⟨r, o, none⟩ = false) ∧ r < w.heap.size ∧ RowAt w (r + 1) 1 (.slice p fr.length cap) fr.length (fr.map seatV)
theorem RS.keep {w w' : World} {r n : Nat} {fr : List Nat} {A : Nat → Prop} (h : RS w r n fr) (k : Keeps A w w') (hA : ∀ b, r ≤ b → ¬ A b) : RS w' r n fr := by
  obtain ⟨p, cap, h0, h1, hf, hs, hr⟩ := h
  exact ⟨p, cap, (k.cell (p := ⟨r, 0, none⟩) hs (hA r (Nat.le_refl _))).trans h0, (k.cell (p := ⟨r, 1, none⟩) hs (hA r (Nat.le_refl _))).trans h1, fun o => (k.frozen (p := ⟨r, o, none⟩) hs (hA r (Nat.le_refl _))).trans (hf o), Nat.lt_of_lt_of_le hs k.size,
    hr.block k.size (fun g hg => k.block g (hr.lt g hg).2 (hA g (by have := (hr.lt g hg).1; omega)))⟩
theorem RS.keepb {w w' : World} {r n : Nat} {fr : List Nat} (h : RS w r n fr) (k : Below w.heap.size w w') : RS w' r n fr := h.keep (A := fun _ => False) (Keeps.refl.below k) (fun _ _ h => h)
theorem Keeps.trans' {A : Nat → Prop} {a b c : World} (h : Keeps A a b) (k : Keeps A b c) : Keeps A a c :=
  ⟨k.os.trans h.os, k.tape.trans h.tape, k.output.trans h.output, Nat.le_trans h.size k.size, fun i hi hn => (k.block i (Nat.lt_of_lt_of_le hi h.size) hn).trans (h.block i hi hn)⟩
theorem fr_cell {w : World} {r g off : Nat} {fr : List Nat} (h : ∀ j, j < fr.length * 1 → w.cell? ⟨g, off + j, none⟩ = (fr.map seatV)[j]?) (i : Nat) (hi : i < fr.length) : w.cell? ⟨g, off + i, none⟩ = some (.int .i64 (fr[i] : Nat)) := by
  rw [h i (by omega)]
  simp [hi, seatV]

set_option maxRecDepth 8000 in
set_option maxHeartbeats 3200000 in
theorem rtaken_any (r n : Nat) (fr : List Nat) (k : Int) (w : World) (h : RS w r n fr) (hn : n ≤ 64) (hl : fr.length ≤ 64) :
    Calls Try.prog 19 #[.pointer (some ⟨r, 0, none⟩), .int .i64 k] w fun e w' => e = .returned (.bool (decide (∀ x, x ∈ fr → (x : Int) ≠ k) && (decide (0 ≤ k) && decide (k < n)))) ∧ Below w.heap.size w w' := by
  obtain ⟨p, cap, h0, h1, hf, hs, hr⟩ := h
  go_enter Try.func19, Try.ntmps19
  go_wp2
  go_loopw [5] (fun s5 wr => ∃ (i : Nat), s5 = .int .i64 i ∧ i ≤ fr.length ∧ Hid (∀ j (hj : j < fr.length), j < i → ((fr[j] : Nat) : Int) ≠ k) ∧ wr = w) (fun s5 _ => 64 - (intOf s5).toNat)
  case atStart => exact ⟨0, rfl, by omega, fun j hj h => by omega, rfl⟩
  case round =>
    obtain ⟨i, rfl, hi, hne, rfl⟩ := hrel
    by_cases hlt : i < fr.length
    · obtain ⟨g, off, rfl, gb, gs, hc, hcl, hsp⟩ := hr.some (by omega)
      have hcell := fr_cell (r := r) hcl i hlt
      have il : (i : Int) < fr.length := by omega
      have wk : IntKind.i64.wrap ((i : Int) + 1) = (i : Int) + 1 := wrap_in _ (by omega) (by omega)
      clear hcl hsp
      by_cases hk : ((fr[i] : Nat) : Int) = k
      · have hres : decide (∀ x, x ∈ fr → (x : Int) ≠ k) = false := by
          rw [decide_eq_false_iff_not]
          exact fun h => h _ (List.getElem_mem hlt) hk
        rw [hk] at hcell
        go_wp2
        go_ret
        exact ⟨by first | rfl | (rw [hres]; rfl), (by repeat' (first | (with_reducible exact Below.refl _ _) | (with_reducible refine Below.alloc ?_ ?_ _) | (with_reducible refine below_drewN ?_ _) | (with_reducible refine Below.drew ?_) | (with_reducible refine Below.setCell ?_ ?_ _) | omega | (simp; omega) | (simp; done)))⟩
      · generalize hv : ((fr[i] : Nat) : Int) = V at *
        have hkf : (V == k) = false := by simpa using hk
        go_wp2
        go_roundw
        case rel => exact ⟨i + 1, by go_num, by omega, fun j hj h => by
          by_cases e : j = i
          · subst e; rw [hv]; exact hk
          · exact hne.out j hj (by omega), by first | rfl | trivial⟩
        case measure => (simp [intOf] <;> omega)
    · have il : ¬ (i : Int) < fr.length := by omega
      have hres : decide (∀ x, x ∈ fr → (x : Int) ≠ k) = true := by
        rw [decide_eq_true_iff]
        intro x hx
        obtain ⟨j, hj, rfl⟩ := List.getElem_of_mem hx
        exact hne.out j hj (by omega)
      cases hk0 : decide (0 ≤ k)
      · go_wp2
        go_ret
        exact ⟨by first | rfl | (rw [hres]; rfl) | (rw [hres]; simp), (by repeat' (first | (with_reducible exact Below.refl _ _) | (with_reducible refine Below.alloc ?_ ?_ _) | (with_reducible refine below_drewN ?_ _) | (with_reducible refine Below.drew ?_) | (with_reducible refine Below.setCell ?_ ?_ _) | omega | (simp; omega) | (simp; done)))⟩
      · go_wp2
        go_ret
        exact ⟨by first | rfl | (rw [hres]; rfl) | (rw [hres]; simp), (by repeat' (first | (with_reducible exact Below.refl _ _) | (with_reducible refine Below.alloc ?_ ?_ _) | (with_reducible refine below_drewN ?_ _) | (with_reducible refine Below.drew ?_) | (with_reducible refine Below.setCell ?_ ?_ _) | omega | (simp; omega) | (simp; done)))⟩

theorem RS.put {w : World} {r n : Nat} {fr : List Nat} {p : Option Addr} {cap : Nat} {u : Value} (h0 : w.cell? ⟨r, 0, none⟩ = some (.int .i64 n)) (h1 : w.cell? ⟨r, 1, none⟩ = some u) (hf : ∀ o, w.frozen? ⟨r, o, none⟩ = false) (hs : r < w.heap.size)
    (hr : RowAt w (r + 1) 1 (.slice p fr.length cap) fr.length (fr.map seatV)) : RS (w.setCell ⟨r, 1, none⟩ (.slice p fr.length cap)) r n fr :=
  ⟨p, cap, by go_simp, by go_simp, fun o => by go_simp, by simpa using hs, hr.block (by simp) (fun g hg => Below.heap_setCell _ _ _ _ (by have := (hr.lt g hg).1; show g ≠ r; omega))⟩
theorem keeps_put (w : World) (t o : Nat) (v : Value) : Keeps (fun b => b = t) w (w.setCell ⟨t, o, none⟩ v) := Keeps.setCell (A := fun b => b = t) Keeps.refl (fun _ => rfl) v

set_option maxRecDepth 8000 in
set_option maxHeartbeats 3200000 in
theorem rtake_none (r n : Nat) (w : World) (h : RS w r n []) :
    Calls Try.prog 14 #[.pointer (some ⟨r, 0, none⟩)] w fun e w' => e = .returned (.tuple #[.int .i64 0, .int .i64 15]) ∧ Below w.heap.size w w' := by
  obtain ⟨p, cap, h0, h1, hf, hs, hr⟩ := h
  simp only [List.length_nil] at h1
  go_enter Try.func14, Try.ntmps14
  go_wp2
  exact bodyPost_ret (v := .tuple #[.int .i64 0, .int .i64 15]) (by simp only [results, Try.results14]; go_simp) rfl ⟨rfl, (by repeat' (first | (with_reducible exact Below.refl _ _) | (with_reducible refine Below.alloc ?_ ?_ _) | (with_reducible refine below_drewN ?_ _) | (with_reducible refine Below.drew ?_) | (with_reducible refine Below.setCell ?_ ?_ _) | omega | (simp; omega) | (simp; done)))⟩

set_option maxRecDepth 8000 in
set_option maxHeartbeats 3200000 in
theorem rtake_some (r n x : Nat) (rest : List Nat) (w : World) (h : RS w r n (x :: rest)) :
    Calls Try.prog 14 #[.pointer (some ⟨r, 0, none⟩)] w fun e w' => e = .returned (.tuple #[.int .i64 x, .int .i64 0]) ∧ RS w' r n rest ∧ Keeps (fun b => b = r) w w' := by
  obtain ⟨p, cap, h0, h1, hf, hs, hr⟩ := h
  obtain ⟨g, off, rfl, gb, gs, hc, hcl, hsp⟩ := hr.some (by simp)
  have hcell : w.cell? ⟨g, off, none⟩ = some (.int .i64 x) := fr_cell (r := r) hcl 0 (by simp)
  simp only [List.length_cons] at h1 hc
  have hcap : 1 ≤ cap := by omega
  have hl0 : (((rest.length + 1 : Nat) : Int) == 0) = false := by rw [beq_eq_false_iff_ne]; omega
  clear hcl hsp
  go_enter Try.func14, Try.ntmps14
  go_wp2
  · obtain rfl : cap = 1 := by assumption
    exact bodyPost_ret (v := .tuple #[.int .i64 x, .int .i64 0]) (by simp only [results, Try.results14]; go_simp) rfl ⟨rfl, RS.put h0 h1 hf hs (hr.tail (x := [seatV x]) rfl off (.inr rfl)), keeps_put _ _ _ _⟩
  · exact bodyPost_ret (v := .tuple #[.int .i64 x, .int .i64 0]) (by simp only [results, Try.results14]; go_simp) rfl ⟨rfl, RS.put h0 h1 hf hs (hr.tail (x := [seatV x]) rfl (off + 1) (.inl rfl)), keeps_put _ _ _ _⟩

set_option maxRecDepth 8000 in
set_option maxHeartbeats 3200000 in
theorem rgive_arg (r n : Nat) (k : Int) (fr : List Nat) (w : World) (h : RS w r n fr) (hk : k < 0 ∨ (n : Int) ≤ k) :
    Calls Try.prog 15 #[.pointer (some ⟨r, 0, none⟩), .int .i64 k] w fun e w' => e = .returned (.int .i64 1) ∧ Below w.heap.size w w' := by
  obtain ⟨p, cap, h0, h1, hf, hs, hr⟩ := h
  go_enter Try.func15, Try.ntmps15
  rcases (show k < 0 ∨ (¬ k < 0 ∧ (n : Int) ≤ k) by omega) with h | ⟨h, h'⟩
  · go_wp2
    go_ret
    exact ⟨rfl, (by repeat' (first | (with_reducible exact Below.refl _ _) | (with_reducible refine Below.alloc ?_ ?_ _) | (with_reducible refine below_drewN ?_ _) | (with_reducible refine Below.drew ?_) | (with_reducible refine Below.setCell ?_ ?_ _) | omega | (simp; omega) | (simp; done)))⟩
  · go_wp2
    go_ret
    exact ⟨rfl, (by repeat' (first | (with_reducible exact Below.refl _ _) | (with_reducible refine Below.alloc ?_ ?_ _) | (with_reducible refine below_drewN ?_ _) | (with_reducible refine Below.drew ?_) | (with_reducible refine Below.setCell ?_ ?_ _) | omega | (simp; omega) | (simp; done)))⟩

set_option maxRecDepth 8000 in
set_option maxHeartbeats 3200000 in
theorem rgive_no (r n k : Nat) (fr : List Nat) (w : World) (h : RS w r n fr) (hn : n ≤ 64) (hl : fr.length ≤ 64) (hk : k < n) (hm : k ∈ fr) :
    Calls Try.prog 15 #[.pointer (some ⟨r, 0, none⟩), .int .i64 k] w fun e w' => e = .returned (.int .i64 12) ∧ Below w.heap.size w w' := by
  have hres : decide (∀ x, x ∈ fr → (x : Int) ≠ k) = false := by
    rw [decide_eq_false_iff_not]; exact fun h => h k hm rfl
  have ht : ∀ w1, Below w.heap.size w w1 → Calls Try.prog 19 #[.pointer (some ⟨r, 0, none⟩), .int .i64 k] w1 fun e w' => e = .returned (.bool false) ∧ Below w1.heap.size w1 w' := fun w1 hb => by
    have := rtaken_any r n fr k w1 (h.keepb hb) hn hl
    rw [hres] at this
    exact this
  have HT := Lib.hid ht
  clear ht hres
  obtain ⟨p, cap, h0, h1, hf, hs, hr⟩ := h
  have k0 : ¬ (k : Int) < 0 := by omega
  have k1 : (k : Int) < n := by omega
  go_enter Try.func15, Try.ntmps15
  go_wp2_with (go_at_call 19; (with_reducible refine (HT.out _ ?_).mono ?_); (focus (exact (by repeat' (first | (with_reducible exact Below.refl _ _) | (with_reducible refine Below.alloc ?_ ?_ _) | (with_reducible refine below_drewN ?_ _) | (with_reducible refine Below.drew ?_) | (with_reducible refine Below.setCell ?_ ?_ _) | omega | (simp; omega) | (simp; done))))); rintro e w1 ⟨rfl, hb1⟩)
  go_ret
  exact ⟨rfl, (by have s0_ := hb1.size; (try simp only [World.size_alloc, World.size_setCell, World.size_drew, sz_drewN] at s0_); repeat' (first | (with_reducible exact Below.refl _ _) | (with_reducible refine bel_call ?_ ?_ hb1) | (with_reducible refine Below.alloc ?_ ?_ _) | (with_reducible refine below_drewN ?_ _) | (with_reducible refine Below.drew ?_) | (with_reducible refine Below.setCell ?_ ?_ _) | omega | (simp; omega) | (simp; done)))⟩

set_option maxRecDepth 8000 in
set_option maxHeartbeats 3200000 in
theorem rgive_yes (r n k : Nat) (fr : List Nat) (w : World) (h : RS w r n fr) (hn : n ≤ 64) (hl : fr.length ≤ 64) (hk : k < n) (hm : k ∉ fr) :
    Calls Try.prog 15 #[.pointer (some ⟨r, 0, none⟩), .int .i64 k] w fun e w' => e = .returned (.int .i64 0) ∧ RS w' r n (fr ++ [k]) ∧ Keeps (fun b => r ≤ b) w w' := by
  have k1 : (k : Int) < n := by omega
  have hres : decide (∀ x, x ∈ fr → (x : Int) ≠ k) = true := by
    rw [decide_eq_true_iff]; intro x hx e; exact hm (by have : x = k := by omega
                                                        exact this ▸ hx)
  have kd0 : decide (0 ≤ (k : Int)) = true := by simp
  have kd1 : decide ((k : Int) < n) = true := by simp; omega
  have ht : ∀ w1, Below w.heap.size w w1 → Calls Try.prog 19 #[.pointer (some ⟨r, 0, none⟩), .int .i64 k] w1 fun e w' => e = .returned (.bool true) ∧ Below w1.heap.size w1 w' := fun w1 hb => by
    have := rtaken_any r n fr k w1 (h.keepb hb) hn hl
    rw [hres, kd0, kd1] at this
    exact this
  have HT := Lib.hid ht
  have HR := Lib.hid h
  clear ht hres
  obtain ⟨p, cap, h0, h1, hf, hs, hr⟩ := h
  have k0 : ¬ (k : Int) < 0 := by omega
  obtain ⟨i0, hi, hz0, hz1, hz2⟩ := info_parts info_int
  go_enter Try.func15, Try.ntmps15
  go_upto_region 6 with (go_at_call 19; (with_reducible refine (HT.out _ ?_).mono ?_); (focus (exact (by repeat' (first | (with_reducible exact Below.refl _ _) | (with_reducible refine Below.alloc ?_ ?_ _) | (with_reducible refine below_drewN ?_ _) | (with_reducible refine Below.drew ?_) | (with_reducible refine Below.setCell ?_ ?_ _) | omega | (simp; omega) | (simp; done))))); rintro e w1 ⟨rfl, hb1⟩)
  have hr1 := HR.out.keepb hb1
  have s1 := hb1.size
  clear h0 h1 hf hr HR HT
  obtain ⟨p1, cap1, h0, h1, hf, hs1, hr⟩ := hr1
  go_wp2_with (at_builtin; refine wpList_row_lies _ rfl _ _ 22 rfl (r + 1) 3 i0 (.int .i64 0) 1 8 Try.underlying22 hi hz0 hz1 hz2 rfl (by decide) _ _ _ rfl (hr.alloc _) ⟨w1.heap.size, 0, none⟩ 1 1 [.int .i64 k] rfl rfl ?c1 ?c2 ?c2b ?c3 ?c4 ?c5 ?_)
  case c1 =>
    intro j u hj
    match j, hj with
    | 0, hj => simp at hj; subst hj; simp [Addr.add]
  case c2 => intro u hu; simp at hu; subst hu; rfl
  case c2b => omega
  case c3 => unfold maxLen; omega
  case c4 => omega
  case c5 => simp; omega
  · intro g off cap2 w2 hrow hgrow hat hlt
    have K12 : Keeps (fun b => r < b) w1 w2 := (Keeps.refl.alloc _).grown hgrow (fun k hk _ => by have := (hr.lt k hk).1; show r < k; omega)
    have g0 : w2.cell? ⟨r, 0, none⟩ = _ := (K12.cell (p := ⟨r, 0, none⟩) hs1 (by show ¬ r < r; omega)).trans h0
    have g1 : w2.cell? ⟨r, 1, none⟩ = _ := (K12.cell (p := ⟨r, 1, none⟩) hs1 (by show ¬ r < r; omega)).trans h1
    have gf : ∀ o, w2.frozen? ⟨r, o, none⟩ = false := fun o => (K12.frozen (p := ⟨r, o, none⟩) hs1 (by show ¬ r < r; omega)).trans (hf o)
    have s2 := K12.size
    have hrow2 : RowAt w2 (r + 1) 1 (.slice (some ⟨g, off, none⟩) (fr ++ [k]).length cap2) (fr ++ [k]).length ((fr ++ [k]).map seatV) := by
      have e1 : (fr ++ [k]).length = fr.length + 1 := by simp
      have e2 : (fr ++ [k]).map seatV = fr.map seatV ++ [.int .i64 k] := by simp [seatV]
      rw [e1, e2]; exact hrow
    have hfin := RS.put g0 g1 gf (by omega) hrow2
    rw [show (fr ++ [k]).length = fr.length + 1 by simp] at hfin
    have kk : Keeps (fun b => r ≤ b) w w2 := (Keeps.refl.below hb1).trans' ⟨K12.os, K12.tape, K12.output, K12.size, fun b hb hn => K12.block b hb (by omega)⟩
    clear hrow hrow2 hgrow hat hr h0 h1 hf
    go_wp2
    go_ret
    exact ⟨rfl, hfin, kk.setCell (fun _ => Nat.le_refl r) _⟩
end Go.Proofs.Ytijkhfgjkgaekaa
