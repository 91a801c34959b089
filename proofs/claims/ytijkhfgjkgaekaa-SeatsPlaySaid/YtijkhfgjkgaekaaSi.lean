/- Contracts of the seats: Left, Taken, IDs; what is asked of none; the chapter's example. -/
import Derived.Test.YtijkhfgjkgaekaaSn
import Derived.Conc.LoneSelectN
namespace Go.Proofs.Ytijkhfgjkgaekaa
open Go.RowKit Go.Conc
set_option linter.unusedVariables false
set_option linter.unusedSimpArgs false

theorem SC.marks {w : World} {q c d n : Nat} {free : List Nat} {taken : Nat → Bool} (h : SC w q c d n free taken) : w.cell? ⟨q, 1, none⟩ = some (.slice (some ⟨d, 0, none⟩) n n) := h.2.1
/-- Seats stand where what has turned is other blocks. -/
theorem SC.keep {w w' : World} {q c d n : Nat} {free : List Nat} {taken : Nat → Bool} {A : Nat → Prop} (h : SC w q c d n free taken) (k : Keeps A w w') (hq : ¬ A q) (hc : ¬ A c) (hd : ¬ A d) : SC w' q c d n free taken := by
  obtain ⟨h0, h1, ⟨s, r, hc1⟩, hm, hfz, n1, n2, n3, hq1, hd1, hn⟩ := h
  exact ⟨(k.cell (p := ⟨q, 0, none⟩) hq1 hq).trans h0, (k.cell (p := ⟨q, 1, none⟩) hq1 hq).trans h1, ⟨s, r, (k.block c (chan_lt hc1) hc).trans hc1⟩, fun j hj => (k.cell (p := ⟨d, j, none⟩) hd1 hd).trans (hm j hj), fun o => (k.frozen (p := ⟨d, o, none⟩) hd1 hd).trans (hfz o), n1, n2, n3, Nat.lt_of_lt_of_le hq1 k.size, Nat.lt_of_lt_of_le hd1 k.size, hn⟩
theorem SC.keepb {w w' : World} {q c d n : Nat} {free : List Nat} {taken : Nat → Bool} (h : SC w q c d n free taken) (k : Below w.heap.size w w') : SC w' q c d n free taken :=
  h.keep (A := fun _ => False) (Keeps.refl.below k) (fun h => h) (fun h => h) (fun h => h)

set_option maxRecDepth 8000 in
set_option maxHeartbeats 1600000 in
theorem left_any (q c d n : Nat) (free : List Nat) (taken : Nat → Bool) (w : World) (h : SC w q c d n free taken) :
    Calls Try.prog 11 #[.pointer (some ⟨q, 0, none⟩)] w fun e w' => e = .returned (.int .i64 free.length) ∧ Below w.heap.size w w' := by
  obtain ⟨h0, h1, ⟨s, r, hc⟩, hm, hfz, n1, n2, n3, hq, hd, hn⟩ := h
  have hlen := fun ty => run_len_chan (P := Try.prog) 40 ty Try.underlying40 hc
  go_enter Try.func11, Try.ntmps11
  go_wp2
  go_ret
  exact ⟨by simp, (by repeat' (first | (with_reducible exact Below.refl _ _) | (with_reducible refine Below.alloc ?_ ?_ _) | (with_reducible refine below_drewN ?_ _) | (with_reducible refine Below.drew ?_) | (with_reducible refine Below.setCell ?_ ?_ _) | omega | (simp; omega) | (simp; done)))⟩

set_option maxRecDepth 8000 in
set_option maxHeartbeats 1600000 in
theorem taken_in (q c d n k : Nat) (free : List Nat) (taken : Nat → Bool) (w : World) (h : SC w q c d n free taken) (hk : k < n) :
    Calls Try.prog 18 #[.pointer (some ⟨q, 0, none⟩), .int .i64 k] w fun e w' => e = .returned (.bool (taken k)) ∧ Below w.heap.size w w' := by
  obtain ⟨h0, h1, ⟨s, r, hc⟩, hm, hfz, n1, n2, n3, hq, hd, hn⟩ := h
  have kn : decide ((k : Int) < n) = true := by simp; omega
  have k0 : decide (0 ≤ (k : Int)) = true := by simp
  have ht' : ∀ w1, Below w.heap.size w w1 → Calls Try.prog 20 #[.pointer (some ⟨q, 0, none⟩), .int .i64 k] w1 fun e w' => e = .returned (.bool true) ∧ Below w1.heap.size w1 w' := fun w1 hb => by
    have := there_any q d n k w1 ((hb.cell (p := ⟨q, 1, none⟩) hq).trans h1)
    rw [k0, kn] at this
    exact this
  have HT := Lib.hid ht'
  have hmk := hm k hk
  have hkl : (k : Int) < n := by omega
  clear ht'
  go_enter Try.func18, Try.ntmps18
  go_wp2_with (go_at_call 20; (with_reducible refine (HT.out _ ?_).mono ?_); (focus (exact (by repeat' (first | (with_reducible exact Below.refl _ _) | (with_reducible refine Below.alloc ?_ ?_ _) | (with_reducible refine below_drewN ?_ _) | (with_reducible refine Below.drew ?_) | (with_reducible refine Below.setCell ?_ ?_ _) | omega | (simp; omega) | (simp; done))))); rintro e w1 ⟨rfl, hb1⟩; have s_w1 := hb1.size; (try simp only [World.size_alloc, World.size_setCell, World.size_drew, sz_drewN] at s_w1); have z_w1_0_0 : q < w1.heap.size := (by omega); have z_w1_0_1 : q < w1.heap.size + 1 := (by omega); have z_w1_0_2 : q < w1.heap.size + 1 + 1 := (by omega); have q_w1_0_0 : w1.cell? ⟨q, 0, none⟩ = some (.chan (some c)) := (hb1.cell (p := ⟨q, 0, none⟩) (by first | (show q < _; omega) | (show q < _; simp; done) | (show q < _; simp; omega))).trans (by first | assumption | (go_simp; done)); have q_w1_0_1 : w1.cell? ⟨q, 1, none⟩ = some (.slice (some ⟨d, 0, none⟩) n n) := (hb1.cell (p := ⟨q, 1, none⟩) (by first | (show q < _; omega) | (show q < _; simp; done) | (show q < _; simp; omega))).trans (by first | assumption | (go_simp; done)); have m1 : w1.cell? ⟨d, k, none⟩ = some (.bool (taken k)) := (hb1.cell (p := ⟨d, k, none⟩) hd).trans hmk)
  go_ret
  exact ⟨by simp, (by have s0_ := hb1.size; (try simp only [World.size_alloc, World.size_setCell, World.size_drew, sz_drewN] at s0_); repeat' (first | (with_reducible exact Below.refl _ _) | (with_reducible refine bel_call ?_ ?_ hb1) | (with_reducible refine Below.alloc ?_ ?_ _) | (with_reducible refine below_drewN ?_ _) | (with_reducible refine Below.drew ?_) | (with_reducible refine Below.setCell ?_ ?_ _) | omega | (simp; omega) | (simp; done)))⟩

set_option maxRecDepth 8000 in
set_option maxHeartbeats 1600000 in
theorem taken_out (q c d n : Nat) (k : Int) (free : List Nat) (taken : Nat → Bool) (w : World) (h : SC w q c d n free taken) (hk : k < 0 ∨ (n : Int) ≤ k) :
    Calls Try.prog 18 #[.pointer (some ⟨q, 0, none⟩), .int .i64 k] w fun e w' => e = .returned (.bool false) ∧ Below w.heap.size w w' := by
  obtain ⟨h0, h1, ⟨s, r, hc⟩, hm, hfz, n1, n2, n3, hq, hd, hn⟩ := h
  have kn : (decide (0 ≤ k) && decide (k < n)) = false := by
    rcases hk with h | h
    · rw [show decide (0 ≤ k) = false by simp; omega]; rfl
    · rw [show decide (k < n) = false by simp; omega, Bool.and_false]
  have ht' : ∀ w1, Below w.heap.size w w1 → Calls Try.prog 20 #[.pointer (some ⟨q, 0, none⟩), .int .i64 k] w1 fun e w' => e = .returned (.bool false) ∧ Below w1.heap.size w1 w' := fun w1 hb => by
    have := there_any q d n k w1 ((hb.cell (p := ⟨q, 1, none⟩) hq).trans h1)
    rw [kn] at this
    exact this
  have HT := Lib.hid ht'
  clear ht'
  go_enter Try.func18, Try.ntmps18
  go_wp2_with (go_at_call 20; (with_reducible refine (HT.out _ ?_).mono ?_); (focus (exact (by repeat' (first | (with_reducible exact Below.refl _ _) | (with_reducible refine Below.alloc ?_ ?_ _) | (with_reducible refine below_drewN ?_ _) | (with_reducible refine Below.drew ?_) | (with_reducible refine Below.setCell ?_ ?_ _) | omega | (simp; omega) | (simp; done))))); rintro e w1 ⟨rfl, hb1⟩)
  go_ret
  exact ⟨rfl, (by have s0_ := hb1.size; (try simp only [World.size_alloc, World.size_setCell, World.size_drew, sz_drewN] at s0_); repeat' (first | (with_reducible exact Below.refl _ _) | (with_reducible refine bel_call ?_ ?_ hb1) | (with_reducible refine Below.alloc ?_ ?_ _) | (with_reducible refine below_drewN ?_ _) | (with_reducible refine Below.drew ?_) | (with_reducible refine Below.setCell ?_ ?_ _) | omega | (simp; omega) | (simp; done)))⟩

theorem info_int : (Try.prog.info? 3).map (fun i => (i.zero, i.size, i.bytes)) = some (some (.int .i64 0), 1, 8) := by kernel_rfl
/-- The seats below k that are taken. -/
def idsOf (taken : Nat → Bool) (k : Nat) : List Nat := (List.range k).filter taken
theorem ids_len (taken : Nat → Bool) (k : Nat) : (idsOf taken k).length ≤ k := by
  have := List.length_filter_le taken (List.range k)
  simpa [idsOf] using this

set_option maxRecDepth 8000 in
set_option maxHeartbeats 3200000 in
theorem ids_any (q c d n : Nat) (free : List Nat) (taken : Nat → Bool) (w : World) (h : SC w q c d n free taken) :
    Calls Try.prog 12 #[.pointer (some ⟨q, 0, none⟩)] w fun e w' => (∃ v, e = .returned v ∧ w'.ownsRow w.heap.size 3 1 v (idsOf taken n).length ((idsOf taken n).map seatV)) ∧ Below w.heap.size w w' := by
  obtain ⟨h0, h1, ⟨s, r, hc⟩, hm, hfz, n1, n2, n3, hq, hd, hn⟩ := h
  obtain ⟨i0, hi, hz0, hz1, hz2⟩ := info_parts info_int
  go_enter Try.func12, Try.ntmps12
  go_wp2
  go_loopw [3, 13] (fun v s13 wr => ∃ (k m : Nat), s13 = .int .i64 k ∧ k ≤ n ∧ m = (idsOf taken k).length ∧ wr.ownsRow w.heap.size 3 1 v m ((idsOf taken k).map seatV) ∧ Below w.heap.size w wr) (fun _ s13 _ => n - (intOf s13).toNat)
  case atStart => exact ⟨0, 0, rfl, by omega, rfl, World.ownsRow_nil _ _ _ _, Below.refl _ _⟩
  case round =>
    obtain ⟨k, m, rfl, hk, rfl, hown, hB⟩ := hrel
    have hs := hB.size
    have hml2 := ids_len taken k
    by_cases hlt : k < n
    · have hkl : (k : Int) < n := by omega
      have hcell : wr.cell? ⟨d, k, none⟩ = some (.bool (taken k)) := (hB.cell (p := ⟨d, k, none⟩) hd).trans (hm k hlt)
      have wk : IntKind.i64.wrap ((k : Int) + 1) = (k : Int) + 1 := wrap_in _ (by omega) (by omega)
      have hsn : idsOf taken (k + 1) = if taken k then idsOf taken k ++ [k] else idsOf taken k := by
        unfold idsOf
        rw [List.range_succ, List.filter_append]
        cases h : taken k <;> simp [h]
      cases ht : taken k with
      | false =>
        rw [ht] at hcell hsn
        clear hm hfz
        go_wp2
        go_roundw
        case rel => exact ⟨k + 1, (idsOf taken k).length, by go_num, by omega, by rw [hsn]; simp, by rw [hsn]; simpa using hown, hB⟩
        case measure => (simp [intOf] <;> omega)
      | true =>
        rw [ht] at hcell hsn
        clear hm hfz
        go_wp2_with (at_builtin; refine wpList_append_own _ rfl _ _ 22 rfl w.heap.size 3 i0 (.int .i64 0) 1 8 Try.underlying22 hi hz0 hz1 hz2 rfl (by decide) _ _ _ rfl (hown.alloc _) ⟨wr.heap.size, 0, none⟩ 1 1 [.int .i64 k] rfl rfl ?c1 ?c2 ?c3 ?c4 ?c5 ?_)
        case c2 => rfl
        case c3 => unfold maxLen; omega
        case c4 => omega
        case c5 => have := hB.size; simp; omega
        · intro v' w2 hown' hgrow _
          have r2 : Below w.heap.size w w2 := (hB.alloc (by omega) _).grown hgrow (by simp; omega) (fun j hj => (hown.lt j hj).1)
          have r1 : w2.ownsRow w.heap.size 3 1 v' ((idsOf taken k).length + 1) ((idsOf taken k ++ [k]).map seatV) := by
            have e : (idsOf taken k ++ [k]).map seatV = (idsOf taken k).map seatV ++ [.int .i64 k] := by simp [seatV]
            rw [e]; exact hown'
          clear hown' hgrow hown hcell
          go_wp2
          go_roundw
          case rel => exact ⟨k + 1, (idsOf taken k).length + 1, by go_num, by omega, by rw [hsn]; simp, by rw [hsn]; simpa using r1, r2⟩
          case measure => (simp [intOf] <;> omega)
    · have hke : k = n := by omega
      subst hke
      go_wp2
      go_ret
      exact ⟨⟨_, rfl, hown⟩, hB⟩
end Go.Proofs.Ytijkhfgjkgaekaa
