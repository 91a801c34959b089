/- Contracts of the document's seats: New, IDs; of the document's Same. -/
import Derived.Test.YtijkhfgjkgaekaaRs
namespace Go.Proofs.Ytijkhfgjkgaekaa
open Go.RowKit Go.Conc
set_option linter.unusedVariables false
set_option linter.unusedSimpArgs false

set_option maxRecDepth 8000 in
set_option maxHeartbeats 3200000 in
theorem rnew_any (n : Nat) (w : World) (hn : n ≤ 64) :
    Calls Try.prog 13 #[.int .i64 n] w fun e w' => ∃ r, e = .returned (.pointer (some ⟨r, 0, none⟩)) ∧ RS w' r n (List.range n) ∧ w.heap.size ≤ r ∧ Below w.heap.size w w' := by
  obtain ⟨i0, hi, hz0, hz1, hz2⟩ := info_parts info_int
  go_enter Try.func13, Try.ntmps13
  go_upto_region 2 with fail
  refine gen_world (F := fun V => RS V w.heap.size n [] ∧ Below w.heap.size w V) ⟨⟨none, 0, by go_simp, by go_simp, fun o => by go_simp, by simp, RowAt.nil _ _ _⟩, (by repeat' (first | (with_reducible exact Below.refl _ _) | (with_reducible refine Below.alloc ?_ ?_ _) | (with_reducible refine below_drewN ?_ _) | (with_reducible refine Below.drew ?_) | (with_reducible refine Below.setCell ?_ ?_ _) | omega | (simp; omega) | (simp; done)))⟩ ?_
  rintro V ⟨hS, hbv⟩
  go_wp2
  go_loopw [4] (fun s4 wr => ∃ (i : Nat), s4 = .int .i64 i ∧ i ≤ n ∧ RS wr w.heap.size n (List.range i) ∧ Below w.heap.size w wr) (fun s4 _ => 64 - (intOf s4).toNat)
  case atStart => exact ⟨0, rfl, by omega, hS, hbv⟩
  case round =>
    clear hS hbv
    obtain ⟨i, rfl, hi1, hS, hbv⟩ := hrel
    have hs := hbv.size
    by_cases hlt : i < n
    · have il : (i : Int) < n := by omega
      have wk : IntKind.i64.wrap ((i : Int) + 1) = (i : Int) + 1 := wrap_in _ (by omega) (by omega)
      obtain ⟨p1, cap1, h0, h1, hf, hs1, hr1⟩ := hS
      rw [List.length_range] at h1 hr1
      go_wp2_with (at_builtin; refine wpList_row_lies _ rfl _ _ 22 rfl (w.heap.size + 1) 3 i0 (.int .i64 0) 1 8 Try.underlying22 hi hz0 hz1 hz2 rfl (by decide) _ _ _ rfl (hr1.alloc _) ⟨wr.heap.size, 0, none⟩ 1 1 [.int .i64 i] rfl rfl ?c1 ?c2 ?c2b ?c3 ?c4 ?c5 ?_)
      case c1 =>
        intro j u hj
        match j, hj with
        | 0, hj => simp at hj; subst hj; simp [Addr.add]
      case c2 => intro u hu; simp at hu; subst hu; rfl
      case c2b => omega
      case c3 => unfold maxLen; omega
      case c4 => omega
      case c5 => simp; omega
      · intro g off cap2 w2 hrow hgrow hat hlt2
        have K12 : Keeps (fun b => w.heap.size < b) wr w2 := (Keeps.refl.alloc _).grown hgrow (fun k hk _ => by have := (hr1.lt k hk).1; show w.heap.size < k; omega)
        have g0 : w2.cell? ⟨w.heap.size, 0, none⟩ = _ := (K12.cell (p := ⟨w.heap.size, 0, none⟩) hs1 (Nat.lt_irrefl _)).trans h0
        have g1 : w2.cell? ⟨w.heap.size, 1, none⟩ = _ := (K12.cell (p := ⟨w.heap.size, 1, none⟩) hs1 (Nat.lt_irrefl _)).trans h1
        have gf : ∀ o, w2.frozen? ⟨w.heap.size, o, none⟩ = false := fun o => (K12.frozen (p := ⟨w.heap.size, o, none⟩) hs1 (Nat.lt_irrefl _)).trans (hf o)
        have s2 := K12.size
        have hrow2 : RowAt w2 (w.heap.size + 1) 1 (.slice (some ⟨g, off, none⟩) (List.range (i + 1)).length cap2) (List.range (i + 1)).length ((List.range (i + 1)).map seatV) := by
          have e2 : (List.range (i + 1)).map seatV = (List.range i).map seatV ++ [.int .i64 i] := by rw [List.range_succ]; simp [seatV]
          rw [e2, List.length_range]; exact hrow
        have hfin := RS.put g0 g1 gf (by omega) hrow2
        rw [List.length_range] at hfin
        have hb2 : Below w.heap.size w w2 := hbv.trans (K12.to_below hs (fun k hk h => by omega))
        clear hrow hrow2 hgrow hat hr1 h0 h1 hf
        go_wp2
        go_roundw
        case rel => exact ⟨i + 1, by go_num, by omega, hfin, hb2.setCell (Nat.le_refl _) _⟩
        case measure => (simp [intOf] <;> omega)
    · have il : ¬ (i : Int) < n := by omega
      have hke : n = i := by omega
      go_wp2
      go_ret
      subst hke
      exact ⟨_, rfl, hS, Nat.le_refl _, hbv⟩

set_option maxRecDepth 8000 in
set_option maxHeartbeats 3200000 in
theorem rids_any (r n : Nat) (fr : List Nat) (taken : Nat → Bool) (w : World) (h : RS w r n fr) (hn : n ≤ 64) (hl : fr.length ≤ 64) (ht : ∀ j, j < n → taken j = decide (j ∉ fr)) :
    Calls Try.prog 17 #[.pointer (some ⟨r, 0, none⟩)] w fun e w' => (∃ v, e = .returned v ∧ w'.ownsRow w.heap.size 3 1 v (idsOf taken n).length ((idsOf taken n).map seatV)) ∧ Below w.heap.size w w' := by
  have htk : ∀ k, k < n → ∀ w1, Below w.heap.size w w1 → Calls Try.prog 19 #[.pointer (some ⟨r, 0, none⟩), .int .i64 k] w1 fun e w' => e = .returned (.bool (taken k)) ∧ Below w1.heap.size w1 w' := fun k hk w1 hb => by
    have := rtaken_any r n fr k w1 (h.keepb hb) hn hl
    have kd0 : decide (0 ≤ (k : Int)) = true := by simp
    have kd1 : decide ((k : Int) < n) = true := by simp; omega
    have e : decide (∀ x, x ∈ fr → (x : Int) ≠ k) = taken k := by
      rw [ht k hk]
      exact decide_eq_decide.2 ⟨fun h hm => h k hm rfl, fun hm x hx e => hm ((show x = k by omega) ▸ hx)⟩
    rw [kd0, kd1, e, Bool.and_self, Bool.and_true] at this
    exact this
  have HT := Lib.hid htk
  clear htk ht
  obtain ⟨p, cap, h0, h1, hf, hs, hr⟩ := h
  obtain ⟨i0, hi, hz0, hz1, hz2⟩ := info_parts info_int
  go_enter Try.func17, Try.ntmps17
  go_wp2
  go_loopw [3, 4] (fun v s4 wr => ∃ (k : Nat), s4 = .int .i64 k ∧ k ≤ n ∧ wr.ownsRow w.heap.size 3 1 v (idsOf taken k).length ((idsOf taken k).map seatV) ∧ Below w.heap.size w wr) (fun _ s4 _ => n - (intOf s4).toNat)
  case atStart => exact ⟨0, rfl, by omega, World.ownsRow_nil _ _ _ _, Below.refl _ _⟩
  case round =>
    obtain ⟨k, rfl, hk, hown, hB⟩ := hrel
    have hs2 := hB.size
    have hml2 := ids_len taken k
    have h0r : wr.cell? ⟨r, 0, none⟩ = some (.int .i64 n) := (hB.cell (p := ⟨r, 0, none⟩) hs).trans h0
    by_cases hlt : k < n
    · have hkl : (k : Int) < n := by omega
      have wk : IntKind.i64.wrap ((k : Int) + 1) = (k : Int) + 1 := wrap_in _ (by omega) (by omega)
      have HTK := Lib.hid (HT.out k hlt wr hB)
      have hsn : idsOf taken (k + 1) = if taken k then idsOf taken k ++ [k] else idsOf taken k := by
        unfold idsOf
        rw [List.range_succ, List.filter_append]
        cases h : taken k <;> simp [h]
      have HOW := Lib.hid hown
      cases ht : taken k with
      | false =>
        rw [ht] at hsn HTK
        go_wp2_with (go_at_call 19; (with_reducible refine HTK.out.mono ?_); rintro e w1 ⟨rfl, hb1⟩)
        go_roundw
        case rel => exact ⟨k + 1, by go_num, by omega, by rw [hsn]; exact owns_keeps HOW.out (Keeps.refl.below hb1 : Keeps (fun _ => False) wr w1) (fun _ _ => id), bel_call hB hs2 hb1⟩
        case measure => (simp [intOf] <;> omega)
      | true =>
        rw [ht] at hsn HTK
        go_upto_region 7 with (go_at_call 19; (with_reducible refine HTK.out.mono ?_); rintro e w1 ⟨rfl, hb1⟩)
        have hown1 : w1.ownsRow w.heap.size 3 1 u3 _ _ := owns_keeps HOW.out (Keeps.refl.below hb1 : Keeps (fun _ => False) wr w1) (fun _ _ => id)
        have hB1 := bel_call hB hs2 hb1
        have hs3 := hB1.size
        clear hown
        go_wp2_with (at_builtin; refine wpList_append_own _ rfl _ _ 22 rfl w.heap.size 3 i0 (.int .i64 0) 1 8 Try.underlying22 hi hz0 hz1 hz2 rfl (by decide) _ _ _ rfl (hown1.alloc _) ⟨w1.heap.size, 0, none⟩ 1 1 [.int .i64 k] rfl rfl ?c1 ?c2 ?c3 ?c4 ?c5 ?_)
        try case c1 =>
          intro j u hj
          match j, hj with
          | 0, hj => simp at hj; subst hj; simp [Addr.add]
        case c2 => first | rfl | (intro u hu; simp at hu; subst hu; rfl)
        case c3 => unfold maxLen; omega
        case c4 => omega
        case c5 => simp; omega
        · intro v' w2 hown' hgrow _
          have r2 : Below w.heap.size w w2 := (hB1.alloc (by omega) _).grown hgrow (by simp; omega) (fun j hj => (hown1.lt j hj).1)
          have r1 : w2.ownsRow w.heap.size 3 1 v' (idsOf taken k ++ [k]).length ((idsOf taken k ++ [k]).map seatV) := by
            have e : (idsOf taken k ++ [k]).map seatV = (idsOf taken k).map seatV ++ [.int .i64 k] := by simp [seatV]
            rw [e, List.length_append]; exact hown'
          clear hown' hgrow hown1 HOW
          go_wp2
          go_roundw
          case rel => exact ⟨k + 1, by go_num, by omega, by rw [hsn]; exact r1, r2⟩
          case measure => (simp [intOf] <;> omega)
    · have hke : k = n := by omega
      subst hke
      go_wp2
      go_ret
      exact ⟨⟨_, rfl, hown⟩, hB⟩

set_option maxRecDepth 8000 in
set_option maxHeartbeats 3200000 in
theorem same_yes (b1 b2 : Nat) (v1 v2 : Value) (xs : List Nat) (w : World) (h1 : w.ownsRow b1 3 1 v1 xs.length (xs.map seatV)) (h2 : w.ownsRow b2 3 1 v2 xs.length (xs.map seatV)) (hl : xs.length ≤ 64) :
    Calls Try.prog 16 #[v1, v2] w fun e w' => e = .returned (.bool true) ∧ Below w.heap.size w w' := by
  obtain ⟨p1, c1, rfl⟩ := own_form h1
  obtain ⟨p2, c2, rfl⟩ := own_form h2
  have H1 := Lib.hid h1
  have H2 := Lib.hid h2
  clear h1 h2
  go_enter Try.func16, Try.ntmps16
  go_wp2
  go_loopw [5] (fun s5 wr => ∃ (i : Nat), s5 = .int .i64 i ∧ i ≤ xs.length ∧ Hid (∃ k, wr = w.drewN k)) (fun s5 _ => 64 - (intOf s5).toNat)
  case atStart => exact ⟨0, rfl, by omega, ⟨0, rfl⟩⟩
  case round =>
    obtain ⟨i, rfl, hi, hw⟩ := hrel
    obtain ⟨dk, rfl⟩ := hw.out
    by_cases hlt : i < xs.length
    · obtain ⟨g1, rfl, hc1, _, gs1, hcl1⟩ := owns_some H1.out (by omega)
      obtain ⟨g2, rfl, hc2, _, gs2, hcl2⟩ := owns_some H2.out (by omega)
      have d1 : w.cell? ⟨g1, i, none⟩ = some (.int .i64 (xs[i] : Nat)) := by rw [hcl1 i (by omega)]; simp [hlt, seatV]
      have d2 : w.cell? ⟨g2, i, none⟩ = some (.int .i64 (xs[i] : Nat)) := by rw [hcl2 i (by omega)]; simp [hlt, seatV]
      have il : (i : Int) < xs.length := by omega
      have wk : IntKind.i64.wrap ((i : Int) + 1) = (i : Int) + 1 := wrap_in _ (by omega) (by omega)
      generalize ((xs[i] : Nat) : Int) = V at *
      clear hcl1 hcl2
      have e1 : (w.drewN dk).cell? ⟨g1, i, none⟩ = some (.int .i64 V) := d1
      have e2 : (w.drewN dk).cell? ⟨g2, i, none⟩ = some (.int .i64 V) := d2
      go_upto_region 6 with fail
      go_region
      go_wp2
      exact ⟨⟨i + 1, by go_num, by omega, ⟨dk + 1, rfl⟩⟩, by simp [intOf]; omega⟩
    · have il : ¬ (i : Int) < xs.length := by omega
      go_wp2
      go_ret
      exact ⟨rfl, below_drewN (Below.refl _ _) _⟩

/-- Those that are free are just those that are not taken. -/
def PInv (n : Nat) (fr : List Nat) (t : Nat → Bool) : Prop := SInv n fr t ∧ ∀ x, x < n → t x = false → x ∈ fr
theorem PInv.start (n : Nat) : PInv n (List.range n) (fun _ => false) := ⟨SInv.start n, fun x hx _ => by simpa using hx⟩
theorem PInv.take {n x : Nat} {rest : List Nat} {t : Nat → Bool} (h : PInv n (x :: rest) t) : PInv n rest (fun j => if j = x then true else t j) := by
  refine ⟨h.1.take, fun y hy ht => ?_⟩
  have ht' : (if y = x then true else t y) = false := ht
  by_cases e : y = x
  · rw [if_pos e] at ht'; cases ht'
  · rw [if_neg e] at ht'
    rcases List.mem_cons.1 (h.2 y hy ht') with h | h
    · exact absurd h e
    · exact h
theorem PInv.give {n k : Nat} {fr : List Nat} {t : Nat → Bool} (h : PInv n fr t) (hk : k < n) (ht : t k = true) : PInv n (fr ++ [k]) (fun j => if j = k then false else t j) := by
  refine ⟨h.1.give hk ht, fun y hy hy2 => ?_⟩
  have ht' : (if y = k then false else t y) = false := hy2
  by_cases e : y = k
  · subst e; simp
  · rw [if_neg e] at ht'
    exact List.mem_append_left _ (h.2 y hy ht')
theorem PInv.free {n : Nat} {fr : List Nat} {t : Nat → Bool} (h : PInv n fr t) (j : Nat) (hj : j < n) : t j = decide (j ∉ fr) := by
  cases ht : t j
  · exact (decide_eq_false_iff_not.2 (fun hn => hn (h.2 j hj ht))).symm
  · rw [eq_comm, decide_eq_true_iff]
    intro hm
    have := (h.1.2.1 j hm).2
    rw [ht] at this
    cases this
theorem PInv.len {n : Nat} {fr : List Nat} {t : Nat → Bool} (h : PInv n fr t) : fr.length ≤ n := by have := h.1.2.2; omega
end Go.Proofs.Ytijkhfgjkgaekaa
