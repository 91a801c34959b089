/- The walk of the law SeatsPlay. -/
import Derived.Test.YtijkhfgjkgaekaaRt
import Derived.Test.YtijkhfgjkgaekaaFrame
namespace Go.Proofs.Ytijkhfgjkgaekaa
open Go.RowKit Go.Conc
set_option linter.unusedVariables false
set_option linter.unusedSimpArgs false

theorem taken_both {V : World} {q c d m r : Nat} {fr : List Nat} {tk : Nat → Bool} (hS : SC V q c d m fr tk) (hR : RS V r m fr) (hI : PInv m fr tk) (m2 : m ≤ 64) (K : Int) :
    ∃ T : Bool, (∀ w1, Below V.heap.size V w1 → Calls Try.prog 18 #[.pointer (some ⟨q, 0, none⟩), .int .i64 K] w1 fun e w' => e = .returned (.bool T) ∧ Below w1.heap.size w1 w') ∧
      (∀ w1, Below V.heap.size V w1 → Calls Try.prog 19 #[.pointer (some ⟨r, 0, none⟩), .int .i64 K] w1 fun e w' => e = .returned (.bool T) ∧ Below w1.heap.size w1 w') := by
  have hl := hI.len
  by_cases hk : 0 ≤ K ∧ K < m
  · obtain ⟨k, rfl⟩ : ∃ k : Nat, K = k := ⟨K.toNat, by omega⟩
    have hkm : k < m := by omega
    refine ⟨tk k, fun w1 hb => taken_in q c d m k fr tk w1 (hS.keepb hb) hkm, fun w1 hb => ?_⟩
    have := rtaken_any r m fr k w1 (hR.keepb hb) m2 (by omega)
    have kd0 : decide (0 ≤ (k : Int)) = true := by simp
    have kd1 : decide ((k : Int) < m) = true := by simp; omega
    have e : decide (∀ x, x ∈ fr → (x : Int) ≠ k) = tk k := by
      rw [hI.free k hkm]
      exact decide_eq_decide.2 ⟨fun h hm => h k hm rfl, fun hm x hx e => hm ((show x = k by omega) ▸ hx)⟩
    rw [kd0, kd1, e, Bool.and_self, Bool.and_true] at this
    exact this
  · refine ⟨false, fun w1 hb => taken_out q c d m K fr tk w1 (hS.keepb hb) (by omega), fun w1 hb => ?_⟩
    have := rtaken_any r m fr K w1 (hR.keepb hb) m2 (by omega)
    have e : (decide (0 ≤ K) && decide (K < m)) = false := by
      rcases (show K < 0 ∨ (m : Int) ≤ K by omega) with h | h
      · rw [show decide (0 ≤ K) = false by simp; omega]; rfl
      · rw [show decide (K < m) = false by simp; omega, Bool.and_false]
    rw [e, Bool.and_false] at this
    exact this
theorem keep1 {w0 wp w1 : World} {b o : Nat} {u : Value} (h : Below w0.heap.size w0 wp ∧ wp.cell? ⟨b, o, none⟩ = some u) (hs : b < w0.heap.size) (hb : Below wp.heap.size wp w1) : Below w0.heap.size w0 w1 ∧ w1.cell? ⟨b, o, none⟩ = some u :=
  ⟨bel_call h.1 h.1.size hb, (hb.cell (p := ⟨b, o, none⟩) (Nat.lt_of_lt_of_le hs h.1.size)).trans h.2⟩

set_option maxRecDepth 8000 in
set_option maxHeartbeats 12800000 in
theorem walk_SeatsPlay (a0 : Int) (a1 : Option Addr) (len1 cap1 : Nat) (z1 : List Int) (w : World) (_f0 : (Lit.int .i64 a0).wf = true) (f1 : IsRow .i64 w a1 len1 cap1 z1) :
    Calls Try.prog 5 #[.int .i64 a0, .slice a1 len1 cap1] w fun e w' => e = .returned (.bool true) ∧ Below w.heap.size w w' := by
  obtain ⟨m, hm, m1, m2⟩ : ∃ m : Nat, 1 + bits .and .i64 a0 63 = (m : Int) ∧ 1 ≤ m ∧ m ≤ 64 := by
    rw [mask6s]; exact ⟨(1 + a0 % 64).toNat, by omega, by omega, by omega⟩
  have hz : ∀ i, i < len1 → ∃ x, a1 = some x ∧ x.block < w.heap.size ∧ ∃ z, w.cell? (x.add i) = some (.int .i64 z) ∧ i < cap1 := by
    intro i hi
    rcases f1 with ⟨_, rfl, _, _⟩ | ⟨x, rfl, hl, hm, hzl, hc, _, hb⟩
    · omega
    · exact ⟨x, rfl, hb (by omega), _, hc i (by omega), by omega⟩
  have HZ := Lib.hid hz
  have hnew := fun w => snew_yes m w m1 m2
  have HNEW := Lib.hid hnew
  have hrnew := fun w => rnew_any m w m2
  have HRNEW := Lib.hid hrnew
  clear hz f1 hnew hrnew
  go_enter Try.func5, Try.ntmps5
  go_upto_region 6 with (first
    | (go_at_call 7; (with_reducible refine (awake17 _).mono ?_); rintro e w1 ⟨rfl, hb1⟩; have s1 := hb1.size)
    | (go_at_call 8; (with_reducible refine (HNEW.out _).mono ?_); rintro e w2 ⟨q, c, d, rfl, hS, gq, gc, gd, hb2⟩))
  have hbv : Below w.heap.size w w2 := (by have s0_ := hb1.size; have s1_ := hb2.size; (try simp only [World.size_alloc, World.size_setCell, World.size_drew, sz_drewN] at s0_ s1_); repeat' (first | (with_reducible exact Below.refl _ _) | (with_reducible refine bel_call ?_ ?_ hb2) | (with_reducible refine bel_call ?_ ?_ hb1) | (with_reducible refine Below.alloc ?_ ?_ _) | (with_reducible refine below_drewN ?_ _) | (with_reducible refine Below.drew ?_) | (with_reducible refine Below.setCell ?_ ?_ _) | omega | (simp; omega) | (simp; done)))
  have gq' : w.heap.size ≤ q := by omega
  have gc' : w.heap.size ≤ c := by omega
  have gd' : w.heap.size ≤ d := by omega
  have hs2 := hbv.size
  have qb : q < w2.heap.size := hS.2.2.2.2.2.2.2.2.1
  have db : d < w2.heap.size := hS.2.2.2.2.2.2.2.2.2.1
  have cb : c < w2.heap.size := by obtain ⟨_, _, ⟨s, r, hc⟩, _⟩ := hS; exact chan_lt hc
  clear hb1 hb2 HNEW gq gc gd s1
  go_upto_region 7 with (go_at_call 13; (with_reducible refine (HRNEW.out _).mono ?_); rintro e w3 ⟨r, rfl, hR, gr, hb3⟩)
  have hS3 := hS.keepb hb3
  have hbv3 : Below w.heap.size w w3 := bel_call hbv hs2 hb3
  have gr' : w.heap.size ≤ r := by omega
  have qr : q < r := by omega
  have dr : d < r := by omega
  have cr : c < r := by omega
  clear hS hbv hb3 qb db cb gr HRNEW
  go_wp2
  go_loopw [9] (fun s9 wr => ∃ (i : Nat) (fr : List Nat) (tk : Nat → Bool), s9 = .int .i64 i ∧ i ≤ len1 ∧ i ≤ 150 ∧ SC wr q c d m fr tk ∧ RS wr r m fr ∧ PInv m fr tk ∧ Below w.heap.size w wr) (fun s9 _ => 150 - (intOf s9).toNat)
  case atStart => exact ⟨0, _, _, rfl, by omega, by omega, hS3, hR, PInv.start m, hbv3⟩
  case round =>
    clear hS3 hR hbv3
    obtain ⟨i, fr, tk, rfl, hi1, hi2, hS, hR, hI, hbv⟩ := hrel
    have hs := hbv.size
    by_cases hlt : i < len1 ∧ i < 150
    · obtain ⟨hl1, hl2⟩ := hlt
      obtain ⟨x, rfl, xb, z, hz, hcap⟩ := HZ.out i hl1
      have il : (i : Int) < len1 := by omega
      have il2 : (i : Int) < 150 := by omega
      have hzr : wr.cell? (x.add i) = some (.int .i64 z) := (hbv.cell (p := x.add i) (by rw [add_blk]; exact xb)).trans hz
      have hfl := hI.len
      obtain ⟨K, hK, hK0, hK1, hK2⟩ : ∃ K : Int, z.tmod 70 = K ∧ -70 < K ∧ K < 70 ∧ (0 ≤ z → 0 ≤ K) := ⟨_, rfl, (rest_bd z 70 (by omega)).1, (rest_bd z 70 (by omega)).2, fun h => Int.tmod_nonneg 70 h⟩
      have wK : IntKind.i64.wrap K = K := wrap_in _ (by omega) (by omega)
      by_cases hz0 : z < 0
      · rcases (show fr = [] ∨ ∃ y rest, fr = y :: rest by cases fr <;> simp) with hf | ⟨y, rest, rfl⟩
        · have HTA := Lib.hid (take_none q c d m tk wr (hf ▸ hS))
          have HTB := Lib.hid (fun w1 (hb : Below wr.heap.size wr w1) => rtake_none r m w1 (hf ▸ hR.keepb hb))
          clear hf
          go_upto_region 17 with (first
            | (go_at_call 9; (with_reducible refine HTA.out.mono ?_); rintro e w4 ⟨rfl, hb4⟩; have s4 := hb4.size)
            | (go_at_call 14; (with_reducible refine (HTB.out _ hb4).mono ?_); rintro e w5 ⟨rfl, hb5⟩))
          refine gen_world (F := fun V => SC V q c d m fr tk ∧ RS V r m fr ∧ V.cell? (x.add i) = some (.int .i64 z) ∧ Below w.heap.size w V) ⟨(hS.keepb hb4).keepb hb5, (hR.keepb hb4).keepb hb5, (hb5.cell (p := x.add i) (by rw [add_blk]; omega)).trans ((hb4.cell (p := x.add i) (by rw [add_blk]; omega)).trans hzr), bel_call (bel_call hbv hs hb4) (by omega) hb5⟩ ?_
          clear hS hR hbv hs hzr hz hb4 hb5 HTA HTB s4
          rintro V3 ⟨hS3, hR3, hx3, hbv3⟩
          have hs3 := hbv3.size
          have hidl := ids_len tk m
          have HIA := Lib.hid (fun w1 hb => ids_any q c d m fr tk w1 (hS3.keepb hb))
          have HIB := Lib.hid (fun w1 hb => rids_any r m fr tk w1 (hR3.keepb hb) m2 (by have := hI.len; omega) hI.free)
          go_upto_region 18 with (first
            | (go_at_call 12; (with_reducible refine (HIA.out _ (Below.refl _ _)).mono ?_); rintro e w6 ⟨⟨v1, rfl, hown1⟩, hb6⟩)
            | (go_at_call 17; (with_reducible refine (HIB.out _ hb6).mono ?_); rintro e w7 ⟨⟨v2, rfl, hown2⟩, hb7⟩)
            | (go_at_call 16; (with_reducible refine (same_yes _ _ _ _ (idsOf tk m) _ (owns_keeps hown1 (Keeps.refl.below hb7 : Keeps (fun _ => False) w6 w7) (fun _ _ => id)) hown2 (by omega)).mono ?_); rintro e w8 ⟨rfl, hb8⟩))
          have h68 : Below V3.heap.size V3 w8 := bel_call (bel_call hb6 hb6.size hb7) (by have := hb6.size; have := hb7.size; omega) hb8
          refine gen_world (F := fun V => SC V q c d m fr tk ∧ RS V r m fr ∧ Below w.heap.size w V) ⟨hS3.keepb h68, hR3.keepb h68, bel_call hbv3 hs3 h68⟩ ?_
          clear hS3 hR3 hbv3 hs3 h68 hb6 hb7 hb8 hown1 hown2 HIA HIB hidl hx3
          rintro V4 ⟨hS4, hR4, hbv4⟩
          have hs4 := hbv4.size
          obtain ⟨T, hta, htb⟩ := taken_both hS4 hR4 hI m2 K
          have HTA := Lib.hid hta
          have HTB := Lib.hid htb
          have HLF := Lib.hid (fun w1 hb => left_any q c d m fr tk w1 (hS4.keepb hb))
          have HS4 := Lib.hid hS4
          have HR4 := Lib.hid hR4
          obtain ⟨p, cap, h0, h1, hf, hrs, hrow⟩ := hR4
          clear hta htb hS4 h0 hf hrow
          try simp only [List.append]
          go_region_held3 (fun x => Below V4.heap.size V4 x ∧ x.cell? ⟨r, 1, none⟩ = some (.slice p fr.length cap))
            (first | exact keep1 (by assumption) hrs hb | exact ⟨Below.drew (Below.refl _ _), by simpa using h1⟩)
            (first
              | (go_at_call 11; (with_reducible refine (HLF.out _ (by with_reducible assumption : Below V4.heap.size V4 _ ∧ _).1).mono ?_); rintro e w1 ⟨rfl, hb⟩)
              | (go_at_call 18; (with_reducible refine (HTA.out _ (by with_reducible assumption : Below V4.heap.size V4 _ ∧ _).1).mono ?_); rintro e w1 ⟨rfl, hb⟩)
              | (go_at_call 19; (with_reducible refine (HTB.out _ (by with_reducible assumption : Below V4.heap.size V4 _ ∧ _).1).mono ?_); rintro e w1 ⟨rfl, hb⟩))
          have hfin := (‹Below V4.heap.size V4 _ ∧ _›).1
          have wk : IntKind.i64.wrap ((i : Int) + 1) = (i : Int) + 1 := wrap_in _ (by omega) (by omega)
          go_wp2
          go_roundw
          case rel => exact ⟨i + 1, fr, tk, by go_num, by omega, by omega, HS4.out.keepb hfin, HR4.out.keepb hfin, hI, bel_call hbv4 hs4 hfin⟩
          case measure => (simp [intOf] <;> omega)
        · obtain ⟨hy, hty⟩ := hI.1.head
          have HTA := Lib.hid (take_some q c d m y rest tk wr hS hy)
          have HTB := Lib.hid (fun w1 h => rtake_some r m y rest w1 h)
          have hI2 := hI.take
          go_upto_region 17 with (first
            | (go_at_call 9; (with_reducible refine HTA.out.mono ?_); rintro e w4 ⟨rfl, hS4, hk4⟩; have s4 := hk4.size)
            | (go_at_call 14; (with_reducible refine (HTB.out _ (hR.keep hk4 (fun b hb h => by rcases h with h | h <;> omega))).mono ?_); rintro e w5 ⟨rfl, hR5, hk5⟩))
          refine gen_world (F := fun V => SC V q c d m rest (fun j => if j = y then true else tk j) ∧ RS V r m rest ∧ V.cell? (x.add i) = some (.int .i64 z) ∧ Below w.heap.size w V) ⟨hS4.keep hk5 (by show ¬ q = r; omega) (by show ¬ c = r; omega) (by show ¬ d = r; omega), hR5, (hk5.cell (p := x.add i) (by rw [add_blk]; omega) (by rw [add_blk]; omega)).trans ((hk4.cell (p := x.add i) (by rw [add_blk]; omega) (fun h => by simp only [add_blk] at h; rcases h with h | h <;> omega)).trans hzr), (bel_keeps hbv hs gc' gd' hk4).trans (hk5.to_below (by omega) (fun k hk h => by omega))⟩ ?_
          clear hS hR hbv hs hzr hz hS4 hk4 hR5 hk5 HTA HTB s4 hI
          generalize (fun j => if j = y then true else tk j) = tk2 at *
          rintro V3 ⟨hS3, hR3, hx3, hbv3⟩
          have hs3 := hbv3.size
          have hidl := ids_len tk2 m
          have HIA := Lib.hid (fun w1 hb => ids_any q c d m rest tk2 w1 (hS3.keepb hb))
          have HIB := Lib.hid (fun w1 hb => rids_any r m rest tk2 w1 (hR3.keepb hb) m2 (by have := hI2.len; omega) hI2.free)
          go_upto_region 18 with (first
            | (go_at_call 12; (with_reducible refine (HIA.out _ (Below.refl _ _)).mono ?_); rintro e w6 ⟨⟨v1, rfl, hown1⟩, hb6⟩)
            | (go_at_call 17; (with_reducible refine (HIB.out _ hb6).mono ?_); rintro e w7 ⟨⟨v2, rfl, hown2⟩, hb7⟩)
            | (go_at_call 16; (with_reducible refine (same_yes _ _ _ _ (idsOf tk2 m) _ (owns_keeps hown1 (Keeps.refl.below hb7 : Keeps (fun _ => False) w6 w7) (fun _ _ => id)) hown2 (by omega)).mono ?_); rintro e w8 ⟨rfl, hb8⟩))
          have h68 : Below V3.heap.size V3 w8 := bel_call (bel_call hb6 hb6.size hb7) (by have := hb6.size; have := hb7.size; omega) hb8
          refine gen_world (F := fun V => SC V q c d m rest tk2 ∧ RS V r m rest ∧ Below w.heap.size w V) ⟨hS3.keepb h68, hR3.keepb h68, bel_call hbv3 hs3 h68⟩ ?_
          clear hS3 hR3 hbv3 hs3 h68 hb6 hb7 hb8 hown1 hown2 HIA HIB hidl hx3
          rintro V4 ⟨hS4, hR4, hbv4⟩
          have hs4 := hbv4.size
          obtain ⟨T, hta, htb⟩ := taken_both hS4 hR4 hI2 m2 K
          have HTA := Lib.hid hta
          have HTB := Lib.hid htb
          have HLF := Lib.hid (fun w1 hb => left_any q c d m rest tk2 w1 (hS4.keepb hb))
          have HS4 := Lib.hid hS4
          have HR4 := Lib.hid hR4
          obtain ⟨p, cap, h0, h1, hf, hrs, hrow⟩ := hR4
          clear hta htb hS4 h0 hf hrow
          try simp only [List.append]
          go_region_held3 (fun x => Below V4.heap.size V4 x ∧ x.cell? ⟨r, 1, none⟩ = some (.slice p rest.length cap))
            (first | exact keep1 (by assumption) hrs hb | exact ⟨Below.drew (Below.refl _ _), by simpa using h1⟩)
            (first
              | (go_at_call 11; (with_reducible refine (HLF.out _ (by with_reducible assumption : Below V4.heap.size V4 _ ∧ _).1).mono ?_); rintro e w1 ⟨rfl, hb⟩)
              | (go_at_call 18; (with_reducible refine (HTA.out _ (by with_reducible assumption : Below V4.heap.size V4 _ ∧ _).1).mono ?_); rintro e w1 ⟨rfl, hb⟩)
              | (go_at_call 19; (with_reducible refine (HTB.out _ (by with_reducible assumption : Below V4.heap.size V4 _ ∧ _).1).mono ?_); rintro e w1 ⟨rfl, hb⟩))
          have hfin := (‹Below V4.heap.size V4 _ ∧ _›).1
          have wk : IntKind.i64.wrap ((i : Int) + 1) = (i : Int) + 1 := wrap_in _ (by omega) (by omega)
          go_wp2
          go_roundw
          case rel => exact ⟨i + 1, rest, tk2, by go_num, by omega, by omega, HS4.out.keepb hfin, HR4.out.keepb hfin, hI2, bel_call hbv4 hs4 hfin⟩
          case measure => (simp [intOf] <;> omega)
      · have hK3 : 0 ≤ K := hK2 (by omega)
        rcases (show (m : Int) ≤ K ∨ K < m by omega) with hkm | hkm
        · have HTA := Lib.hid (give_arg q c d m K fr tk wr hS (.inr hkm))
          have HTB := Lib.hid (fun w1 (hb : Below wr.heap.size wr w1) => rgive_arg r m K fr w1 (hR.keepb hb) (.inr hkm))
          go_upto_region 17 with (first
            | (go_at_call 10; (with_reducible refine HTA.out.mono ?_); rintro e w4 ⟨rfl, hb4⟩; have s4 := hb4.size)
            | (go_at_call 15; (with_reducible refine (HTB.out _ hb4).mono ?_); rintro e w5 ⟨rfl, hb5⟩))
          refine gen_world (F := fun V => SC V q c d m fr tk ∧ RS V r m fr ∧ V.cell? (x.add i) = some (.int .i64 z) ∧ Below w.heap.size w V) ⟨(hS.keepb hb4).keepb hb5, (hR.keepb hb4).keepb hb5, (hb5.cell (p := x.add i) (by rw [add_blk]; omega)).trans ((hb4.cell (p := x.add i) (by rw [add_blk]; omega)).trans hzr), bel_call (bel_call hbv hs hb4) (by omega) hb5⟩ ?_
          clear hS hR hbv hs hzr hz hb4 hb5 HTA HTB s4
          rintro V3 ⟨hS3, hR3, hx3, hbv3⟩
          have hs3 := hbv3.size
          have hidl := ids_len tk m
          have HIA := Lib.hid (fun w1 hb => ids_any q c d m fr tk w1 (hS3.keepb hb))
          have HIB := Lib.hid (fun w1 hb => rids_any r m fr tk w1 (hR3.keepb hb) m2 (by have := hI.len; omega) hI.free)
          go_upto_region 18 with (first
            | (go_at_call 12; (with_reducible refine (HIA.out _ (Below.refl _ _)).mono ?_); rintro e w6 ⟨⟨v1, rfl, hown1⟩, hb6⟩)
            | (go_at_call 17; (with_reducible refine (HIB.out _ hb6).mono ?_); rintro e w7 ⟨⟨v2, rfl, hown2⟩, hb7⟩)
            | (go_at_call 16; (with_reducible refine (same_yes _ _ _ _ (idsOf tk m) _ (owns_keeps hown1 (Keeps.refl.below hb7 : Keeps (fun _ => False) w6 w7) (fun _ _ => id)) hown2 (by omega)).mono ?_); rintro e w8 ⟨rfl, hb8⟩))
          have h68 : Below V3.heap.size V3 w8 := bel_call (bel_call hb6 hb6.size hb7) (by have := hb6.size; have := hb7.size; omega) hb8
          refine gen_world (F := fun V => SC V q c d m fr tk ∧ RS V r m fr ∧ Below w.heap.size w V) ⟨hS3.keepb h68, hR3.keepb h68, bel_call hbv3 hs3 h68⟩ ?_
          clear hS3 hR3 hbv3 hs3 h68 hb6 hb7 hb8 hown1 hown2 HIA HIB hidl hx3
          rintro V4 ⟨hS4, hR4, hbv4⟩
          have hs4 := hbv4.size
          obtain ⟨T, hta, htb⟩ := taken_both hS4 hR4 hI m2 K
          have HTA := Lib.hid hta
          have HTB := Lib.hid htb
          have HLF := Lib.hid (fun w1 hb => left_any q c d m fr tk w1 (hS4.keepb hb))
          have HS4 := Lib.hid hS4
          have HR4 := Lib.hid hR4
          obtain ⟨p, cap, h0, h1, hf, hrs, hrow⟩ := hR4
          clear hta htb hS4 h0 hf hrow
          try simp only [List.append]
          go_region_held3 (fun x => Below V4.heap.size V4 x ∧ x.cell? ⟨r, 1, none⟩ = some (.slice p fr.length cap))
            (first | exact keep1 (by assumption) hrs hb | exact ⟨Below.drew (Below.refl _ _), by simpa using h1⟩)
            (first
              | (go_at_call 11; (with_reducible refine (HLF.out _ (by with_reducible assumption : Below V4.heap.size V4 _ ∧ _).1).mono ?_); rintro e w1 ⟨rfl, hb⟩)
              | (go_at_call 18; (with_reducible refine (HTA.out _ (by with_reducible assumption : Below V4.heap.size V4 _ ∧ _).1).mono ?_); rintro e w1 ⟨rfl, hb⟩)
              | (go_at_call 19; (with_reducible refine (HTB.out _ (by with_reducible assumption : Below V4.heap.size V4 _ ∧ _).1).mono ?_); rintro e w1 ⟨rfl, hb⟩))
          have hfin := (‹Below V4.heap.size V4 _ ∧ _›).1
          have wk : IntKind.i64.wrap ((i : Int) + 1) = (i : Int) + 1 := wrap_in _ (by omega) (by omega)
          go_wp2
          go_roundw
          case rel => exact ⟨i + 1, fr, tk, by go_num, by omega, by omega, HS4.out.keepb hfin, HR4.out.keepb hfin, hI, bel_call hbv4 hs4 hfin⟩
          case measure => (simp [intOf] <;> omega)
        · obtain ⟨k, rfl⟩ : ∃ k : Nat, K = k := ⟨K.toNat, by omega⟩
          have hk : k < m := by omega
          cases ht : tk k with
          | false =>
            have HTA := Lib.hid (give_no q c d m k fr tk wr hS hk ht)
            have HTB := Lib.hid (fun w1 (hb : Below wr.heap.size wr w1) => rgive_no r m k fr w1 (hR.keepb hb) m2 (by omega) hk (hI.2 k hk ht))
            go_upto_region 17 with (first
              | (go_at_call 10; (with_reducible refine HTA.out.mono ?_); rintro e w4 ⟨rfl, hb4⟩; have s4 := hb4.size)
              | (go_at_call 15; (with_reducible refine (HTB.out _ hb4).mono ?_); rintro e w5 ⟨rfl, hb5⟩))
            refine gen_world (F := fun V => SC V q c d m fr tk ∧ RS V r m fr ∧ V.cell? (x.add i) = some (.int .i64 z) ∧ Below w.heap.size w V) ⟨(hS.keepb hb4).keepb hb5, (hR.keepb hb4).keepb hb5, (hb5.cell (p := x.add i) (by rw [add_blk]; omega)).trans ((hb4.cell (p := x.add i) (by rw [add_blk]; omega)).trans hzr), bel_call (bel_call hbv hs hb4) (by omega) hb5⟩ ?_
            clear hS hR hbv hs hzr hz hb4 hb5 HTA HTB s4
            rintro V3 ⟨hS3, hR3, hx3, hbv3⟩
            have hs3 := hbv3.size
            have hidl := ids_len tk m
            have HIA := Lib.hid (fun w1 hb => ids_any q c d m fr tk w1 (hS3.keepb hb))
            have HIB := Lib.hid (fun w1 hb => rids_any r m fr tk w1 (hR3.keepb hb) m2 (by have := hI.len; omega) hI.free)
            go_upto_region 18 with (first
              | (go_at_call 12; (with_reducible refine (HIA.out _ (Below.refl _ _)).mono ?_); rintro e w6 ⟨⟨v1, rfl, hown1⟩, hb6⟩)
              | (go_at_call 17; (with_reducible refine (HIB.out _ hb6).mono ?_); rintro e w7 ⟨⟨v2, rfl, hown2⟩, hb7⟩)
              | (go_at_call 16; (with_reducible refine (same_yes _ _ _ _ (idsOf tk m) _ (owns_keeps hown1 (Keeps.refl.below hb7 : Keeps (fun _ => False) w6 w7) (fun _ _ => id)) hown2 (by omega)).mono ?_); rintro e w8 ⟨rfl, hb8⟩))
            have h68 : Below V3.heap.size V3 w8 := bel_call (bel_call hb6 hb6.size hb7) (by have := hb6.size; have := hb7.size; omega) hb8
            refine gen_world (F := fun V => SC V q c d m fr tk ∧ RS V r m fr ∧ Below w.heap.size w V) ⟨hS3.keepb h68, hR3.keepb h68, bel_call hbv3 hs3 h68⟩ ?_
            clear hS3 hR3 hbv3 hs3 h68 hb6 hb7 hb8 hown1 hown2 HIA HIB hidl hx3
            rintro V4 ⟨hS4, hR4, hbv4⟩
            have hs4 := hbv4.size
            obtain ⟨T, hta, htb⟩ := taken_both hS4 hR4 hI m2 k
            have HTA := Lib.hid hta
            have HTB := Lib.hid htb
            have HLF := Lib.hid (fun w1 hb => left_any q c d m fr tk w1 (hS4.keepb hb))
            have HS4 := Lib.hid hS4
            have HR4 := Lib.hid hR4
            obtain ⟨p, cap, h0, h1, hf, hrs, hrow⟩ := hR4
            clear hta htb hS4 h0 hf hrow
            try simp only [List.append]
            go_region_held3 (fun x => Below V4.heap.size V4 x ∧ x.cell? ⟨r, 1, none⟩ = some (.slice p fr.length cap))
              (first | exact keep1 (by assumption) hrs hb | exact ⟨Below.drew (Below.refl _ _), by simpa using h1⟩)
              (first
                | (go_at_call 11; (with_reducible refine (HLF.out _ (by with_reducible assumption : Below V4.heap.size V4 _ ∧ _).1).mono ?_); rintro e w1 ⟨rfl, hb⟩)
                | (go_at_call 18; (with_reducible refine (HTA.out _ (by with_reducible assumption : Below V4.heap.size V4 _ ∧ _).1).mono ?_); rintro e w1 ⟨rfl, hb⟩)
                | (go_at_call 19; (with_reducible refine (HTB.out _ (by with_reducible assumption : Below V4.heap.size V4 _ ∧ _).1).mono ?_); rintro e w1 ⟨rfl, hb⟩))
            have hfin := (‹Below V4.heap.size V4 _ ∧ _›).1
            have wk : IntKind.i64.wrap ((i : Int) + 1) = (i : Int) + 1 := wrap_in _ (by omega) (by omega)
            go_wp2
            go_roundw
            case rel => exact ⟨i + 1, fr, tk, by go_num, by omega, by omega, HS4.out.keepb hfin, HR4.out.keepb hfin, hI, bel_call hbv4 hs4 hfin⟩
            case measure => (simp [intOf] <;> omega)
          | true =>
            have hnm : k ∉ fr := fun hm2 => by have := (hI.1.2.1 k hm2).2; rw [ht] at this; cases this
            have HTA := Lib.hid (give_yes q c d m k fr tk wr hS hk ht (hI.1.room hk ht))
            have HTB := Lib.hid (fun w1 (h : RS w1 r m fr) => rgive_yes r m k fr w1 h m2 (by omega) hk hnm)
            have hI2 := hI.give hk ht
            go_upto_region 17 with (first
              | (go_at_call 10; (with_reducible refine HTA.out.mono ?_); rintro e w4 ⟨rfl, hS4, hk4⟩; have s4 := hk4.size)
              | (go_at_call 15; (with_reducible refine (HTB.out _ (hR.keep hk4 (fun b hb h => by rcases h with h | h <;> omega))).mono ?_); rintro e w5 ⟨rfl, hR5, hk5⟩))
            refine gen_world (F := fun V => SC V q c d m (fr ++ [k]) (fun j => if j = k then false else tk j) ∧ RS V r m (fr ++ [k]) ∧ V.cell? (x.add i) = some (.int .i64 z) ∧ Below w.heap.size w V) ⟨hS4.keep hk5 (by show ¬ r ≤ q; omega) (by show ¬ r ≤ c; omega) (by show ¬ r ≤ d; omega), hR5, (hk5.cell (p := x.add i) (by rw [add_blk]; omega) (by rw [add_blk]; omega)).trans ((hk4.cell (p := x.add i) (by rw [add_blk]; omega) (fun h => by simp only [add_blk] at h; rcases h with h | h <;> omega)).trans hzr), (bel_keeps hbv hs gc' gd' hk4).trans (hk5.to_below (by omega) (fun k hk h => by omega))⟩ ?_
            clear hS hR hbv hs hzr hz hS4 hk4 hR5 hk5 HTA HTB s4 hI
            generalize (fun j => if j = k then false else tk j) = tk2 at *
            generalize fr ++ [k] = fr2 at *
            rintro V3 ⟨hS3, hR3, hx3, hbv3⟩
            have hs3 := hbv3.size
            have hidl := ids_len tk2 m
            have HIA := Lib.hid (fun w1 hb => ids_any q c d m fr2 tk2 w1 (hS3.keepb hb))
            have HIB := Lib.hid (fun w1 hb => rids_any r m fr2 tk2 w1 (hR3.keepb hb) m2 (by have := hI2.len; omega) hI2.free)
            go_upto_region 18 with (first
              | (go_at_call 12; (with_reducible refine (HIA.out _ (Below.refl _ _)).mono ?_); rintro e w6 ⟨⟨v1, rfl, hown1⟩, hb6⟩)
              | (go_at_call 17; (with_reducible refine (HIB.out _ hb6).mono ?_); rintro e w7 ⟨⟨v2, rfl, hown2⟩, hb7⟩)
              | (go_at_call 16; (with_reducible refine (same_yes _ _ _ _ (idsOf tk2 m) _ (owns_keeps hown1 (Keeps.refl.below hb7 : Keeps (fun _ => False) w6 w7) (fun _ _ => id)) hown2 (by omega)).mono ?_); rintro e w8 ⟨rfl, hb8⟩))
            have h68 : Below V3.heap.size V3 w8 := bel_call (bel_call hb6 hb6.size hb7) (by have := hb6.size; have := hb7.size; omega) hb8
            refine gen_world (F := fun V => SC V q c d m fr2 tk2 ∧ RS V r m fr2 ∧ Below w.heap.size w V) ⟨hS3.keepb h68, hR3.keepb h68, bel_call hbv3 hs3 h68⟩ ?_
            clear hS3 hR3 hbv3 hs3 h68 hb6 hb7 hb8 hown1 hown2 HIA HIB hidl hx3
            rintro V4 ⟨hS4, hR4, hbv4⟩
            have hs4 := hbv4.size
            obtain ⟨T, hta, htb⟩ := taken_both hS4 hR4 hI2 m2 k
            have HTA := Lib.hid hta
            have HTB := Lib.hid htb
            have HLF := Lib.hid (fun w1 hb => left_any q c d m fr2 tk2 w1 (hS4.keepb hb))
            have HS4 := Lib.hid hS4
            have HR4 := Lib.hid hR4
            obtain ⟨p, cap, h0, h1, hf, hrs, hrow⟩ := hR4
            clear hta htb hS4 h0 hf hrow
            try simp only [List.append]
            go_region_held3 (fun x => Below V4.heap.size V4 x ∧ x.cell? ⟨r, 1, none⟩ = some (.slice p fr2.length cap))
              (first | exact keep1 (by assumption) hrs hb | exact ⟨Below.drew (Below.refl _ _), by simpa using h1⟩)
              (first
                | (go_at_call 11; (with_reducible refine (HLF.out _ (by with_reducible assumption : Below V4.heap.size V4 _ ∧ _).1).mono ?_); rintro e w1 ⟨rfl, hb⟩)
                | (go_at_call 18; (with_reducible refine (HTA.out _ (by with_reducible assumption : Below V4.heap.size V4 _ ∧ _).1).mono ?_); rintro e w1 ⟨rfl, hb⟩)
                | (go_at_call 19; (with_reducible refine (HTB.out _ (by with_reducible assumption : Below V4.heap.size V4 _ ∧ _).1).mono ?_); rintro e w1 ⟨rfl, hb⟩))
            have hfin := (‹Below V4.heap.size V4 _ ∧ _›).1
            have wk : IntKind.i64.wrap ((i : Int) + 1) = (i : Int) + 1 := wrap_in _ (by omega) (by omega)
            go_wp2
            go_roundw
            case rel => exact ⟨i + 1, fr2, tk2, by go_num, by omega, by omega, HS4.out.keepb hfin, HR4.out.keepb hfin, hI2, bel_call hbv4 hs4 hfin⟩
            case measure => (simp [intOf] <;> omega)
    · by_cases hc2 : i < len1
      · have h150 : ¬ i < 150 := by omega
        clear hlt
        go_wp2
        go_ret
        exact ⟨rfl, hbv⟩
      · clear hlt
        go_wp2
        go_ret
        exact ⟨rfl, hbv⟩
end Go.Proofs.Ytijkhfgjkgaekaa
