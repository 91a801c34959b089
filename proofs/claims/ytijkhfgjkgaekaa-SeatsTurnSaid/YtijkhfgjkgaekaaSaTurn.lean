/- The walk of the law SeatsTurn. -/
import Derived.Test.YtijkhfgjkgaekaaSp
import Derived.Test.YtijkhfgjkgaekaaFrame
namespace Go.Proofs.Ytijkhfgjkgaekaa
open Go.RowKit Go.Conc
set_option linter.unusedVariables false
set_option linter.unusedSimpArgs false

set_option maxRecDepth 8000 in
set_option maxHeartbeats 6400000 in
theorem walk_SeatsTurn (a0 : Int) (a1 : Option Addr) (len1 cap1 : Nat) (z1 : List Int) (w : World) (_f0 : (Lit.int .i64 a0).wf = true) (f1 : IsRow .i64 w a1 len1 cap1 z1) :
    Calls Try.prog 3 #[.int .i64 a0, .slice a1 len1 cap1] w fun e w' => e = .returned (.bool true) ∧ Below w.heap.size w w' := by
  obtain ⟨m, hm, m1, m2⟩ : ∃ m : Nat, 1 + bits .and .i64 a0 63 = (m : Int) ∧ 1 ≤ m ∧ m ≤ 64 := by
    rw [mask6s]; exact ⟨(1 + a0 % 64).toNat, by omega, by omega, by omega⟩
  have hmx : len1 ≤ 9223372036854775807 := by
    have : maxLen ≤ 9223372036854775807 := by decide
    rcases f1 with ⟨_, h, _⟩ | ⟨x, _, h1, h2, _⟩ <;> omega
  have hz : ∀ i, i < len1 → ∃ x, a1 = some x ∧ x.block < w.heap.size ∧ ∃ z, w.cell? (x.add i) = some (.int .i64 z) ∧ i < cap1 := by
    intro i hi
    rcases f1 with ⟨_, rfl, _, _⟩ | ⟨x, rfl, hl, hm, hzl, hc, _, hb⟩
    · omega
    · exact ⟨x, rfl, hb (by omega), _, hc i (by omega), by omega⟩
  have HZ := Lib.hid hz
  have hnew := fun w => snew_yes m w m1 m2
  have HNEW := Lib.hid hnew
  obtain ⟨i0, hi, hz0, hz1, hz2⟩ := info_parts info_int
  clear hz f1 hnew
  go_enter Try.func3, Try.ntmps3
  go_upto_region 6 with (first
    | (go_at_call 7; (with_reducible refine (awake17 _).mono ?_); rintro e w1 ⟨rfl, hb1⟩; have s1 := hb1.size)
    | (go_at_call 8; (with_reducible refine (HNEW.out _).mono ?_); rintro e w2 ⟨q, c, d, rfl, hS, gq, gc, gd, hb2⟩))
  have hbv : Below w.heap.size w w2 := (by have s0_ := hb1.size; have s1_ := hb2.size; (try simp only [World.size_alloc, World.size_setCell, World.size_drew, sz_drewN] at s0_ s1_); repeat' (first | (with_reducible exact Below.refl _ _) | (with_reducible refine bel_call ?_ ?_ hb2) | (with_reducible refine bel_call ?_ ?_ hb1) | (with_reducible refine Below.alloc ?_ ?_ _) | (with_reducible refine below_drewN ?_ _) | (with_reducible refine Below.drew ?_) | (with_reducible refine Below.setCell ?_ ?_ _) | omega | (simp; omega) | (simp; done)))
  have gq' : w.heap.size ≤ q := by omega
  have gc' : w.heap.size ≤ c := by omega
  have gd' : w.heap.size ≤ d := by omega
  clear hb1 hb2 HNEW gq gc gd s1
  go_wp2
  go_loopw [8] (fun s8 wr => ∃ (i : Nat) (taken : Nat → Bool), s8 = .int .i64 i ∧ i ≤ m ∧ SC wr q c d m ((List.range m).drop i) taken ∧ SInv m ((List.range m).drop i) taken ∧ Below w.heap.size w wr) (fun s8 _ => 64 - (intOf s8).toNat)
  case atStart => exact ⟨0, fun _ => false, rfl, by omega, hS, SInv.start m, hbv⟩
  case round =>
    clear hS hbv
    obtain ⟨i, taken, rfl, hi1, hS, hI, hbv⟩ := hrel
    have hs := hbv.size
    by_cases hlt : i < m
    · have hdrop : (List.range m).drop i = i :: (List.range m).drop (i + 1) := by
        rw [List.drop_eq_getElem_cons (by simp; omega)]; simp
      rw [hdrop] at hS hI
      have HTK := Lib.hid (take_some q c d m i _ _ wr hS hI.head.1)
      have hI2 := hI.take
      have hil : (i : Int) < m := by omega
      have wk : IntKind.i64.wrap ((i : Int) + 1) = (i : Int) + 1 := wrap_in _ (by omega) (by omega)
      clear hS hI hdrop
      go_wp2_with (go_at_call 9; (with_reducible refine HTK.out.mono ?_); rintro e w3 ⟨rfl, hS3, hk3⟩)
      go_roundw
      case rel => exact ⟨i + 1, _, by go_num, by omega, hS3, hI2, bel_keeps hbv hs gc' gd' hk3⟩
      case measure => (simp [intOf] <;> omega)
    · have hke : m = i := by omega
      subst hke
      have hnil : (List.range m).drop m = [] := by simp
      rw [hnil] at hS hI
      obtain ⟨w9, rfl⟩ : ∃ x, x = wr := ⟨wr, rfl⟩
      go_wp2
      clear hnil hlt hi1
      obtain ⟨base, hbase⟩ : ∃ b, w9.heap.size = b := ⟨_, rfl⟩
      have qb : q < base := by have := hS.2.2.2.2.2.2.2.2.1; omega
      have db : d < base := by have := hS.2.2.2.2.2.2.2.2.2.1; omega
      have cb : c < base := by obtain ⟨_, _, ⟨s, r, hc⟩, _⟩ := hS; have := chan_lt hc; omega
      go_loopw [11, 12] (fun v s12 wr => ∃ (i : Nat) (gl : List Nat) (taken : Nat → Bool), s12 = .int .i64 i ∧ i ≤ len1 ∧ SC wr q c d m gl taken ∧ SInv m gl taken ∧ wr.ownsRow base 3 1 v gl.length (gl.map seatV) ∧ base ≤ wr.heap.size ∧ Below w.heap.size w wr) (fun _ s12 _ => len1 - (intOf s12).toNat)
      case atStart => exact ⟨0, [], taken, rfl, by omega, hS, hI, World.ownsRow_nil _ _ _ _, by omega, hbv⟩
      case round =>
        clear hS hbv hI
        obtain ⟨i, gl, taken, rfl, hi1, hS, hI, hown, hbb, hbv⟩ := hrel
        have hs2 := hbv.size
        have hgl : gl.length ≤ m := by have := hI.2.2; omega
        by_cases hlt : i < len1
        · obtain ⟨x, rfl, xb, z, hz, hcap⟩ := HZ.out i hlt
          have hcell : wr.cell? (x.add i) = some (.int .i64 z) := (hbv.cell (p := x.add i) (by rw [add_blk]; exact xb)).trans hz
          have hil : (i : Int) < len1 := by omega
          have wk : IntKind.i64.wrap ((i : Int) + 1) = (i : Int) + 1 := wrap_in _ (by omega) (by omega)
          obtain ⟨r0, r1⟩ := rest_bd z m m1
          obtain ⟨R, hR⟩ : ∃ R, z.tmod m = R := ⟨_, rfl⟩
          rw [hR] at r0 r1
          have wR : IntKind.i64.wrap (R + m) = R + m := wrap_in _ (by omega) (by omega)
          obtain ⟨t0, t1⟩ := rest_bd (R + m) m m1
          obtain ⟨K, hK, hKm⟩ : ∃ K : Nat, (R + m).tmod m = K ∧ K < m := ⟨((R + m).tmod m).toNat, by have := Int.tmod_nonneg (m : Int) (show 0 ≤ R + m by omega); omega, by have := Int.tmod_nonneg (m : Int) (show 0 ≤ R + m by omega); omega⟩
          have mz : ¬ (m : Int) = 0 := by omega
          have wz : IntKind.i64.wrap R = R := wrap_in _ (by omega) (by omega)
          have wK : IntKind.i64.wrap (K : Int) = K := wrap_in _ (by omega) (by omega)
          cases ht : taken K with
          | false =>
            have HG := Lib.hid (give_no q c d m K gl taken wr hS hKm ht)
            go_wp2_with (go_at_call 10; (with_reducible refine HG.out.mono ?_); rintro e w3 ⟨rfl, hk3⟩)
            go_roundw
            case rel => exact ⟨i + 1, gl, taken, by go_num, by omega, hS.keepb hk3, hI, owns_keeps hown (Keeps.refl.below hk3 : Keeps (fun _ => False) wr w3) (fun g hg => id), by have := hk3.size; omega, bel_call hbv hs2 hk3⟩
            case measure => (simp [intOf] <;> omega)
          | true =>
            have HG := Lib.hid (give_yes q c d m K gl taken wr hS hKm ht (hI.room hKm ht))
            have hI2 := hI.give hKm ht
            have HLT := Lib.hid hown.lt
            have HOW := Lib.hid hown
            clear hS hI hown hz
            go_wp2_with (first
              | (go_at_call 10; (with_reducible refine HG.out.mono ?_); rintro e w3 ⟨rfl, hS3, hk3⟩; have hown3 := owns_keeps HOW.out hk3 (fun g hg h => by have := (HLT.out g hg).1; rcases h with h | h <;> omega); have s3 := hk3.size)
              | (at_builtin; refine wpList_append_own _ rfl _ _ 22 rfl base 3 i0 (.int .i64 0) 1 8 Try.underlying22 hi hz0 hz1 hz2 rfl (by decide) _ _ _ rfl (hown3.alloc _) ⟨w3.heap.size, 0, none⟩ 1 1 [.int .i64 K] rfl rfl ?c1 ?c2 ?c3 ?c4 ?c5 ?_))
            try case c1 =>
              intro j u hj
              match j, hj with
              | 0, hj => simp at hj; subst hj; simp [Addr.add]
            case c2 => first | rfl | (intro u hu; simp at hu; subst hu; rfl)
            case c3 => unfold maxLen; omega
            case c4 => omega
            case c5 => simp; omega
            · intro v' w5 hown' hgrow _
              have r2 : Below base w3 w5 := ((Below.refl base w3).alloc (by omega) _).grown hgrow (by simp; omega) (fun j hj => (hown3.lt j hj).1)
              have r1 : w5.ownsRow base 3 1 v' (gl ++ [K]).length ((gl ++ [K]).map seatV) := by
                have e : (gl ++ [K]).map seatV = gl.map seatV ++ [.int .i64 K] := by simp [seatV]
                rw [e, List.length_append]; exact hown'
              have hS5 := hS3.keepB r2 (by omega) qb cb db
              have hb5 : Below w.heap.size w w5 := (bel_keeps hbv hs2 gc' gd' hk3).trans (r2.mono (by omega))
              have s5 := r2.size
              clear hown' hgrow HOW HLT hown3 r2 hS3 HG
              go_wp2
              go_roundw
              case rel => exact ⟨i + 1, gl ++ [K], _, by go_num, by omega, hS5, hI2, r1, by omega, hb5⟩
              case measure => (simp [intOf] <;> omega)
        · have hke : ¬ (i : Int) < len1 := by omega
          obtain ⟨p, cap, rfl⟩ := own_form hown
          obtain ⟨w8, rfl⟩ : ∃ x, x = wr := ⟨wr, rfl⟩
          clear HZ
          go_wp2
          go_loopw [14] (fun s14 wr => ∃ (i : Nat) (taken : Nat → Bool), s14 = .int .i64 i ∧ i ≤ gl.length ∧ SC wr q c d m (gl.drop i) taken ∧ SInv m (gl.drop i) taken ∧ wr.ownsRow base 3 1 (.slice p gl.length cap) gl.length (gl.map seatV) ∧ Below w.heap.size w wr) (fun s14 _ => 64 - (intOf s14).toNat)
          case atStart => exact ⟨0, taken, rfl, by omega, by simpa using hS, by simpa using hI, hown, hbv⟩
          case round =>
            clear hS hbv hI hown hi1 hke hlt
            obtain ⟨i, taken, rfl, hi1, hS, hI, hown, hbv⟩ := hrel
            have hs := hbv.size
            by_cases hlt : i < gl.length
            · have hdrop : gl.drop i = gl[i] :: gl.drop (i + 1) := List.drop_eq_getElem_cons hlt
              obtain ⟨X, hX⟩ : ∃ X, gl[i] = X := ⟨_, rfl⟩
              rw [hdrop, hX] at hS hI
              obtain ⟨g, rfl, hcap, gb, gsz, hcells⟩ := owns_some hown (by omega)
              have hcell : wr.cell? ⟨g, i, none⟩ = some (.int .i64 X) := by rw [hcells i (by omega)]; simp [hlt, hX, seatV]
              have HTK := Lib.hid (take_some q c d m X _ _ wr hS hI.head.1)
              have hI2 := hI.take
              have HOW := Lib.hid hown
              have il : (i : Int) < gl.length := by omega
              have wk : IntKind.i64.wrap ((i : Int) + 1) = (i : Int) + 1 := wrap_in _ (by omega) (by omega)
              clear hS hI hdrop hcells hown
              go_wp2_with (go_at_call 9; (with_reducible refine HTK.out.mono ?_); rintro e w3 ⟨rfl, hS3, hk3⟩; have hc3 : w3.cell? ⟨g, i, none⟩ = some (.int .i64 X) := (hk3.cell (p := ⟨g, i, none⟩) gsz (fun h => by rcases h with h | h <;> (simp at h; omega))).trans hcell)
              go_roundw
              case rel => exact ⟨i + 1, _, by go_num, by omega, hS3, hI2, owns_keeps HOW.out hk3 (fun g' hg h => by simp [Value.ownBlock] at hg; subst hg; rcases h with h | h <;> omega), bel_keeps hbv hs gc' gd' hk3⟩
              case measure => (simp [intOf] <;> omega)
            · have hnil : gl.drop i = [] := List.drop_eq_nil_of_le (by omega)
              rw [hnil] at hS hI
              have il : ¬ (i : Int) < gl.length := by omega
              have HTN := Lib.hid (take_none q c d m taken wr hS)
              have HLF := Lib.hid (fun w1 hb => left_any q c d m [] taken w1 (hS.keepb hb))
              clear hS hI hown hnil
              go_wp2_with (first
                | (go_at_call 9; (with_reducible refine HTN.out.mono ?_); rintro e w3 ⟨rfl, hb3⟩)
                | (go_at_call 11; (with_reducible refine (HLF.out _ hb3).mono ?_); rintro e w4 ⟨rfl, hb4⟩))
              go_ret
              exact ⟨by simp, bel_call (bel_call hbv hs hb3) (by have := hb3.size; omega) hb4⟩
end Go.Proofs.Ytijkhfgjkgaekaa
