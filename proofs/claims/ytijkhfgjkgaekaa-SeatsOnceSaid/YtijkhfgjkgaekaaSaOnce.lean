/- The walk of the law SeatsOnce. -/
import Derived.Test.YtijkhfgjkgaekaaSp
import Derived.Test.YtijkhfgjkgaekaaFrame
namespace Go.Proofs.Ytijkhfgjkgaekaa
open Go.RowKit Go.Conc
set_option linter.unusedVariables false
set_option linter.unusedSimpArgs false

theorem only_put (w : World) (t o : Nat) (v : Value) : Only t w (w.setCell ⟨t, o, none⟩ v) := (Only.refl t w).setCell (.inl rfl) v

set_option maxRecDepth 8000 in
set_option maxHeartbeats 12800000 in
theorem walk_SeatsOnce (a0 : Int) (a1 : Option Addr) (len1 cap1 : Nat) (z1 : List Int) (w : World) (_f0 : (Lit.int .i64 a0).wf = true) (f1 : IsRow .i64 w a1 len1 cap1 z1) :
    Calls Try.prog 4 #[.int .i64 a0, .slice a1 len1 cap1] w fun e w' => e = .returned (.bool true) ∧ Below w.heap.size w w' := by
  obtain ⟨m, hm, m1, m2⟩ : ∃ m : Nat, 1 + bits .and .i64 a0 63 = (m : Int) ∧ 1 ≤ m ∧ m ≤ 64 := by
    rw [mask6s]; exact ⟨(1 + a0 % 64).toNat, by omega, by omega, by omega⟩
  have hz : ∀ i, i < len1 → ∃ x, a1 = some x ∧ x.block < w.heap.size ∧ ∃ z, w.cell? (x.add i) = some (.int .i64 z) ∧ i < cap1 := by
    intro i hi
    rcases f1 with ⟨_, rfl, _, _⟩ | ⟨x, rfl, hl, hm, hzl, hc, _, hb⟩
    · omega
    · exact ⟨x, rfl, hb (by omega), _, hc i (by omega), by omega⟩
  have HZ := Lib.hid hz
  have hnew := fun w => snew_yes m w m1 m2
  have HNEW := Lib.hid hnew
  clear hz f1 hnew
  go_enter Try.func4, Try.ntmps4
  go_upto_region 6 with (first
    | (go_at_call 7; (with_reducible refine (awake17 _).mono ?_); rintro e w1 ⟨rfl, hb1⟩; have s1 := hb1.size)
    | (go_at_call 8; (with_reducible refine (HNEW.out _).mono ?_); rintro e w2 ⟨q, c, d, rfl, hS, gq, gc, gd, hb2⟩))
  have hbv : Below w.heap.size w w2 := (by have s0_ := hb1.size; have s1_ := hb2.size; (try simp only [World.size_alloc, World.size_setCell, World.size_drew, sz_drewN] at s0_ s1_); repeat' (first | (with_reducible exact Below.refl _ _) | (with_reducible refine bel_call ?_ ?_ hb2) | (with_reducible refine bel_call ?_ ?_ hb1) | (with_reducible refine Below.alloc ?_ ?_ _) | (with_reducible refine below_drewN ?_ _) | (with_reducible refine Below.drew ?_) | (with_reducible refine Below.setCell ?_ ?_ _) | omega | (simp; omega) | (simp; done)))
  have gq' : w.heap.size ≤ q := by omega
  have gc' : w.heap.size ≤ c := by omega
  have gd' : w.heap.size ≤ d := by omega
  have hs2 := hbv.size
  clear hb1 hb2 HNEW gq gc gd s1
  have qb : q < w2.heap.size := hS.2.2.2.2.2.2.2.2.1
  have db : d < w2.heap.size := hS.2.2.2.2.2.2.2.2.2.1
  have cb : c < w2.heap.size := by obtain ⟨_, _, ⟨s, r, hc⟩, _⟩ := hS; exact chan_lt hc
  go_wp2
  have hrep : ∀ j, j < 64 → (Array.replicate 64 (Value.bool false))[j]? = some (.bool false) := fun j hj => by rw [Array.getElem?_replicate, if_pos hj]
  refine gen_world (F := fun V => SC V q c d m (List.range m) (fun _ => false) ∧ (∀ j, j < 64 → V.cell? ⟨w2.heap.size, j, none⟩ = some (.bool false)) ∧ (∀ j, V.frozen? ⟨w2.heap.size, j, none⟩ = false) ∧ w2.heap.size < V.heap.size ∧ Below w.heap.size w V) ⟨hS.keepb ((Below.refl _ _).alloc (Nat.le_refl _) _), fun j hj => by rw [World.cell?_alloc_new]; exact hrep j hj, fun j => by rw [World.frozen?_alloc_new], by simp, hbv.alloc hs2 _⟩ ?_
  clear hS hbv hrep
  generalize w2.heap.size = o at *
  rintro V ⟨hS, hout, hof, hos, hbv⟩
  go_loopw [9, 10] (fun s9 s10 wr => ∃ (i C : Nat) (free : List Nat) (taken : Nat → Bool), s9 = .int .i64 C ∧ s10 = .int .i64 i ∧ i ≤ len1 ∧ i ≤ 150 ∧ Hid (C = (idsOf taken m).length) ∧ SC wr q c d m free taken ∧ SInv m free taken ∧ Hid (∀ j, j < 64 → wr.cell? ⟨o, j, none⟩ = some (.bool (taken j))) ∧ (∀ j, wr.frozen? ⟨o, j, none⟩ = false) ∧ o < wr.heap.size ∧ Below w.heap.size w wr) (fun _ s10 _ => 150 - (intOf s10).toNat)
  case atStart => exact ⟨0, 0, _, _, rfl, rfl, by omega, by omega, (ids_none m).symm, hS, SInv.start m, hout, hof, hos, hbv⟩
  case round =>
    clear hS hout hof hos hbv
    obtain ⟨i, C, free, taken, rfl, rfl, hi1, hi2, hC, hS, hI, hout, hof, hos, hbv⟩ := hrel
    have hs := hbv.size
    by_cases hlt : i < len1 ∧ i < 150
    · obtain ⟨hl1, hl2⟩ := hlt
      obtain ⟨x, rfl, xb, z, hz, hcap⟩ := HZ.out i hl1
      have il : (i : Int) < len1 := by omega
      have il2 : (i : Int) < 150 := by omega
      obtain ⟨K, hK, hK2⟩ : ∃ K : Nat, bits .and .i64 z 127 = (K : Int) ∧ K ≤ 127 := by
        rw [mask7s]; exact ⟨(z % 128).toNat, by omega, by omega⟩
      have hzr : wr.cell? (x.add i) = some (.int .i64 z) := (hbv.cell (p := x.add i) (by rw [add_blk]; exact xb)).trans hz
      rcases free with _ | ⟨y, rest⟩
      have HTN := Lib.hid (take_none q c d m taken wr hS)
      have cm : ¬ (C : Int) < m := by have := hI.2.2; have := hC.out; simp at *; omega
      obtain ⟨fr, hfr⟩ : ∃ f : List Nat, f = [] := ⟨[], rfl⟩
      rw [← hfr] at hS hI
      clear hfr
      go_upto_region 19 with (go_at_call 9; (with_reducible refine HTN.out.mono ?_); rintro e w3 ⟨rfl, hb3⟩)
      refine gen_world (F := fun V => SC V q c d m fr taken ∧ Hid (∀ j, j < 64 → V.cell? ⟨o, j, none⟩ = some (.bool (taken j))) ∧ (∀ j, V.frozen? ⟨o, j, none⟩ = false) ∧ o < V.heap.size ∧ V.cell? (x.add i) = some (.int .i64 z) ∧ Below w.heap.size w V) ⟨hS.keepb hb3, fun j hj => (hb3.cell (p := ⟨o, j, none⟩) hos).trans (hout.out j hj), fun j => (hb3.frozen (p := ⟨o, j, none⟩) hos).trans (hof j), Nat.lt_of_lt_of_le hos hb3.size, (hb3.cell (p := x.add i) (by rw [add_blk]; omega)).trans hzr, bel_call hbv hs hb3⟩ ?_
      clear hS hout hof hos hbv hs HTN cm hb3 hzr hz
      obtain ⟨tk, rfl⟩ : ∃ t, t = taken := ⟨taken, rfl⟩
      rotate_left
      obtain ⟨hy, hty⟩ := hI.head
      have hCm : C < m := by have := hI.2.2; have := hC.out; simp at *; omega
      have HTK := Lib.hid (take_some q c d m y rest taken wr hS hy)
      have hI2 := hI.take
      have cm : (C : Int) < m := by omega
      have ym : (y : Int) < m := by omega
      have y6 : (y : Int) < 64 := by omega
      have y66 : y < 64 := by omega
      have wC : IntKind.i64.wrap ((C : Int) + 1) = (C : Int) + 1 := wrap_in _ (by omega) (by omega)
      have noc : ¬ (o = c ∨ o = d) := by omega
      have hC2 : Hid (C + 1 = (idsOf (fun j => if j = y then true else taken j) m).length) := by show _ = _; rw [ids_true taken y m hy hty, ← hC.out]
      go_upto_region 19 with (go_at_call 9; (with_reducible refine HTK.out.mono ?_); rintro e w3 ⟨rfl, hS3, hk3⟩; have o3 : w3.cell? ⟨o, y, none⟩ = some (.bool false) := ((hk3.cell (p := ⟨o, y, none⟩) hos noc).trans (hout.out y y66)).trans (by rw [hty]); have f3 : ∀ j, w3.frozen? ⟨o, j, none⟩ = false := (fun j => (hk3.frozen (p := ⟨o, j, none⟩) hos noc).trans (hof j)); have s3 := hk3.size)
      refine gen_world (F := fun V => SC V q c d m rest (fun j => if j = y then true else taken j) ∧ Hid (∀ j, j < 64 → V.cell? ⟨o, j, none⟩ = some (.bool ((fun j => if j = y then true else taken j) j))) ∧ (∀ j, V.frozen? ⟨o, j, none⟩ = false) ∧ o < V.heap.size ∧ V.cell? (x.add i) = some (.int .i64 z) ∧ Below w.heap.size w V) ⟨hS3.keepB ((Below.refl o _).setCell (Nat.le_refl _) _) (by omega) qb cb db, ?_, ?_, ?_, ?_, ?_⟩ ?_
      · intro j hj
        show _ = some (Value.bool (if j = y then true else taken j))
        by_cases e : j = y
        · subst e; simp; go_simp
        · rw [if_neg e]
          exact (cell_other w3 o y j _ e).trans ((hk3.cell (p := ⟨o, j, none⟩) hos noc).trans (hout.out j hj))
      · intro j; go_simp
      · simp; omega
      · exact (Only.cell (only_put w3 o y _) (p := x.add i) (by rw [add_blk]; omega) (by rw [add_blk]; omega)).trans ((hk3.cell (p := x.add i) (by rw [add_blk]; omega) (fun h => by simp only [add_blk] at h; rcases h with h | h <;> omega)).trans hzr)
      · exact (bel_keeps hbv hs gc' gd' hk3).setCell (by show _ ≤ o; omega) _
      clear hS hout hof hos hbv hs HTK hCm cm hzr hz hC hS3 hk3 o3 f3 s3 hI wC ym y6 y66 hy
      have hCe : (C : Int) + 1 = ((C + 1 : Nat) : Int) := by omega
      rw [hCe]
      generalize (fun j => if j = y then true else taken j) = tk at *
      generalize C + 1 = C2 at *
      clear hCe hty
      obtain ⟨C, rfl⟩ : ∃ x, x = C2 := ⟨C2, rfl⟩
      obtain ⟨fr, rfl⟩ : ∃ x, x = rest := ⟨rest, rfl⟩
      have hC := hC2
      have hI := hI2
      clear hC2 hI2
      rotate_left
      all_goals
        rintro V ⟨hS, hout, hof, hos, hzr, hbv⟩
        have hs := hbv.size
        have noc : ¬ (o = c ∨ o = d) := by omega
        have hCb : C ≤ m := by have := hC.out; have := hI.2.2; omega
        rcases (show (K < m ∧ tk K = true) ∨ (K < m ∧ tk K = false) ∨ m ≤ K by cases h : tk K <;> (simp; omega)) with ⟨hK1, ht⟩ | ⟨hK1, ht⟩ | hK1
        · have HG := Lib.hid (give_yes q c d m K fr tk V hS hK1 ht (hI.room hK1 ht))
          have hI2 := hI.give hK1 ht
          have hcp := ids_pos tk K m hK1 ht
          have hC2 : Hid (C - 1 = (idsOf (fun j => if j = K then false else tk j) m).length) := by show _ = _; have := ids_false tk K m hK1 ht; have := hC.out; omega
          have hC1 : 1 ≤ C := by have := hC.out; omega
          have kk : (K : Int) < m := by omega
          have k6 : (K : Int) < 64 := by omega
          have k66 : K < 64 := by omega
          have wC : IntKind.i64.wrap ((C : Int) - 1) = (C : Int) - 1 := wrap_in _ (by omega) (by omega)
          go_upto_region 27 with (go_at_call 10; (with_reducible refine HG.out.mono ?_); rintro e w4 ⟨rfl, hS4, hk4⟩; have o4 : w4.cell? ⟨o, K, none⟩ = some (.bool true) := ((hk4.cell (p := ⟨o, K, none⟩) hos noc).trans (hout.out K k66)).trans (by rw [ht]); have f4 : ∀ j, w4.frozen? ⟨o, j, none⟩ = false := (fun j => (hk4.frozen (p := ⟨o, j, none⟩) hos noc).trans (hof j)); have s4 := hk4.size)
          refine gen_world (F := fun V => SC V q c d m (fr ++ [K]) (fun j => if j = K then false else tk j) ∧ Hid (∀ j, j < 64 → V.cell? ⟨o, j, none⟩ = some (.bool (((fun j => if j = K then false else tk j)) j))) ∧ (∀ j, V.frozen? ⟨o, j, none⟩ = false) ∧ o < V.heap.size ∧ Below w.heap.size w V) ⟨hS4.keepB ((Below.refl o _).setCell (Nat.le_refl _) _) (by omega) qb cb db, ?_, ?_, ?_, ?_⟩ ?_
          · intro j hj
            show _ = some (Value.bool (if j = K then false else tk j))
            by_cases e : j = K
            · subst e; simp; go_simp
            · rw [if_neg e]
              exact (cell_other w4 o K j _ e).trans ((hk4.cell (p := ⟨o, j, none⟩) hos noc).trans (hout.out j hj))
          · intro j; go_simp
          · simp; omega
          · exact (bel_keeps hbv hs gc' gd' hk4).setCell (by show _ ≤ o; omega) _
          have hCe : (C : Int) - 1 = ((C - 1 : Nat) : Int) := by omega
          rw [hCe]
          clear hCe hS hout hof hos hbv hs hS4 hk4 o4 f4 s4 HG hzr hcp wC hI hC hCb hC1
          generalize (fun j => if j = K then false else tk j) = tk2 at *
          generalize C - 1 = C2 at *
          generalize fr ++ [K] = fr2 at *
          rintro V3 ⟨hS3, hout3, hof3, hos3, hbv3⟩
          have hs3 := hbv3.size
          have hlen : (fr2.length : Int) = (m : Int) - C2 := by have := hI2.2.2; have := hC2.out; omega
          have hids : (idsOf tk2 m).length = C2 := hC2.out.symm
          have hCm2 : C2 ≤ m := by have := hI2.2.2; omega
          have wmc : IntKind.i64.wrap ((m : Int) - C2) = (m : Int) - C2 := wrap_in _ (by omega) (by omega)
          have wi : IntKind.i64.wrap ((i : Int) + 1) = (i : Int) + 1 := wrap_in _ (by omega) (by omega)
          have HLF := Lib.hid (fun w1 hb => left_any q c d m fr2 tk2 w1 (hS3.keepb hb))
          have HID := Lib.hid (fun w1 hb => ids_any q c d m fr2 tk2 w1 (hS3.keepb hb))
          go_wp2_with (first
            | (go_at_call 11; (with_reducible refine (HLF.out _ (Below.refl _ _)).mono ?_); rintro e w5 ⟨rfl, hb5⟩; have s5 := hb5.size)
            | (go_at_call 12; (with_reducible refine (HID.out _ hb5).mono ?_); rintro e w6 ⟨⟨v, rfl, hown⟩, hb6⟩; obtain ⟨p, cap, rfl⟩ := own_form hown; clear hown))
          have hb56 := bel_call hb5 hb5.size hb6
          go_roundw
          case rel => exact ⟨i + 1, C2, fr2, tk2, rfl, by go_num, by omega, by omega, hC2, hS3.keepb hb56, hI2, fun j hj => (hb56.cell (p := ⟨o, j, none⟩) hos3).trans (hout3.out j hj), fun j => (hb56.frozen (p := ⟨o, j, none⟩) hos3).trans (hof3 j), Nat.lt_of_lt_of_le hos3 hb56.size, bel_call hbv3 hs3 hb56⟩
          case measure => (simp [intOf] <;> omega)
        · have HG := Lib.hid (give_no q c d m K fr tk V hS hK1 ht)
          have kk : (K : Int) < m := by omega
          have k6 : (K : Int) < 64 := by omega
          have k66 : K < 64 := by omega
          go_upto_region 27 with (go_at_call 10; (with_reducible refine HG.out.mono ?_); rintro e w4 ⟨rfl, hb4⟩; have o4 : w4.cell? ⟨o, K, none⟩ = some (.bool false) := ((hb4.cell (p := ⟨o, K, none⟩) hos).trans (hout.out K k66)).trans (by rw [ht]))
          refine gen_world (F := fun V => SC V q c d m fr tk ∧ Hid (∀ j, j < 64 → V.cell? ⟨o, j, none⟩ = some (.bool (tk j))) ∧ (∀ j, V.frozen? ⟨o, j, none⟩ = false) ∧ o < V.heap.size ∧ Below w.heap.size w V) ⟨hS.keepb hb4, fun j hj => (hb4.cell (p := ⟨o, j, none⟩) hos).trans (hout.out j hj), fun j => (hb4.frozen (p := ⟨o, j, none⟩) hos).trans (hof j), Nat.lt_of_lt_of_le hos hb4.size, bel_call hbv hs hb4⟩ ?_
          clear hS hout hof hos hbv hs hb4 o4 HG hzr hCb
          rintro V3 ⟨hS3, hout3, hof3, hos3, hbv3⟩
          have hs3 := hbv3.size
          have hlen : (fr.length : Int) = (m : Int) - C := by have := hI.2.2; have := hC.out; omega
          have hids : (idsOf tk m).length = C := hC.out.symm
          have hCm2 : C ≤ m := by have := hI.2.2; omega
          have wmc : IntKind.i64.wrap ((m : Int) - C) = (m : Int) - C := wrap_in _ (by omega) (by omega)
          have wi : IntKind.i64.wrap ((i : Int) + 1) = (i : Int) + 1 := wrap_in _ (by omega) (by omega)
          have HLF := Lib.hid (fun w1 hb => left_any q c d m fr tk w1 (hS3.keepb hb))
          have HID := Lib.hid (fun w1 hb => ids_any q c d m fr tk w1 (hS3.keepb hb))
          go_wp2_with (first
            | (go_at_call 11; (with_reducible refine (HLF.out _ (Below.refl _ _)).mono ?_); rintro e w5 ⟨rfl, hb5⟩; have s5 := hb5.size)
            | (go_at_call 12; (with_reducible refine (HID.out _ hb5).mono ?_); rintro e w6 ⟨⟨v, rfl, hown⟩, hb6⟩; obtain ⟨p, cap, rfl⟩ := own_form hown; clear hown))
          have hb56 := bel_call hb5 hb5.size hb6
          go_roundw
          case rel => exact ⟨i + 1, C, fr, tk, rfl, by go_num, by omega, by omega, hC, hS3.keepb hb56, hI, fun j hj => (hb56.cell (p := ⟨o, j, none⟩) hos3).trans (hout3.out j hj), fun j => (hb56.frozen (p := ⟨o, j, none⟩) hos3).trans (hof3 j), Nat.lt_of_lt_of_le hos3 hb56.size, bel_call hbv3 hs3 hb56⟩
          case measure => (simp [intOf] <;> omega)
        · have kk : ¬ (K : Int) < m := by omega
          go_upto_region 27 with fail
          refine gen_world (F := fun V => SC V q c d m fr tk ∧ Hid (∀ j, j < 64 → V.cell? ⟨o, j, none⟩ = some (.bool (tk j))) ∧ (∀ j, V.frozen? ⟨o, j, none⟩ = false) ∧ o < V.heap.size ∧ Below w.heap.size w V) ⟨hS, hout.out, hof, hos, hbv⟩ ?_
          clear hS hout hof hos hbv hs hzr hCb
          rintro V3 ⟨hS3, hout3, hof3, hos3, hbv3⟩
          have hs3 := hbv3.size
          have hlen : (fr.length : Int) = (m : Int) - C := by have := hI.2.2; have := hC.out; omega
          have hids : (idsOf tk m).length = C := hC.out.symm
          have hCm2 : C ≤ m := by have := hI.2.2; omega
          have wmc : IntKind.i64.wrap ((m : Int) - C) = (m : Int) - C := wrap_in _ (by omega) (by omega)
          have wi : IntKind.i64.wrap ((i : Int) + 1) = (i : Int) + 1 := wrap_in _ (by omega) (by omega)
          have HLF := Lib.hid (fun w1 hb => left_any q c d m fr tk w1 (hS3.keepb hb))
          have HID := Lib.hid (fun w1 hb => ids_any q c d m fr tk w1 (hS3.keepb hb))
          go_wp2_with (first
            | (go_at_call 11; (with_reducible refine (HLF.out _ (Below.refl _ _)).mono ?_); rintro e w5 ⟨rfl, hb5⟩; have s5 := hb5.size)
            | (go_at_call 12; (with_reducible refine (HID.out _ hb5).mono ?_); rintro e w6 ⟨⟨v, rfl, hown⟩, hb6⟩; obtain ⟨p, cap, rfl⟩ := own_form hown; clear hown))
          have hb56 := bel_call hb5 hb5.size hb6
          go_roundw
          case rel => exact ⟨i + 1, C, fr, tk, rfl, by go_num, by omega, by omega, hC, hS3.keepb hb56, hI, fun j hj => (hb56.cell (p := ⟨o, j, none⟩) hos3).trans (hout3.out j hj), fun j => (hb56.frozen (p := ⟨o, j, none⟩) hos3).trans (hof3 j), Nat.lt_of_lt_of_le hos3 hb56.size, bel_call hbv3 hs3 hb56⟩
          case measure => (simp [intOf] <;> omega)
    · by_cases hc2 : i < len1
      · have h150 : ¬ i < 150 := by omega
        clear hlt
        go_wp2
        go_ret
        exact ⟨rfl, hbv⟩
      · clear hlt
        go_wp2
        go_ret
        exact ⟨rfl, hbv⟩
end Go.Proofs.Ytijkhfgjkgaekaa
