/- Contract of the document's Assign. -/
import Derived.Test.YtnjdomfhjhlamaaPr2
namespace Go.Proofs.Ytnjdomfhjhlamaa
open Go.RowKit
set_option linter.unusedVariables false
set_option linter.unusedSimpArgs false

theorem rassign_no (v : Value) (n : Nat) (D Pn La : Nat → Int) (m : Int) (w : World) (hR : Runs w v n D Pn La) (hn : n ≤ 2000) (hchk : ¬ Chk m n D Pn La) :
    Calls Try.prog 23 #[v, .int .i64 m] w fun e w' => e = .returned (.tuple #[.slice none 0 0, .int .i64 1]) ∧ Below w.heap.size w w' := by
  have HCH := Lib.hid (rchk15_any v n D Pn La m w hR hn)
  obtain ⟨p, cap, rfl, hcap, hr⟩ := hR
  clear hr
  go_enter Try.func23, Try.ntmps23
  go_wp2_with (go_at_call 24; (with_reducible refine HCH.out.mono ?_); rintro e w4 ⟨⟨B, rfl, hB⟩, hb4⟩; have hBt : B = false := by { cases B with | false => rfl | true => exact absurd (hB.1 rfl) hchk }; subst hBt; clear hB)
  exact bodyPost_ret (v := .tuple #[.slice none 0 0, .int .i64 1]) (by simp only [results, Try.results23]; go_simp) rfl ⟨rfl, (by have s0_ := hb4.size; (try simp only [World.size_alloc, World.size_setCell, World.size_drew, sz_drewN] at s0_); repeat' (first | (with_reducible exact Below.refl _ _) | (with_reducible refine bel_call ?_ ?_ hb4) | (with_reducible refine Below.alloc ?_ ?_ _) | (with_reducible refine below_drewN ?_ _) | (with_reducible refine Below.drew ?_) | (with_reducible refine Below.setCell ?_ ?_ _) | omega | (simp; omega) | (simp; done)))⟩

set_option maxRecDepth 8000 in
set_option maxHeartbeats 12800000 in
theorem rassign_yes (v : Value) (n : Nat) (D Pn La : Nat → Int) (m : Int) (w : World) (hR : Runs w v n D Pn La) (hchk : Chk m n D Pn La) :
    Calls Try.prog 23 #[v, .int .i64 m] w fun e w' => (∃ r, e = .returned (.tuple #[r, .int .i64 0]) ∧ Ints w' r n (casg n Pn La)) ∧ Below w.heap.size w w' := by
  have hn : n ≤ 1024 := by have := hchk.2.1; have := hchk.2.2.1; omega
  have HCH := Lib.hid (rchk15_any v n D Pn La m w hR (by omega))
  obtain ⟨p, cap, rfl, hcap, hr⟩ := hR
  have HR := Lib.hid hr
  have HCK := Lib.hid hchk
  clear hr hchk
  obtain ⟨i1, hi1, hby1, hsz1, hz1⟩ := int_info
  obtain ⟨B, hB0⟩ : ∃ B, w.heap.size = B := ⟨_, rfl⟩
  go_enter Try.func23, Try.ntmps23
  go_upto_region 6 with (go_at_call 24; (with_reducible refine HCH.out.mono ?_); rintro e w4 ⟨⟨B, rfl, hB⟩, hb4⟩; have hBt : B = true := hB.2 HCK.out; subst hBt; clear hB)
  obtain ⟨w9, hw9⟩ : ∃ x, x = w4 := ⟨w4, rfl⟩
  have hbw : Below w.heap.size w w9 := by rw [hw9]; exact hb4
  rw [← hw9]
  clear hw9 hb4
  go_wp2
  go_loopw [7, 8, 9] (fun s7 s8 s9 wr => ∃ (i : Nat) (ts : List Int), s9 = .int .i64 i ∧ i ≤ n ∧ Hid (RS wr B s7 i Pn s8 ts) ∧ Hid (TK ts (cph Pn cinit i)) ∧ ts.length ≤ i ∧ Below w.heap.size w wr) (fun _ _ s9 _ => 4000 - (intOf s9).toNat)
  case atStart => exact ⟨0, [], rfl, by omega, RS.init _ _ _, fun x => by simp [cph, cinit], Nat.le_refl _, hbw⟩
  case round =>
    clear hbw
    obtain ⟨i, ts, rfl, hi, hRS, hTK, htl, hbv⟩ := hrel
    have hs := hbv.size
    obtain ⟨p7, cap7, rfl⟩ := hRS.out.r1.form
    obtain ⟨p8, cap8, rfl⟩ := hRS.out.r2.form
    by_cases hlt : i < n
    · obtain ⟨g, off, rfl, hg, hj⟩ := HR.out (by omega)
      have il : (i : Int) < n := by omega
      have wk : IntKind.i64.wrap ((i : Int) + 1) = (i : Int) + 1 := wrap_in _ (by omega) (by omega)
      have x1 := (hbv.cell (p := ⟨g, off + i * 3 + 1, none⟩) (by exact hg)).trans (hj i hlt).2.1
      have hpb := (HCK.out.2.2.2 i hlt).1.1
      clear hj
      obtain ⟨pi, hpi⟩ : ∃ x, Pn i = x := ⟨_, rfl⟩
      rw [hpi] at x1 hpb
      have HPI := Lib.hid hpi
      clear hpi
      go_upto_region 10 with (at_builtin; refine wpList_row_lies _ rfl _ _ 31 rfl B 3 i1 _ 1 8 Try.underlying31 hi1 hz1 hsz1 hby1 rfl (by decide) _ i _ rfl (hRS.out.alloc _).r1 ⟨wr.heap.size, 0, none⟩ 1 1 [.int .i64 pi] rfl rfl (fun j u hj => by
          match j, hj with
          | 0, hj => simp at hj; subst hj; simp [Addr.add]
          | j + 1, hj => simp at hj) (fun u hu => by simp at hu; subst hu; rfl) (by omega) (by unfold maxLen; omega) (by omega) (by simp; omega) ?_; intro gm om capm w5 hrow5 hgr5 hl5 _)
      have hb5 : Below w.heap.size w w5 := (hbv.alloc hs _).grown hgr5 (by simp; omega) (fun j hj => by have := (hRS.out.r1.lt j hj).1; omega)
      have hRS5 : RS w5 B (.slice (some ⟨gm, om, none⟩) (i + 1) capm) (i + 1) Pn (.slice p8 ts.length cap8) ts := (hRS.out.alloc _).out1 (by rw [HPI.out]; exact hrow5) hgr5 hl5
      have HRS5 := Lib.hid hRS5
      clear hrow5 hgr5 hl5 hRS5 hRS hbv hs
      have hs5 := hb5.size
      have x5 : w5.cell? ⟨g, off + i * 3 + 1, none⟩ = some (.int .i64 pi) := by
        obtain ⟨_, _, e1, _, hj⟩ := HR.out (by omega)
        cases e1
        rw [← HPI.out]
        exact (hb5.cell (p := ⟨g, off + i * 3 + 1, none⟩) (by exact hg)).trans (hj i hlt).2.1
      by_cases t1 : (0 : Int) ≤ pi
      · have hne : pi ≠ -1 := by omega
        obtain ⟨ra, rb⟩ := round1 n Pn (fun i hi => (HCK.out.2.2.2 i hi).2.2.2) i (by omega)
        have hTK2 : Hid (TK (ts ++ [pi]) (cph Pn cinit (i + 1))) := by
          show TK _ (ctake (cph Pn cinit i) i (Pn i))
          rw [HPI.out]
          refine hTK.out.take ⟨hne, by rw [ra]; exact if_neg (by omega), ?_⟩
          cases hq : (cph Pn cinit i).2 pi
          · rfl
          · obtain ⟨_, j, hj, e⟩ := rb pi hq
            exact absurd (by rw [e, HPI.out]) ((HCK.out.2.2.2 i hlt).2.2.2 (by rw [HPI.out]; exact hne) j hj)
        have HNE := Lib.hid hne
        clear ra rb hne
        go_wp2_with (at_builtin; refine wpList_row_lies _ rfl _ _ 31 rfl B 3 i1 _ 1 8 Try.underlying31 hi1 hz1 hsz1 hby1 rfl (by decide) _ ts.length _ rfl (HRS5.out.alloc _).r2 ⟨w5.heap.size, 0, none⟩ 1 1 [.int .i64 pi] rfl rfl (fun j u hj => by
          match j, hj with
          | 0, hj => simp at hj; subst hj; simp [Addr.add]
          | j + 1, hj => simp at hj) (fun u hu => by simp at hu; subst hu; rfl) (by omega) (by unfold maxLen; omega) (by omega) (by simp; omega) ?_; intro gn on capn w6 hrow6 hgr6 hl6 _)
        have hb6 : Below w.heap.size w w6 := (hb5.alloc hs5 _).grown hgr6 (by simp; omega) (fun j hj => by have := (HRS5.out.r2.lt j hj).1; omega)
        have hRS6 := (HRS5.out.alloc _).put2 hrow6 hgr6 hl6
        have HRS6 := Lib.hid hRS6
        clear hrow6 hgr6 hl6 hRS6 HRS5
        go_wp2
        go_roundw
        case rel => exact ⟨i + 1, ts ++ [pi], by go_num, by omega, HRS6.out, hTK2, by simp; omega, hb6⟩
        case measure => (simp [intOf] <;> omega)
      · have hTK2 : Hid (TK ts (cph Pn cinit (i + 1))) := by
          show TK _ (ctake (cph Pn cinit i) i (Pn i))
          rw [HPI.out, show pi = -1 by omega, ctake_none]
          exact hTK.out
        go_wp2
        go_roundw
        case rel => exact ⟨i + 1, ts, by go_num, by omega, HRS5.out, hTK2, by omega, hb5⟩
        case measure => (simp [intOf] <;> omega)
    · have il : ¬ (i : Int) < n := by omega
      have hin : i = n := by omega
      subst hin
      have hs1 : Hid (∀ j, j < i → (cph Pn cinit i).1 j = Pn j) := fun j hj => by rw [(round1 i Pn (fun i hi => (HCK.out.2.2.2 i hi).2.2.2) i (Nat.le_refl _)).1 j, if_pos hj]
      have hRS0 : Hid (RS wr B (.slice p7 i cap7) i (cph La (cph Pn cinit i) 0).1 (.slice p8 ts.length cap8) ts) := hRS.out.congr (fun j hj => (hs1.out j hj).symm)
      have htl0 : ts.length ≤ i + 0 := htl
      have hTK0 : Hid (TK ts (cph La (cph Pn cinit i) 0)) := hTK
      have hOK : Hid (∀ j, j ≤ i → COk m i (cph La (cph Pn cinit i) j)) := fun j hj => ((COk.init m i).round (fun j hj => (HCK.out.2.2.2 j hj).1) i (Nat.le_refl _)).round (fun j hj => (HCK.out.2.2.2 j hj).2.1) j hj
      obtain ⟨S, hS⟩ : ∃ S : Nat → CSt, ∀ j, cph La (cph Pn cinit i) j = S j := ⟨_, fun _ => rfl⟩
      have hSs : Hid (∀ j, S (j + 1) = ctake (S j) j (La j)) := fun j => by rw [← hS, ← hS]; rfl
      have hSn : Hid (S i = casg2 i Pn La) := (hS i).symm
      have hOS : Hid (∀ j, j ≤ i → COk m i (S j)) := fun j hj => by rw [← hS]; exact hOK.out j hj
      rw [hS] at hRS0 hTK0
      clear hs1 hRS hTK htl hOK hS
      obtain ⟨w9, rfl⟩ : ∃ x, x = wr := ⟨wr, rfl⟩
      go_wp2
      go_loopw [8, 10] (fun s8 s10 wr => ∃ (j : Nat) (ts : List Int), s10 = .int .i64 j ∧ j ≤ i ∧ Hid (RS wr B (.slice p7 i cap7) i (S j).1 s8 ts) ∧ Hid (TK ts (S j)) ∧ ts.length ≤ i + j ∧ Below w.heap.size w wr) (fun _ s10 _ => 4000 - (intOf s10).toNat)
      case atStart => exact ⟨0, ts, rfl, by omega, hRS0, hTK0, htl0, hbv⟩
      case round =>
        clear hRS0 hTK0 htl0 hbv hs
        obtain ⟨j, ts, rfl, hji, hRS, hTK, htl, hbv⟩ := hrel
        have hs := hbv.size
        obtain ⟨p8, cap8, rfl⟩ := hRS.out.r2.form
        by_cases hlt : j < i
        · obtain ⟨g, off, rfl, hg, hj⟩ := HR.out (by omega)
          obtain ⟨g7, o7, rfl, hb7, hg7, hc7, hcl7, hsp7⟩ := hRS.out.r1.some (by omega)
          have jl : (j : Int) < i := by omega
          have wk : IntKind.i64.wrap ((j : Int) + 1) = (j : Int) + 1 := wrap_in _ (by omega) (by omega)
          have x2 := (hbv.cell (p := ⟨g, off + j * 3 + 2, none⟩) (by exact hg)).trans (hj j hlt).2.2
          have y2 := (hcl7 j (by omega)).trans (iv_get _ hlt)
          have f2 := (hsp7 j (by omega)).2
          have hlb := (HCK.out.2.2.2 j hlt).2.1.1
          have hob : (S j).1 j = -1 ∨ 0 ≤ (S j).1 j := ((hOS.out j hji).1 j hlt).imp id (fun h => h.1)
          have hRIN := rin_any _ ts.length _ (La j) wr hRS.out.taken (by omega)
          rw [hTK.out.pinned] at hRIN
          have HRIN := Lib.hid hRIN
          clear hj hcl7 hsp7 hRIN
          obtain ⟨la, hla⟩ : ∃ x, La j = x := ⟨_, rfl⟩
          obtain ⟨oj, hoj⟩ : ∃ x, (S j).1 j = x := ⟨_, rfl⟩
          obtain ⟨tj, htj⟩ : ∃ x, (S j).2 la = x := ⟨_, rfl⟩
          rw [hla] at x2 hlb HRIN
          rw [htj] at HRIN
          rw [hoj] at y2 hob
          have HLA := Lib.hid hla
          have HOJ := Lib.hid hoj
          have HTJ := Lib.hid htj
          have hkeep : ¬ (la ≠ -1 ∧ oj = -1 ∧ tj = false) → S (j + 1) = S j := fun h => by
            rw [hSs.out, HLA.out]
            exact ctake_not (fun h' => h (by rw [HOJ.out, HTJ.out] at h'; exact h'))
          have HKEEP := Lib.hid hkeep
          clear hla hoj htj hkeep
          have hng : g7 < wr.heap.size := hg7
          go_upto_region 16 with (go_at_call 26; (with_reducible refine HRIN.out.mono ?_); rintro e w5 ⟨rfl, hb5⟩)
          have hbv5 : Below w.heap.size w w5 := (by have s0_ := hbv.size; have s1_ := hb5.size; (try simp only [World.size_alloc, World.size_setCell, World.size_drew, sz_drewN] at s0_ s1_); repeat' (first | (with_reducible exact Below.refl _ _) | (with_reducible refine bel_call ?_ ?_ hb5) | (with_reducible refine bel_call ?_ ?_ hbv) | (with_reducible refine Below.alloc ?_ ?_ _) | (with_reducible refine below_drewN ?_ _) | (with_reducible refine Below.drew ?_) | (with_reducible refine Below.setCell ?_ ?_ _) | omega | (simp; omega) | (simp; done)))
          have hs5 := hbv5.size
          have x5 : w5.cell? ⟨g, off + j * 3 + 2, none⟩ = some (.int .i64 la) := (hb5.cell (p := ⟨g, off + j * 3 + 2, none⟩) (by show g < _; omega)).trans x2
          have y5 : w5.cell? ⟨g7, o7 + j, none⟩ = some (.int .i64 oj) := (hb5.cell (p := ⟨g7, o7 + j, none⟩) (by exact hng)).trans y2
          have f5 : w5.frozen? ⟨g7, o7 + j, none⟩ = false := (hb5.frozen (p := ⟨g7, o7 + j, none⟩) (by exact hng)).trans f2
          have HRS5 := Lib.hid (hRS.out.below hb5)
          clear x2 y2 f2 hb5 hRS HRIN hbv hs
          by_cases t1 : oj < 0
          · by_cases t2 : (0 : Int) ≤ la
            · cases tj
              · have hc : la ≠ -1 ∧ oj = -1 ∧ false = false := ⟨by omega, by omega, rfl⟩
                have hTK2 : Hid (TK (ts ++ [la]) (S (j + 1))) := by
                  show TK _ _
                  rw [hSs.out, HLA.out]
                  exact hTK.out.take ⟨hc.1, by rw [HOJ.out]; exact hc.2.1, HTJ.out⟩
                have hset : RS (w5.setCell ⟨g7, o7 + j, none⟩ (.int .i64 la)) B (.slice (some ⟨g7, o7, none⟩) i cap7) i (S (j + 1)).1 (.slice p8 ts.length cap8) ts := by
                  have := HRS5.out.set hlt la
                  rw [hSs.out, HLA.out]
                  unfold ctake
                  rw [if_pos ⟨hc.1, by rw [HOJ.out]; exact hc.2.1, HTJ.out⟩]
                  exact this
                have HSET := Lib.hid hset
                have hbs : Below w.heap.size w (w5.setCell ⟨g7, o7 + j, none⟩ (.int .i64 la)) := hbv5.setCell (by show w.heap.size ≤ g7; omega) _
                clear hset hc
                go_upto_region 18 with fail
                refine gen_world (F := fun V => RS V B (.slice (some ⟨g7, o7, none⟩) i cap7) i (S (j + 1)).1 (.slice p8 ts.length cap8) ts ∧ V.cell? ⟨g7, o7 + j, none⟩ = some (.int .i64 la) ∧ Below w.heap.size w V) ⟨HSET.out, World.cell?_setCell_same _ _ _ y5, hbs⟩ ?_
                clear HSET hbs x5 y5 f5 HRS5 hbv5 hs5
                rintro V ⟨hRV, y6, hbV⟩
                have HRV := Lib.hid hRV
                clear hRV
                have hsV := hbV.size
                go_wp2_with (at_builtin; refine wpList_row_lies _ rfl _ _ 31 rfl B 3 i1 _ 1 8 Try.underlying31 hi1 hz1 hsz1 hby1 rfl (by decide) _ ts.length _ rfl (HRV.out.alloc _).r2 ⟨V.heap.size, 0, none⟩ 1 1 [.int .i64 la] rfl rfl (fun j u hj => by
                  match j, hj with
                  | 0, hj => simp at hj; subst hj; simp [Addr.add]
                  | j + 1, hj => simp at hj) (fun u hu => by simp at hu; subst hu; rfl) (by omega) (by unfold maxLen; omega) (by omega) (by simp; omega) ?_; intro gn on capn w6 hrow6 hgr6 hl6 _)
                have hb6 : Below w.heap.size w w6 := (hbV.alloc hsV _).grown hgr6 (by simp; omega) (fun j hj => by have := (HRV.out.r2.lt j hj).1; omega)
                have hRS6 := (HRV.out.alloc _).put2 hrow6 hgr6 hl6
                have HRS6 := Lib.hid hRS6
                clear hrow6 hgr6 hl6 hRS6 HRV
                go_wp2
                go_roundw
                case rel => exact ⟨j + 1, ts ++ [la], by go_num, by omega, HRS6.out, hTK2, by simp; omega, hb6⟩
                case measure => (simp [intOf] <;> omega)
              · have hK := HKEEP.out (fun h => by cases h.2.2)
                have HK := Lib.hid hK
                clear hK HKEEP
                go_wp2
                go_roundw
                case rel => exact ⟨j + 1, ts, by go_num, by omega, by rw [HK.out]; exact HRS5, by rw [HK.out]; exact hTK, by omega, hbv5⟩
                case measure => (simp [intOf] <;> omega)
            · have hK := HKEEP.out (fun h => by have := h.1; omega)
              have HK := Lib.hid hK
              clear hK HKEEP
              go_wp2
              go_roundw
              case rel => exact ⟨j + 1, ts, by go_num, by omega, by rw [HK.out]; exact HRS5, by rw [HK.out]; exact hTK, by omega, hbv5⟩
              case measure => (simp [intOf] <;> omega)
          · have hK := HKEEP.out (fun h => by have := h.2.1; omega)
            have HK := Lib.hid hK
            clear hK HKEEP
            go_wp2
            go_roundw
            case rel => exact ⟨j + 1, ts, by go_num, by omega, by rw [HK.out]; exact HRS5, by rw [HK.out]; exact hTK, by omega, hbv5⟩
            case measure => (simp [intOf] <;> omega)
        · have jl : ¬ (j : Int) < i := by omega
          have hje : j = i := by omega
          subst hje
          obtain ⟨w8, rfl⟩ : ∃ x, x = wr := ⟨wr, rfl⟩
          obtain ⟨U, hU⟩ : ∃ U : Nat → CSt × Nat, ∀ i, cph3 (S j) i = U i := ⟨_, fun _ => rfl⟩
          have hU0 : Hid (U 0 = (S j, 0)) := by show _ = _; rw [← hU]; rfl
          have hUs : Hid (∀ i, U (i + 1) = if (U i).1.1 i = -1 then (ctake (U i).1 i (cff (U i).1.2 2000 (U i).2), cff (U i).1.2 2000 (U i).2) else U i) := fun i => by rw [← hU, ← hU]; rfl
          have hjm := HCK.out.2.2.1
          have hm1 := HCK.out.2.1
          have hUo : Hid (∀ i, i ≤ j → COk m j (U i).1 ∧ (∀ c : Nat, c < (U i).2 → (U i).1.2 c = true)) := fun i hi => by rw [← hU]; exact cph3_ok (hOS.out j (Nat.le_refl _)) hjm i hi
          have hUn : Hid ((U j).1.1 = casg j Pn La) := by show _ = _; rw [← hU, hSn.out]; rfl
          have hRS0 : Hid (RS w8 B (.slice p7 j cap7) j (U 0).1.1 (.slice p8 ts.length cap8) ts) := by rw [hU0.out]; exact hRS
          have hTK0 : Hid (TK ts (U 0).1) := by rw [hU0.out]; exact hTK
          have htl0 : ts.length ≤ 2 * j + 0 := by omega
          clear hRS hTK htl hU hSn hSs hOS
          go_wp2
          go_loopw [8, 12] (fun s8 s12 wr => ∃ (i : Nat) (ts : List Int), s12 = .int .i64 i ∧ i ≤ j ∧ Hid (RS wr B (.slice p7 j cap7) j (U i).1.1 s8 ts) ∧ Hid (TK ts (U i).1) ∧ ts.length ≤ 2 * j + i ∧ Below w.heap.size w wr) (fun _ s12 _ => 4000 - (intOf s12).toNat)
          case atStart => exact ⟨0, ts, rfl, by omega, hRS0, hTK0, htl0, hbv⟩
          case round =>
            clear hRS0 hTK0 htl0 hbv hs
            obtain ⟨i, ts, rfl, hij, hRS, hTK, htl, hbv⟩ := hrel
            have hs := hbv.size
            obtain ⟨p8, cap8, rfl⟩ := hRS.out.r2.form
            by_cases hlt : i < j
            · obtain ⟨g7, o7, rfl, hb7, hg7, hc7, hcl7, hsp7⟩ := hRS.out.r1.some (by omega)
              have il : (i : Int) < j := by omega
              have wk : IntKind.i64.wrap ((i : Int) + 1) = (i : Int) + 1 := wrap_in _ (by omega) (by omega)
              have hob : (U i).1.1 i = -1 ∨ 0 ≤ (U i).1.1 i := ((hUo.out i hij).1.1 i hlt).imp id (fun h => h.1)
              clear hcl7 hsp7
              by_cases ho : (U i).1.1 i = -1
              · obtain ⟨f, hf⟩ : ∃ f, cff (U i).1.2 2000 (U i).2 = f := ⟨_, rfl⟩
                have hfb : ∀ c : Nat, c < f → (U i).1.2 c = true := by rw [← hf]; exact cff_below _ _ _ (hUo.out i hij).2
                have hfj : f < j := free_lt (hUo.out i hij).1 hlt ho hfb
                have hff : (U i).1.2 (f : Int) = false := by
                  rcases cff_stop (U i).1.2 2000 (U i).2 with h | h
                  · rw [hf] at h; exact h
                  · omega
                have hUi : U (i + 1) = (ctake (U i).1 i f, f) := by rw [hUs.out, if_pos ho, hf]
                have hc : (f : Int) ≠ -1 ∧ (U i).1.1 i = -1 ∧ (U i).1.2 (f : Int) = false := ⟨by omega, ho, hff⟩
                have HFB := Lib.hid hfb
                have HFF := Lib.hid hff
                have HUI := Lib.hid hUi
                have HC := Lib.hid hc
                clear hfb hff hUi hc hf ho hob
                go_wp2
                go_loopw [8, 13] (fun s8 s13 wr => ∃ (c : Nat) (ts : List Int), s13 = .int .i64 c ∧ Below w.heap.size w wr ∧ ts.length ≤ 2 * j + i + 1 ∧ Hid ((c ≤ f ∧ ts.length ≤ 2 * j + i ∧ RS wr B (.slice (some ⟨g7, o7, none⟩) j cap7) j (U i).1.1 s8 ts ∧ TK ts (U i).1) ∨ (c = f + 1 ∧ RS wr B (.slice (some ⟨g7, o7, none⟩) j cap7) j (U (i + 1)).1.1 s8 ts ∧ TK ts (U (i + 1)).1))) (fun _ s13 _ => 4000 - (intOf s13).toNat)
                case atStart => exact ⟨0, ts, rfl, hbv, by omega, .inl ⟨by omega, htl, hRS.out, hTK.out⟩⟩
                case round =>
                  clear hRS hTK htl hbv hs
                  obtain ⟨c, ts, rfl, hbv, htl, hcase⟩ := hrel
                  have hs := hbv.size
                  rcases hcase.out with ⟨hcf, htl2, hRS, hTK⟩ | ⟨hcf, hRS, hTK⟩
                  · obtain ⟨p8, cap8, rfl⟩ := hRS.r2.form
                    obtain ⟨_, _, e1, hb7, hg7, hc7, hcl7, hsp7⟩ := hRS.r1.some (by omega)
                    cases e1
                    have y2 := (hcl7 i (by omega)).trans (iv_get _ hlt)
                    rw [HC.out.2.1] at y2
                    have f2 := (hsp7 i (by omega)).2
                    have cm : (c : Int) < m := by omega
                    have wc : IntKind.i64.wrap ((c : Int) + 1) = (c : Int) + 1 := wrap_in _ (by omega) (by omega)
                    have hRIN := rin_any _ ts.length _ (c : Int) wr hRS.taken (by omega)
                    rw [hTK.pinned] at hRIN
                    have HRIN := Lib.hid hRIN
                    have HRS := Lib.hid hRS
                    have HTK := Lib.hid hTK
                    clear hRS hTK hcl7 hsp7 hRIN hcase
                    by_cases hcf2 : c < f
                    · rw [HFB.out c hcf2] at HRIN
                      go_upto_region 26 with (go_at_call 26; (with_reducible refine HRIN.out.mono ?_); rintro e w5 ⟨rfl, hb5⟩)
                      have hbv5 : Below w.heap.size w w5 := (by have s0_ := hbv.size; have s1_ := hb5.size; (try simp only [World.size_alloc, World.size_setCell, World.size_drew, sz_drewN] at s0_ s1_); repeat' (first | (with_reducible exact Below.refl _ _) | (with_reducible refine bel_call ?_ ?_ hb5) | (with_reducible refine bel_call ?_ ?_ hbv) | (with_reducible refine Below.alloc ?_ ?_ _) | (with_reducible refine below_drewN ?_ _) | (with_reducible refine Below.drew ?_) | (with_reducible refine Below.setCell ?_ ?_ _) | omega | (simp; omega) | (simp; done)))
                      have HRS5 := Lib.hid (HRS.out.below hb5)
                      clear HRS hb5 y2 f2 hbv hs HRIN
                      go_wp2
                      go_roundw
                      case rel => exact ⟨c + 1, ts, by go_num, hbv5, htl, .inl ⟨by omega, htl2, HRS5.out, HTK.out⟩⟩
                      case measure => (simp [intOf] <;> omega)
                    · have hcf3 : c = f := by omega
                      subst hcf3
                      rw [HFF.out] at HRIN
                      have hng : g7 < wr.heap.size := hg7
                      go_upto_region 26 with (go_at_call 26; (with_reducible refine HRIN.out.mono ?_); rintro e w5 ⟨rfl, hb5⟩)
                      have hbv5 : Below w.heap.size w w5 := (by have s0_ := hbv.size; have s1_ := hb5.size; (try simp only [World.size_alloc, World.size_setCell, World.size_drew, sz_drewN] at s0_ s1_); repeat' (first | (with_reducible exact Below.refl _ _) | (with_reducible refine bel_call ?_ ?_ hb5) | (with_reducible refine bel_call ?_ ?_ hbv) | (with_reducible refine Below.alloc ?_ ?_ _) | (with_reducible refine below_drewN ?_ _) | (with_reducible refine Below.drew ?_) | (with_reducible refine Below.setCell ?_ ?_ _) | omega | (simp; omega) | (simp; done)))
                      have y5 : w5.cell? ⟨g7, o7 + i, none⟩ = some (.int .i64 (-1)) := (hb5.cell (p := ⟨g7, o7 + i, none⟩) (by exact hng)).trans y2
                      have f5 : w5.frozen? ⟨g7, o7 + i, none⟩ = false := (hb5.frozen (p := ⟨g7, o7 + i, none⟩) (by exact hng)).trans f2
                      have HRS5 := Lib.hid (HRS.out.below hb5)
                      have hTK2 : Hid (TK (ts ++ [(c : Int)]) (U (i + 1)).1) := by
                        show TK _ _
                        rw [HUI.out]
                        exact HTK.out.take HC.out
                      have hset : RS (w5.setCell ⟨g7, o7 + i, none⟩ (.int .i64 c)) B (.slice (some ⟨g7, o7, none⟩) j cap7) j (U (i + 1)).1.1 (.slice p8 ts.length cap8) ts := by
                        have := HRS5.out.set hlt (c : Int)
                        rw [HUI.out]
                        show RS _ _ _ _ (ctake (U i).1 i c).1 _ _
                        unfold ctake
                        rw [if_pos HC.out]
                        exact this
                      have HSET := Lib.hid hset
                      have hbs : Below w.heap.size w (w5.setCell ⟨g7, o7 + i, none⟩ (.int .i64 c)) := hbv5.setCell (by show w.heap.size ≤ g7; omega) _
                      clear hset HRS hb5 y2 f2 hbv hs HRIN
                      go_upto_region 28 with fail
                      refine gen_world (F := fun V => RS V B (.slice (some ⟨g7, o7, none⟩) j cap7) j (U (i + 1)).1.1 (.slice p8 ts.length cap8) ts ∧ Below w.heap.size w V) ⟨HSET.out, hbs⟩ ?_
                      clear HSET hbs y5 f5 HRS5 hbv5
                      rintro V ⟨hRV, hbV⟩
                      have HRV := Lib.hid hRV
                      clear hRV
                      have hsV := hbV.size
                      go_wp2_with (at_builtin; refine wpList_row_lies _ rfl _ _ 31 rfl B 3 i1 _ 1 8 Try.underlying31 hi1 hz1 hsz1 hby1 rfl (by decide) _ ts.length _ rfl (HRV.out.alloc _).r2 ⟨V.heap.size, 0, none⟩ 1 1 [.int .i64 c] rfl rfl (fun j u hj => by
                        match j, hj with
                        | 0, hj => simp at hj; subst hj; simp [Addr.add]
                        | j + 1, hj => simp at hj) (fun u hu => by simp at hu; subst hu; rfl) (by omega) (by unfold maxLen; omega) (by omega) (by simp; omega) ?_; intro gn on capn w6 hrow6 hgr6 hl6 _)
                      have hb6 : Below w.heap.size w w6 := (hbV.alloc hsV _).grown hgr6 (by simp; omega) (fun j hj => by have := (HRV.out.r2.lt j hj).1; omega)
                      have hRS6 := (HRV.out.alloc _).put2 hrow6 hgr6 hl6
                      have HRS6 := Lib.hid hRS6
                      clear hrow6 hgr6 hl6 hRS6 HRV
                      go_wp2
                      go_roundw
                      case rel => exact ⟨c + 1, ts ++ [(c : Int)], by go_num, hb6, by simp; omega, .inr ⟨rfl, HRS6.out, hTK2.out⟩⟩
                      case measure => (simp [intOf] <;> omega)
                  · obtain ⟨p8, cap8, rfl⟩ := hRS.r2.form
                    obtain ⟨_, _, e1, hb7, hg7, hc7, hcl7, hsp7⟩ := hRS.r1.some (by omega)
                    cases e1
                    have y2 := (hcl7 i (by omega)).trans (iv_get _ hlt)
                    rw [HUI.out, show (ctake (U i).1 i f, f).1.1 i = f from ctake_at HC.out] at y2
                    have fn : ¬ (f : Int) < 0 := by omega
                    have HRS := Lib.hid hRS
                    have HTK := Lib.hid hTK
                    clear hRS hTK hcl7 hsp7 hcase
                    by_cases cm : (c : Int) < m
                    · go_wp2
                      go_roundw
                      case rel => exact ⟨i + 1, ts, by go_num, by omega, HRS, HTK, by omega, hbv⟩
                      case measure => (simp [intOf] <;> omega)
                    · go_wp2
                      go_roundw
                      case rel => exact ⟨i + 1, ts, by go_num, by omega, HRS, HTK, by omega, hbv⟩
                      case measure => (simp [intOf] <;> omega)
              · have hUi : U (i + 1) = U i := by rw [hUs.out, if_neg ho]
                have HUI := Lib.hid hUi
                clear hUi
                obtain ⟨oi, hoi⟩ : ∃ x, (U i).1.1 i = x := ⟨_, rfl⟩
                rw [hoi] at ho hob
                have HOI := Lib.hid hoi
                clear hoi
                go_wp2
                go_loopw [8, 13] (fun s8 s13 wr => s13 = .int .i64 0 ∧ ∃ ts : List Int, Hid (RS wr B (.slice (some ⟨g7, o7, none⟩) j cap7) j (U i).1.1 s8 ts) ∧ Hid (TK ts (U i).1) ∧ ts.length ≤ 2 * j + i ∧ Below w.heap.size w wr) (fun _ s13 _ => 4000 - (intOf s13).toNat)
                case atStart => exact ⟨rfl, ts, hRS, hTK, htl, hbv⟩
                case round =>
                  clear hRS hTK htl hbv hs
                  obtain ⟨rfl, ts, hRS, hTK, htl, hbv⟩ := hrel
                  obtain ⟨p8, cap8, rfl⟩ := hRS.out.r2.form
                  obtain ⟨_, _, e1, hb7, hg7, hc7, hcl7, hsp7⟩ := hRS.out.r1.some (by omega)
                  cases e1
                  have y2 := (hcl7 i (by omega)).trans (iv_get _ hlt)
                  rw [HOI.out] at y2
                  have on : ¬ oi < 0 := by omega
                  have m0 : (0 : Int) < m := by omega
                  clear hcl7 hsp7
                  go_wp2
                  go_roundw
                  case rel => exact ⟨i + 1, ts, by go_num, by omega, by rw [HUI.out]; exact hRS, by rw [HUI.out]; exact hTK, by omega, hbv⟩
                  case measure => (simp [intOf] <;> omega)
            · have il : ¬ (i : Int) < j := by omega
              have hie : i = j := by omega
              subst hie
              go_wp2
              refine bodyPost_ret (v := .tuple #[.slice p7 i cap7, .int .i64 0]) (by simp only [results, Try.results23]; go_simp) rfl ⟨⟨_, rfl, ?_⟩, by first | exact hbv | (rw [← hB0]; exact hbv) | (subst hB0; exact hbv)⟩
              rw [← hUn.out]
              exact hRS.out.ints
end Go.Proofs.Ytnjdomfhjhlamaa
