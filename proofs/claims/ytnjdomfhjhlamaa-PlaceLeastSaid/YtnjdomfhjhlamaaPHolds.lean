/- The walk of the law PlaceHolds. -/
import Derived.Test.YtnjdomfhjhlamaaPp
import Derived.Test.YtnjdomfhjhlamaaPOrder
import Derived.BigQuiet
namespace Go.Proofs.Ytnjdomfhjhlamaa
open Go.RowKit
set_option linter.unusedVariables false
set_option linter.unusedSimpArgs false

/-- Is the last core of i another's among the first j, rightly? -/
def tkn (Pn La c : Nat → Int) (i : Nat) : Nat → Bool
  | 0 => false
  | j + 1 => (tkn Pn La c i j || (Pn j == La i)) || (((decide (j < i) && decide (Pn j < 0)) && (c j == La i)) && (La j == La i))
theorem tkn_of {Pn La c : Nat → Int} {i n k : Nat} (hk : k < n) (h : Pn k = La i ∨ (k < i ∧ Pn k < 0 ∧ c k = La i ∧ La k = La i)) : tkn Pn La c i n = true := by
  induction n with
  | zero => omega
  | succ n ih =>
    simp only [tkn, Bool.or_eq_true]
    by_cases e : k = n
    · subst e
      rcases h with h | ⟨a, b, c', d⟩
      · exact .inl (.inr (by simp [h]))
      · exact .inr (by simp [a, b, c', d])
    · exact .inl (.inl (ih (by omega)))

set_option maxRecDepth 8000 in
set_option maxHeartbeats 12800000 in
theorem walk_PlaceHolds (v0 : Value) (n0 : Nat) (Z0 : Nat → Int) (a1 : Int) (w : World) (_f0 : Flat w v0 n0 2 Z0) (_f1 : (Lit.int .i64 a1).wf = true) :
    Calls Try.prog 7 #[v0, .int .i64 a1] w fun e w' => e = .returned (.bool true) ∧ Below w.heap.size w w' := by
  obtain ⟨b1, b2⟩ := rest_bd a1 20 (by omega)
  obtain ⟨N0, hN0, hN1⟩ := rest_nat a1 20 (by omega)
  obtain ⟨N, hN, n1, n2⟩ : ∃ N : Nat, (1 : Int) + N0 = N ∧ 1 ≤ N ∧ N ≤ 20 := ⟨1 + N0, by omega, by omega, by omega⟩
  have w1 : IntKind.i64.wrap (a1.tmod 20 + 20) = a1.tmod 20 + 20 := wrap_in _ (by omega) (by omega)
  have w2 : IntKind.i64.wrap (a1.tmod 20) = a1.tmod 20 := wrap_in _ (by omega) (by omega)
  have w3 : IntKind.i64.wrap (N0 : Int) = N0 := wrap_in _ (by omega) (by omega)
  have w4 : IntKind.i64.wrap ((1 : Int) + N0) = 1 + N0 := wrap_in _ (by omega) (by omega)
  obtain ⟨p, cap, rfl, hcap, hmax, hr⟩ := id _f0
  have HF := Lib.hid _f0
  clear _f0 hr
  obtain ⟨k, hk⟩ : ∃ k, min n0 N = k := ⟨_, rfl⟩
  have hkN : k ≤ N := by omega
  obtain ⟨Pn, hPn⟩ : ∃ f, mpn (fun j => Z0 (j * 2)) N = f := ⟨_, rfl⟩
  obtain ⟨La, hLa⟩ : ∃ f, mla (fun j => Z0 (j * 2 + 1)) N = f := ⟨_, rfl⟩
  have hchk : Chk N k (fun j => (j : Int)) Pn La := by rw [← hPn, ← hLa]; exact made_chk _ _ N k (by omega) (by omega) hkN
  have HCHK := Lib.hid hchk
  clear hchk
  go_enter Try.func7, Try.ntmps7
  go_upto_region 4 with (first
    | (go_at_call 8; (with_reducible refine (awake15 _).mono ?_); rintro e wa ⟨rfl, hba⟩)
    | (go_at_call 11; (with_reducible refine (made_any _ n0 N Z0 _ (flat_keep HF.out (by have s0_ := hba.size; (try simp only [World.size_alloc, World.size_setCell, World.size_drew, sz_drewN] at s0_); repeat' (first | (with_reducible exact Below.refl _ _) | (with_reducible refine bel_call ?_ ?_ hba) | (with_reducible refine Below.alloc ?_ ?_ _) | (with_reducible refine below_drewN ?_ _) | (with_reducible refine Below.drew ?_) | (with_reducible refine Below.setCell ?_ ?_ _) | omega | (simp; omega) | (simp; done)))) (by omega) (by omega)).mono ?_); rintro e wb ⟨⟨r, rfl, hrow⟩, hbb⟩))
  rw [hk, hPn, hLa] at hrow
  have sa := hba.size
  have sb := hbb.size
  obtain ⟨pr, capr, rfl⟩ := hrow.form
  have hR := runs_of_row hrow
  have hwf : ∀ j, j < k → (Lit.int .i64 ((j : Nat) : Int)).wf = true := fun j hj => wf_small j (by omega)
  have HASG := Lib.hid (fun w1 (hb : Below wb.heap.size wb w1) => assign_yes _ k _ _ _ N w1 (hR.keepb hb) hwf HCHK.out)
  have HLT := Lib.hid (fun g hg => hrow.lt g hg)
  have HRUN := Lib.hid hR
  have HWF := Lib.hid hwf
  clear hR hrow hwf
  have hbw : Below w.heap.size w wb := (by have s0_ := hba.size; have s1_ := hbb.size; (try simp only [World.size_alloc, World.size_setCell, World.size_drew, sz_drewN] at s0_ s1_); repeat' (first | (with_reducible exact Below.refl _ _) | (with_reducible refine bel_call ?_ ?_ hbb) | (with_reducible refine bel_call ?_ ?_ hba) | (with_reducible refine Below.alloc ?_ ?_ _) | (with_reducible refine below_drewN ?_ _) | (with_reducible refine Below.drew ?_) | (with_reducible refine Below.setCell ?_ ?_ _) | omega | (simp; omega) | (simp; done)))
  go_upto_region 5 with (go_at_call 12; (with_reducible refine (HASG.out _ (by repeat' (first | (with_reducible exact Below.refl _ _) | (with_reducible refine Below.alloc ?_ ?_ _) | (with_reducible refine below_drewN ?_ _) | (with_reducible refine Below.drew ?_) | (with_reducible refine Below.setCell ?_ ?_ _) | omega | (simp; omega) | (simp; done)))).mono ?_); rintro e wc ⟨⟨gc, rfl, hgc, hcl, ggc⟩, hbc⟩)
  have sc := hbc.size
  have hC := runs_ints hgc hcl
  have hRc := HRUN.out.keepb hbc
  have HHO := Lib.hid (holds_any _ _ k k _ _ _ _ N wc hRc hC HWF.out (by omega) (by omega))
  obtain ⟨_, _, hpe, hcapr, hrr⟩ := hRc
  injection hpe with hp1 hp2 hp3
  subst hp1 hp3
  have HR := Lib.hid hrr
  have HCC := Lib.hid hcl
  have hkk : ((k : Int) != (k : Int)) = false := by simp
  clear hC hrr hcl w1 w2 w3 w4
  go_upto_region 7 with (go_at_call 17; (with_reducible refine HHO.out.mono ?_); rintro e wd ⟨⟨B, rfl, hB⟩, hbd⟩; have hBt : B = true := hB.2 (casg_hld HCHK.out); subst hBt; clear hB)
  have sd := hbd.size
  have HR9 := Lib.hid (fun (h : 0 < k) => by
    obtain ⟨g, off, hp, hg, hj⟩ := HR.out h
    exact (⟨g, off, hp, fun j hj2 => ⟨(hbd.cell (p := ⟨g, off + j * 3 + 1, none⟩) (by exact hg)).trans (hj j hj2).2.1, (hbd.cell (p := ⟨g, off + j * 3 + 2, none⟩) (by exact hg)).trans (hj j hj2).2.2⟩⟩ : ∃ g off, pr = some ⟨g, off, none⟩ ∧ ∀ j, j < k → wd.cell? ⟨g, off + j * 3 + 1, none⟩ = some (.int .i64 (Pn j)) ∧ wd.cell? ⟨g, off + j * 3 + 2, none⟩ = some (.int .i64 (La j))))
  have HC9 := Lib.hid (fun j (hj : j < k) => (hbd.cell (p := ⟨gc, j, none⟩) (by exact hgc)).trans (HCC.out j hj))
  have hbw9 : Below w.heap.size w wd := (by have s0_ := hbw.size; have s1_ := hbc.size; have s2_ := hbd.size; (try simp only [World.size_alloc, World.size_setCell, World.size_drew, sz_drewN] at s0_ s1_ s2_); repeat' (first | (with_reducible exact Below.refl _ _) | (with_reducible refine bel_call ?_ ?_ hbd) | (with_reducible refine bel_call ?_ ?_ hbc) | (with_reducible refine bel_call ?_ ?_ hbw) | (with_reducible refine Below.alloc ?_ ?_ _) | (with_reducible refine below_drewN ?_ _) | (with_reducible refine Below.drew ?_) | (with_reducible refine Below.setCell ?_ ?_ _) | omega | (simp; omega) | (simp; done)))
  obtain ⟨w9, hw9⟩ : ∃ x, x = wd := ⟨wd, rfl⟩
  rw [← hw9] at HR9 HC9 hbw9 ⊢
  clear hw9 hbc hbd hbw
  go_wp2
  go_loopw [10] (fun s10 wr => ∃ i : Nat, s10 = .int .i64 i ∧ i ≤ k ∧ Hid (∃ d, wr = w9.drewN d)) (fun s10 _ => 4000 - (intOf s10).toNat)
  case atStart => exact ⟨0, rfl, by omega, ⟨0, rfl⟩⟩
  case round =>
    obtain ⟨i, rfl, hi, hw⟩ := hrel
    obtain ⟨dk, rfl⟩ := hw.out
    by_cases hlt : i < k
    · obtain ⟨g, off, rfl, hj⟩ := HR9.out (by omega)
      have il : (i : Int) < k := by omega
      have wk : IntKind.i64.wrap ((i : Int) + 1) = (i : Int) + 1 := wrap_in _ (by omega) (by omega)
      obtain ⟨x1, x2⟩ := hj i hlt
      have x3 := HC9.out i hlt
      have HJ := Lib.hid hj
      have hst := fun hp hl hc => casg_stay HCHK.out hlt hp hl hc
      have hpb := (HCHK.out.2.2.2 i hlt).1.1
      have HST := Lib.hid hst
      clear hj hw hst
      obtain ⟨pi, hpi⟩ : ∃ x, Pn i = x := ⟨_, rfl⟩
      obtain ⟨li, hli⟩ : ∃ x, La i = x := ⟨_, rfl⟩
      obtain ⟨ci, hci⟩ : ∃ x, casg k Pn La i = x := ⟨_, rfl⟩
      rw [hpi] at x1 hpb
      rw [hli] at x2
      rw [hci] at x3
      rw [hpi, hli, hci] at HST
      have HPI := Lib.hid hpi
      have HLI := Lib.hid hli
      have HCI := Lib.hid hci
      clear hpi hli hci
      by_cases t1 : (0 : Int) ≤ pi
      · go_upto_region 10 with fail
        go_quiet (fail)
        go_wp2
        exact ⟨⟨i + 1, by go_num, by omega, ⟨_, rfl⟩⟩, by simp [intOf]; omega⟩
      · have t1f : decide ((0 : Int) ≤ pi) = false := decide_eq_false t1
        by_cases t2 : li < 0
        · go_upto_region 10 with fail
          go_quiet (fail)
          go_wp2
          exact ⟨⟨i + 1, by go_num, by omega, ⟨_, rfl⟩⟩, by simp [intOf]; omega⟩
        · have t2f : decide (li < (0 : Int)) = false := decide_eq_false t2
          by_cases t3 : ci = li
          · have t3t : (ci == li) = true := by simp [t3]
            clear t3
            go_upto_region 10 with fail
            go_quiet (fail)
            go_wp2
            exact ⟨⟨i + 1, by go_num, by omega, ⟨_, rfl⟩⟩, by simp [intOf]; omega⟩
          · have t3f : (ci == li) = false := by rw [beq_eq_false_iff_ne]; exact t3
            obtain ⟨kk, hkk1, hkk2⟩ := HST.out (by omega) (by omega) t3
            have htk : tkn Pn La (casg k Pn La) i k = true := tkn_of hkk1 (by rw [HLI.out]; exact hkk2)
            have HTK := Lib.hid htk
            clear htk hkk1 hkk2
            go_upto_region 10 with fail
            go_quiet (fail)
            go_wp2
            go_loopw [11, 12] (fun s11 s12 wr => ∃ j : Nat, s11 = .bool (tkn Pn La (casg k Pn La) i j) ∧ s12 = .int .i64 j ∧ j ≤ k ∧ Hid (∃ d, wr = w9.drewN d)) (fun _ s12 _ => 4000 - (intOf s12).toNat)
            case atStart => exact ⟨0, rfl, rfl, by omega, ⟨_, rfl⟩⟩
            case round =>
              obtain ⟨j, rfl, rfl, hjk, hw⟩ := hrel
              obtain ⟨ek, rfl⟩ := hw.out
              by_cases hlt2 : j < k
              · have jl : (j : Int) < k := by omega
                have wj : IntKind.i64.wrap ((j : Int) + 1) = (j : Int) + 1 := wrap_in _ (by omega) (by omega)
                obtain ⟨y1, y2⟩ := HJ.out j hlt2
                have y3 := HC9.out j hlt2
                have hstep : Hid (tkn Pn La (casg k Pn La) i (j + 1) = ((tkn Pn La (casg k Pn La) i j || (Pn j == li)) || (((decide (j < i) && decide (Pn j < 0)) && (casg k Pn La j == li)) && (La j == li)))) := by
                  show _ = _
                  simp only [tkn, HLI.out]
                clear hw
                generalize tkn Pn La (casg k Pn La) i j = T at *
                generalize Pn j = pj at *
                generalize La j = lj at *
                generalize casg k Pn La j = cj at *
                cases T
                · cases e1 : (pj == li)
                  · by_cases h2 : j < i
                    · have h2i : (j : Int) < i := by omega
                      have h2d : decide (j < i) = true := decide_eq_true h2
                      have H2 := Lib.hid h2d
                      clear h2d
                      by_cases h3 : pj < 0
                      · have h3d : decide (pj < (0 : Int)) = true := decide_eq_true h3
                        have H3 := Lib.hid h3d
                        clear h3d
                        cases e4 : (cj == li)
                        · have HS2 := Lib.hid (hstep.out.trans (show _ = false by rw [e1, e4, H2.out, H3.out]; rfl))
                          clear hstep
                          go_upto_region 15 with fail
                          go_quiet (fail)
                          go_wp2
                          exact ⟨⟨j + 1, by rw [HS2.out], by go_num, by omega, ⟨_, rfl⟩⟩, by simp [intOf]; omega⟩
                        · cases e5 : (lj == li)
                          · have HS2 := Lib.hid (hstep.out.trans (show _ = false by rw [e1, e4, e5, H2.out, H3.out]; rfl))
                            clear hstep
                            go_upto_region 15 with fail
                            go_quiet (fail)
                            go_wp2
                            exact ⟨⟨j + 1, by rw [HS2.out], by go_num, by omega, ⟨_, rfl⟩⟩, by simp [intOf]; omega⟩
                          · have HS2 := Lib.hid (hstep.out.trans (show _ = true by rw [e1, e4, e5, H2.out, H3.out]; rfl))
                            clear hstep
                            go_upto_region 15 with fail
                            go_quiet (fail)
                            go_wp2
                            exact ⟨⟨j + 1, by rw [HS2.out], by go_num, by omega, ⟨_, rfl⟩⟩, by simp [intOf]; omega⟩
                      · have h3d : decide (pj < (0 : Int)) = false := decide_eq_false h3
                        have HS2 := Lib.hid (hstep.out.trans (show _ = false by rw [e1, h3d]; cases (decide (j < i)) <;> rfl))
                        clear hstep
                        go_upto_region 15 with fail
                        go_quiet (fail)
                        go_wp2
                        exact ⟨⟨j + 1, by rw [HS2.out], by go_num, by omega, ⟨_, rfl⟩⟩, by simp [intOf]; omega⟩
                    · have h2i : decide ((j : Int) < i) = false := decide_eq_false (by omega)
                      have h2d : decide (j < i) = false := decide_eq_false h2
                      have H2 := Lib.hid h2d
                      clear h2d
                      have HS2 := Lib.hid (hstep.out.trans (show _ = false by rw [e1, H2.out]; rfl))
                      clear hstep
                      go_upto_region 15 with fail
                      go_quiet (fail)
                      go_wp2
                      exact ⟨⟨j + 1, by rw [HS2.out], by go_num, by omega, ⟨_, rfl⟩⟩, by simp [intOf]; omega⟩
                  · have HS2 := Lib.hid (hstep.out.trans (show _ = true by rw [e1]; rfl))
                    clear hstep
                    go_upto_region 15 with fail
                    go_quiet (fail)
                    go_wp2
                    exact ⟨⟨j + 1, by rw [HS2.out], by go_num, by omega, ⟨_, rfl⟩⟩, by simp [intOf]; omega⟩
                · have HS2 := Lib.hid (hstep.out.trans (show _ = true by rfl))
                  clear hstep
                  go_upto_region 15 with fail
                  go_quiet (fail)
                  go_wp2
                  exact ⟨⟨j + 1, by rw [HS2.out], by go_num, by omega, ⟨_, rfl⟩⟩, by simp [intOf]; omega⟩
              · have jl : ¬ (j : Int) < k := by omega
                have hje : j = k := by omega
                subst hje
                rw [HTK.out]
                go_wp2
                exact ⟨⟨i + 1, by go_num, by omega, hw⟩, by simp [intOf]; omega⟩
    · have hik : i = k := by omega
      have il : ¬ (i : Int) < k := by omega
      go_wp2
      go_ret
      exact ⟨rfl, below_drewN hbw9 _⟩
end Go.Proofs.Ytnjdomfhjhlamaa
