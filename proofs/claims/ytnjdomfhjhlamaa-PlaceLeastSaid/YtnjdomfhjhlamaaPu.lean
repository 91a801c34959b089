/- Contract of the document's Holds. -/
import Derived.Test.YtnjdomfhjhlamaaPq
namespace Go.Proofs.Ytnjdomfhjhlamaa
open Go.RowKit
set_option linter.unusedVariables false
set_option linter.unusedSimpArgs false

set_option maxRecDepth 8000 in
set_option maxHeartbeats 6400000 in
theorem rholds_any (v v2 : Value) (n n2 : Nat) (D Pn La c : Nat → Int) (m : Int) (w : World) (hR : Runs w v n D Pn La) (hC : Ints w v2 n2 c) (hn : n ≤ 2000) (hn2 : n2 ≤ 2000) :
    Calls Try.prog 16 #[v, v2, .int .i64 m] w fun e w' => HldRes m n D Pn La n2 c e ∧ Below w.heap.size w w' := by
  have HCH := Lib.hid (rchk15_any v n D Pn La m w hR hn)
  obtain ⟨p, cap, rfl, hcap, hr⟩ := hR
  obtain ⟨p2, cap2, rfl, hcap2, hr2⟩ := hC
  have HR := Lib.hid hr
  have HC := Lib.hid hr2
  clear hr hr2
  go_enter Try.func16, Try.ntmps16
  by_cases hchk : Chk m n D Pn La
  · by_cases hnn : n2 = n
    · have hz1 : ((n2 : Int) != (n : Int)) = false := by simp; omega
      have hnn2 : Hid (n2 = n) := hnn
      clear hnn
      have HCK := Lib.hid hchk
      clear hchk
      go_upto_region 4 with (go_at_call 24; (with_reducible refine HCH.out.mono ?_); rintro e w4 ⟨⟨B, rfl, hB⟩, hb4⟩; have hBt : B = true := hB.2 HCK.out; subst hBt; clear hB)
      have HR9 := Lib.hid (fun (h : 0 < n) => by
        obtain ⟨g, off, hp, hg, hj⟩ := HR.out h
        exact (⟨g, off, hp, fun j hj2 => (hb4.cell (p := ⟨g, off + j * 3 + 1, none⟩) (by exact hg)).trans (hj j hj2).2.1⟩ : ∃ g off, p = some ⟨g, off, none⟩ ∧ ∀ j, j < n → w4.cell? ⟨g, off + j * 3 + 1, none⟩ = some (.int .i64 (Pn j))))
      have HC9 := Lib.hid (fun (h : 0 < n) => by
        obtain ⟨g, off, hp, hg, hj⟩ := HC.out (by have := hnn2.out; omega)
        exact (⟨g, off, hp, fun j hj2 => (hb4.cell (p := ⟨g, off + j, none⟩) (by exact hg)).trans (hj j (by have := hnn2.out; omega))⟩ : ∃ g off, p2 = some ⟨g, off, none⟩ ∧ ∀ j, j < n → w4.cell? ⟨g, off + j, none⟩ = some (.int .i64 (c j))))
      obtain ⟨w9, hw9⟩ : ∃ x, x = w4 := ⟨w4, rfl⟩
      have hbw : Below w.heap.size w w9 := by rw [hw9]; exact hb4
      rw [← hw9] at HR9 HC9 ⊢
      clear hw9 hb4
      go_wp2
      go_loopw [8] (fun s8 wr => ∃ i : Nat, s8 = .int .i64 i ∧ i ≤ n ∧ Hid (∀ k, k < i → HOne m Pn c k) ∧ Hid (∃ d, wr = w9.drewN d)) (fun s8 _ => 4000 - (intOf s8).toNat)
      case atStart => exact ⟨0, rfl, by omega, fun k hk => by omega, ⟨0, rfl⟩⟩
      case round =>
        obtain ⟨i, rfl, hi, hok, hw⟩ := hrel
        obtain ⟨dk, rfl⟩ := hw.out
        have hbel : ∀ d, Below w.heap.size w (w9.drewN d) := fun d => below_drewN hbw _
        by_cases hlt : i < n
        · obtain ⟨g, off, rfl, hj⟩ := HR9.out (by omega)
          obtain ⟨g2, off2, rfl, hj2⟩ := HC9.out (by omega)
          have il : (i : Int) < n := by omega
          have il2 : (i : Int) < n2 := by have := hnn2.out; omega
          have wk : IntKind.i64.wrap ((i : Int) + 1) = (i : Int) + 1 := wrap_in _ (by omega) (by omega)
          have x1 := hj i hlt
          have y1 := hj2 i hlt
          have HJ2 := Lib.hid hj2
          have hall : ¬ HOne m Pn c i → ¬ Hld m n D Pn La n2 c := fun h h' => h (h'.2.2 i hlt)
          have HALL := Lib.hid hall
          have hpb := (HCK.out.2.2.2 i hlt).1.1
          clear hall hj hj2 hw
          obtain ⟨ci, hci⟩ : ∃ x, c i = x := ⟨_, rfl⟩
          obtain ⟨pi, hpi⟩ : ∃ x, Pn i = x := ⟨_, rfl⟩
          rw [hci] at y1
          rw [hpi] at x1 hpb
          have HCI := Lib.hid hci
          have HPI := Lib.hid hpi
          clear hci hpi
          by_cases t1 : ci < 0
          · go_upto_region 7 with fail
            go_quiet (fail)
            go_wp2
            go_ret
            exact ⟨hld_no (HALL.out (fun h => by have := h.1; rw [HCI.out] at this; omega)), by first | exact hbel _ | exact below_drewN (hbel _) _⟩
          · have t1f : decide (ci < (0 : Int)) = false := decide_eq_false t1
            by_cases t2 : m ≤ ci
            · go_upto_region 7 with fail
              go_quiet (fail)
              go_wp2
              go_ret
              exact ⟨hld_no (HALL.out (fun h => by have := h.2.1; rw [HCI.out] at this; omega)), by first | exact hbel _ | exact below_drewN (hbel _) _⟩
            · have t2f : decide (m ≤ ci) = false := decide_eq_false t2
              have hrest : (pi < 0 ∨ ci = pi) ∨ (0 ≤ pi ∧ ci ≠ pi) := by omega
              rcases hrest with hyes | ⟨t3, t4⟩
              · have hOne : (∀ k, k < i → c k ≠ ci) → HOne m Pn c i := fun h => ⟨by rw [HCI.out]; omega, by rw [HCI.out]; omega, fun k hk => by rw [HCI.out]; exact h k hk, fun hp => by rw [HPI.out] at hp ⊢; rw [HCI.out]; omega⟩
                have HO := Lib.hid hOne
                clear hOne
                by_cases t3 : (0 : Int) ≤ pi
                · have t4 : (ci != pi) = false := by { have h5 : ci = pi := hyes.resolve_left (by omega); simp [h5] }
                  clear hyes
                  go_upto_region 7 with fail
                  go_quiet (fail)
                  go_wp2
                  go_loopw [9] (fun s9 wr => ∃ k : Nat, s9 = .int .i64 k ∧ k ≤ i ∧ Hid (∀ q, q < k → c q ≠ ci) ∧ Hid (∃ d, wr = w9.drewN d)) (fun s9 _ => 4000 - (intOf s9).toNat)
                  case atStart => exact ⟨0, rfl, by omega, fun k hk => by omega, ⟨_, rfl⟩⟩
                  case round =>
                    obtain ⟨k, rfl, hki, hq, hw⟩ := hrel
                    obtain ⟨ek, rfl⟩ := hw.out
                    by_cases hlt2 : k < i
                    · have kl : (k : Int) < i := by omega
                      have kn : (k : Int) < n2 := by omega
                      have wj : IntKind.i64.wrap ((k : Int) + 1) = (k : Int) + 1 := wrap_in _ (by omega) (by omega)
                      have z1 := HJ2.out k (by omega)
                      have hno1 : c k = ci → ¬ HOne m Pn c i := fun e h => h.2.2.1 k hlt2 (by rw [e, HCI.out])
                      have hqn : c k ≠ ci → Hid (∀ q, q < k + 1 → c q ≠ ci) := fun h q hq' => by
                        by_cases e : q = k
                        · subst e; exact h
                        · exact hq.out q (by omega)
                      have HN1 := Lib.hid hno1
                      have HQN := Lib.hid hqn
                      clear hno1 hqn hw
                      generalize c k = ck at *
                      cases e1 : (ck == ci)
                      · have n1 : ck ≠ ci := by rwa [beq_eq_false_iff_ne] at e1
                        have hq2 := HQN.out n1
                        clear n1 HQN
                        go_upto_region 12 with fail
                        go_quiet (fail)
                        go_wp2
                        exact ⟨⟨k + 1, by go_num, by omega, hq2, ⟨_, rfl⟩⟩, by simp [intOf]; omega⟩
                      · have n1 : ck = ci := by simpa using e1
                        have N1 := Lib.hid n1
                        clear n1
                        go_upto_region 12 with fail
                        go_quiet (fail)
                        go_wp2
                        go_ret
                        exact ⟨hld_no (HALL.out (HN1.out N1.out)), by first | exact hbel _ | exact below_drewN (hbel _) _⟩
                    · have kl : ¬ (k : Int) < i := by omega
                      have hke : k = i := by omega
                      have hrun : Hid (∀ q, q < i + 1 → HOne m Pn c q) := fun q hq' => by
                        by_cases e : q = i
                        · subst e; exact HO.out (fun z hz => hq.out z (by omega))
                        · exact hok.out q (by omega)
                      go_wp2
                      go_roundw
                      case rel => exact ⟨i + 1, by go_num, by omega, hrun, hw⟩
                      case measure => (simp [intOf] <;> omega)
                · have t3f : decide ((0 : Int) ≤ pi) = false := decide_eq_false t3
                  clear hyes
                  go_upto_region 7 with fail
                  go_quiet (fail)
                  go_wp2
                  go_loopw [9] (fun s9 wr => ∃ k : Nat, s9 = .int .i64 k ∧ k ≤ i ∧ Hid (∀ q, q < k → c q ≠ ci) ∧ Hid (∃ d, wr = w9.drewN d)) (fun s9 _ => 4000 - (intOf s9).toNat)
                  case atStart => exact ⟨0, rfl, by omega, fun k hk => by omega, ⟨_, rfl⟩⟩
                  case round =>
                    obtain ⟨k, rfl, hki, hq, hw⟩ := hrel
                    obtain ⟨ek, rfl⟩ := hw.out
                    by_cases hlt2 : k < i
                    · have kl : (k : Int) < i := by omega
                      have kn : (k : Int) < n2 := by omega
                      have wj : IntKind.i64.wrap ((k : Int) + 1) = (k : Int) + 1 := wrap_in _ (by omega) (by omega)
                      have z1 := HJ2.out k (by omega)
                      have hno1 : c k = ci → ¬ HOne m Pn c i := fun e h => h.2.2.1 k hlt2 (by rw [e, HCI.out])
                      have hqn : c k ≠ ci → Hid (∀ q, q < k + 1 → c q ≠ ci) := fun h q hq' => by
                        by_cases e : q = k
                        · subst e; exact h
                        · exact hq.out q (by omega)
                      have HN1 := Lib.hid hno1
                      have HQN := Lib.hid hqn
                      clear hno1 hqn hw
                      generalize c k = ck at *
                      cases e1 : (ck == ci)
                      · have n1 : ck ≠ ci := by rwa [beq_eq_false_iff_ne] at e1
                        have hq2 := HQN.out n1
                        clear n1 HQN
                        go_upto_region 12 with fail
                        go_quiet (fail)
                        go_wp2
                        exact ⟨⟨k + 1, by go_num, by omega, hq2, ⟨_, rfl⟩⟩, by simp [intOf]; omega⟩
                      · have n1 : ck = ci := by simpa using e1
                        have N1 := Lib.hid n1
                        clear n1
                        go_upto_region 12 with fail
                        go_quiet (fail)
                        go_wp2
                        go_ret
                        exact ⟨hld_no (HALL.out (HN1.out N1.out)), by first | exact hbel _ | exact below_drewN (hbel _) _⟩
                    · have kl : ¬ (k : Int) < i := by omega
                      have hke : k = i := by omega
                      have hrun : Hid (∀ q, q < i + 1 → HOne m Pn c q) := fun q hq' => by
                        by_cases e : q = i
                        · subst e; exact HO.out (fun z hz => hq.out z (by omega))
                        · exact hok.out q (by omega)
                      go_wp2
                      go_roundw
                      case rel => exact ⟨i + 1, by go_num, by omega, hrun, hw⟩
                      case measure => (simp [intOf] <;> omega)
              · have t4b : (ci != pi) = true := by rw [bne_iff_ne]; exact t4
                go_upto_region 7 with fail
                go_quiet (fail)
                go_wp2
                go_ret
                exact ⟨hld_no (HALL.out (fun h => by have := h.2.2.2 (by rw [HPI.out]; omega); rw [HPI.out, HCI.out] at this; omega)), by first | exact hbel _ | exact below_drewN (hbel _) _⟩
        · have il : ¬ (i : Int) < n := by omega
          have hin : i = n := by omega
          go_wp2
          go_ret
          subst hin
          exact ⟨hld_yes ⟨HCK.out, hnn2.out, hok.out⟩, hbel _⟩
    · have hz1 : ((n2 : Int) != (n : Int)) = true := by simp; omega
      have HNN := Lib.hid hnn
      have HCK := Lib.hid hchk
      clear hnn hchk
      go_wp2_with (go_at_call 24; (with_reducible refine HCH.out.mono ?_); rintro e w4 ⟨⟨B, rfl, hB⟩, hb4⟩; have hBt : B = true := hB.2 HCK.out; subst hBt; clear hB)
      go_ret
      exact ⟨hld_no (fun h => HNN.out h.2.1), (by have s0_ := hb4.size; (try simp only [World.size_alloc, World.size_setCell, World.size_drew, sz_drewN] at s0_); repeat' (first | (with_reducible exact Below.refl _ _) | (with_reducible refine bel_call ?_ ?_ hb4) | (with_reducible refine Below.alloc ?_ ?_ _) | (with_reducible refine below_drewN ?_ _) | (with_reducible refine Below.drew ?_) | (with_reducible refine Below.setCell ?_ ?_ _) | omega | (simp; omega) | (simp; done)))⟩
  · go_wp2_with (go_at_call 24; (with_reducible refine HCH.out.mono ?_); rintro e w4 ⟨⟨B, rfl, hB⟩, hb4⟩; have hBt : B = false := by { cases B with | false => rfl | true => exact absurd (hB.1 rfl) hchk }; subst hBt; clear hB)
    go_ret
    exact ⟨hld_no (fun h => hchk h.1), (by have s0_ := hb4.size; (try simp only [World.size_alloc, World.size_setCell, World.size_drew, sz_drewN] at s0_); repeat' (first | (with_reducible exact Below.refl _ _) | (with_reducible refine bel_call ?_ ?_ hb4) | (with_reducible refine Below.alloc ?_ ?_ _) | (with_reducible refine below_drewN ?_ _) | (with_reducible refine Below.drew ?_) | (with_reducible refine Below.setCell ?_ ?_ _) | omega | (simp; omega) | (simp; done)))⟩
end Go.Proofs.Ytnjdomfhjhlamaa
