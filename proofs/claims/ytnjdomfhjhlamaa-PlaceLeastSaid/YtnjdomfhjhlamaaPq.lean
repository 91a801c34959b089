/- Contracts of the document's in, Moves, Check. -/
import Derived.Test.YtnjdomfhjhlamaaPh
import Derived.BigQuiet
namespace Go.Proofs.Ytnjdomfhjhlamaa
open Go.RowKit
set_option linter.unusedVariables false
set_option linter.unusedSimpArgs false

set_option maxRecDepth 8000 in
set_option maxHeartbeats 3200000 in
theorem rin_any (v : Value) (n : Nat) (c : Nat → Int) (x : Int) (w : World) (hC : Ints w v n c) (hn : n ≤ 4000) :
    Calls Try.prog 26 #[v, .int .i64 x] w fun e w' => e = .returned (.bool (pinned c n x)) ∧ Below w.heap.size w w' := by
  obtain ⟨p, cap, rfl, hcap, hr⟩ := hC
  have HC := Lib.hid hr
  clear hr
  go_enter Try.func26, Try.ntmps26
  go_wp2
  go_loopw [5] (fun s5 wr => ∃ i : Nat, s5 = .int .i64 i ∧ i ≤ n ∧ Hid (pinned c i x = false) ∧ wr = w) (fun s5 _ => 8000 - (intOf s5).toNat)
  case atStart => exact ⟨0, rfl, by omega, rfl, rfl⟩
  case round =>
    obtain ⟨i, rfl, hi, hp, rfl⟩ := hrel
    by_cases hlt : i < n
    · obtain ⟨g, off, rfl, hg, hj⟩ := HC.out (by omega)
      have x1 := hj i hlt
      have il : (i : Int) < n := by omega
      have wk : IntKind.i64.wrap ((i : Int) + 1) = (i : Int) + 1 := wrap_in _ (by omega) (by omega)
      have hsn : Hid (pinned c (i + 1) x = (pinned c i x || (c i == x))) := rfl
      have hyes : c i = x → Hid (pinned c n x = true) := fun h => (pinned_iff _ _ _).2 ⟨i, hlt, h⟩
      generalize c i = ci at *
      clear hj
      by_cases e : ci = x
      · have e1 : (ci == x) = true := by simp [e]
        have HY := hyes e
        clear e
        go_wp2
        go_ret
        exact ⟨by rw [HY.out]; rfl, (by repeat' (first | (with_reducible exact Below.refl _ _) | (with_reducible refine Below.alloc ?_ ?_ _) | (with_reducible refine below_drewN ?_ _) | (with_reducible refine Below.drew ?_) | (with_reducible refine Below.setCell ?_ ?_ _) | omega | (simp; omega) | (simp; done)))⟩
      · have e1 : (ci == x) = false := by rw [beq_eq_false_iff_ne]; exact e
        have hs2 : Hid (pinned c (i + 1) x = false) := by show _ = _; rw [hsn.out, hp.out, e1]; rfl
        go_wp2
        go_roundw
        case rel => exact ⟨i + 1, by go_num, by omega, hs2, by first | trivial | rfl⟩
        case measure => (simp [intOf] <;> omega)
    · have il : ¬ (i : Int) < n := by omega
      have hin : i = n := by omega
      go_wp2
      go_ret
      subst hin
      exact ⟨by rw [hp.out]; rfl, (by repeat' (first | (with_reducible exact Below.refl _ _) | (with_reducible refine Below.alloc ?_ ?_ _) | (with_reducible refine below_drewN ?_ _) | (with_reducible refine Below.drew ?_) | (with_reducible refine Below.setCell ?_ ?_ _) | omega | (simp; omega) | (simp; done)))⟩

set_option maxRecDepth 8000 in
set_option maxHeartbeats 3200000 in
theorem rmoves_any (v v2 : Value) (n n2 : Nat) (D Pn La c : Nat → Int) (w : World) (hR : Runs w v n D Pn La) (hC : Ints w v2 n2 c) (hn : n ≤ 2000) (hn2 : n2 ≤ 2000) :
    Calls Try.prog 25 #[v, v2] w fun e w' => e = .returned (.int .i64 (cmov La c (min n n2) : Nat)) ∧ Below w.heap.size w w' := by
  obtain ⟨p, cap, rfl, hcap, hr⟩ := hR
  obtain ⟨p2, cap2, rfl, hcap2, hr2⟩ := hC
  have HR := Lib.hid hr
  have HC := Lib.hid hr2
  clear hr hr2
  obtain ⟨k, hk⟩ : ∃ k, min n n2 = k := ⟨_, rfl⟩
  have HK := Lib.hid hk
  have hkn : k ≤ n ∧ k ≤ n2 := by omega
  rw [hk]
  clear hk
  go_enter Try.func25, Try.ntmps25
  go_wp2
  go_loopw [5, 6] (fun s5 s6 wr => ∃ i : Nat, s5 = .int .i64 (cmov La c i : Nat) ∧ s6 = .int .i64 i ∧ i ≤ k ∧ Hid (∃ d, wr = w.drewN d)) (fun _ s6 _ => 4000 - (intOf s6).toNat)
  case atStart => exact ⟨0, rfl, rfl, by omega, ⟨0, rfl⟩⟩
  case round =>
    obtain ⟨i, rfl, rfl, hi, hw⟩ := hrel
    obtain ⟨dk, rfl⟩ := hw.out
    have hml := cmov_le La c i
    have hsucc : Hid (cmov La c (i + 1) = cmov La c i + if La i ≠ -1 ∧ La i ≠ c i then 1 else 0) := rfl
    generalize hM : cmov La c i = M at *
    have HM := Lib.hid hM
    clear hM
    by_cases hlt : i < k
    · obtain ⟨g, off, rfl, hg, hj⟩ := HR.out (by omega)
      obtain ⟨g2, off2, rfl, hg2, hj2⟩ := HC.out (by omega)
      have c2 : w.cell? ⟨g, off + i * 3 + 2, none⟩ = some (.int .i64 (La i)) := (hj i (by omega)).2.2
      have d2 : w.cell? ⟨g2, off2 + i, none⟩ = some (.int .i64 (c i)) := hj2 i (by omega)
      have i1 : (i : Int) < n := by omega
      have i2 : (i : Int) < n2 := by omega
      have wk : IntKind.i64.wrap ((i : Int) + 1) = (i : Int) + 1 := wrap_in _ (by omega) (by omega)
      have wm : IntKind.i64.wrap ((M : Int) + 1) = (M : Int) + 1 := wrap_in _ (by omega) (by omega)
      clear hj hj2 hw
      generalize La i = la at *
      generalize c i = ci at *
      cases h1 : (la != -1)
      · have hs2 := Lib.hid (hsucc.out.trans (show _ = M by rw [if_neg (fun h => h.1 (by simpa using h1))]; rfl))
        clear hsucc
        go_upto_region 5 with fail
        go_quiet (fail)
        go_wp2
        exact ⟨⟨i + 1, by rw [hs2.out], by go_num, by omega, ⟨_, rfl⟩⟩, by simp [intOf]; omega⟩
      · cases h2 : (la != ci)
        · have hs2 := Lib.hid (hsucc.out.trans (show _ = M by rw [if_neg (fun h => h.2 (by simpa using h2))]; rfl))
          clear hsucc
          go_upto_region 5 with fail
          go_quiet (fail)
          go_wp2
          exact ⟨⟨i + 1, by rw [hs2.out], by go_num, by omega, ⟨_, rfl⟩⟩, by simp [intOf]; omega⟩
        · have hs2 := Lib.hid (hsucc.out.trans (show _ = M + 1 by rw [if_pos ⟨by simpa using h1, by simpa using h2⟩]))
          clear hsucc
          go_upto_region 5 with fail
          go_quiet (fail)
          go_wp2
          exact ⟨⟨i + 1, by rw [hs2.out]; rfl, by go_num, by omega, ⟨_, rfl⟩⟩, by simp [intOf]; omega⟩
    · have hik : i = k := by omega
      by_cases hn1 : i < n
      · have i1 : (i : Int) < n := by omega
        have i2 : ¬ (i : Int) < n2 := by have := HK.out; omega
        go_wp2
        go_ret
        subst hik
        exact ⟨by rw [HM.out]; rfl, below_drewN (Below.refl _ _) _⟩
      · have i1 : ¬ (i : Int) < n := by omega
        go_wp2
        go_ret
        subst hik
        exact ⟨by rw [HM.out]; rfl, below_drewN (Below.refl _ _) _⟩

set_option maxRecDepth 8000 in
set_option maxHeartbeats 6400000 in
theorem rchk15_any (v : Value) (n : Nat) (D Pn La : Nat → Int) (m : Int) (w : World) (hR : Runs w v n D Pn La) (hn : n ≤ 2000) :
    Calls Try.prog 24 #[v, .int .i64 m] w fun e w' => ChkRes m n D Pn La e ∧ Below w.heap.size w w' := by
  obtain ⟨p, cap, rfl, hcap, hr⟩ := hR
  have HR := Lib.hid hr
  clear hr
  go_enter Try.func24, Try.ntmps24
  by_cases h0 : m < 1
  · go_wp2
    go_ret
    exact ⟨chk_no (fun h => by have := h.1; omega), (by repeat' (first | (with_reducible exact Below.refl _ _) | (with_reducible refine Below.alloc ?_ ?_ _) | (with_reducible refine below_drewN ?_ _) | (with_reducible refine Below.drew ?_) | (with_reducible refine Below.setCell ?_ ?_ _) | omega | (simp; omega) | (simp; done)))⟩
  · by_cases h1 : 1024 < m
    · go_wp2
      go_ret
      exact ⟨chk_no (fun h => by have := h.2.1; omega), (by repeat' (first | (with_reducible exact Below.refl _ _) | (with_reducible refine Below.alloc ?_ ?_ _) | (with_reducible refine below_drewN ?_ _) | (with_reducible refine Below.drew ?_) | (with_reducible refine Below.setCell ?_ ?_ _) | omega | (simp; omega) | (simp; done)))⟩
    · by_cases h2 : m < (n : Int)
      · go_wp2
        go_ret
        exact ⟨chk_no (fun h => by have := h.2.2.1; omega), (by repeat' (first | (with_reducible exact Below.refl _ _) | (with_reducible refine Below.alloc ?_ ?_ _) | (with_reducible refine below_drewN ?_ _) | (with_reducible refine Below.drew ?_) | (with_reducible refine Below.setCell ?_ ?_ _) | omega | (simp; omega) | (simp; done)))⟩
      · go_wp2
        go_loopw [5] (fun s5 wr => ∃ i : Nat, s5 = .int .i64 i ∧ i ≤ n ∧ Hid (∀ k, k < i → RunOK m D Pn La k) ∧ Hid (∃ d, wr = w.drewN d)) (fun s5 _ => 4000 - (intOf s5).toNat)
        case atStart => exact ⟨0, rfl, by omega, fun k hk => by omega, ⟨0, rfl⟩⟩
        case round =>
          obtain ⟨i, rfl, hi, hok, hw⟩ := hrel
          obtain ⟨dk, rfl⟩ := hw.out
          by_cases hlt : i < n
          · obtain ⟨g, off, rfl, hg, hj⟩ := HR.out (by omega)
            have il : (i : Int) < n := by omega
            have wk : IntKind.i64.wrap ((i : Int) + 1) = (i : Int) + 1 := wrap_in _ (by omega) (by omega)
            obtain ⟨x0, x1, x2⟩ := hj i hlt
            have HJ := Lib.hid hj
            have hall : ¬ RunOK m D Pn La i → ¬ Chk m n D Pn La := fun h h' => h (h'.2.2.2 i hlt)
            have HALL := Lib.hid hall
            have hbel : ∀ d, Below w.heap.size w (w.drewN d) := fun d => below_drewN (Below.refl _ _) _
            clear hall hj hw
            obtain ⟨di, hdi⟩ : ∃ x, D i = x := ⟨_, rfl⟩
            obtain ⟨pi, hpi⟩ : ∃ x, Pn i = x := ⟨_, rfl⟩
            obtain ⟨li, hli⟩ : ∃ x, La i = x := ⟨_, rfl⟩
            rw [hdi] at x0
            rw [hpi] at x1
            rw [hli] at x2
            have HDI := Lib.hid hdi
            have HPI := Lib.hid hpi
            have HLI := Lib.hid hli
            clear hdi hpi hli
            by_cases t1 : pi < -1
            · go_wp2
              go_ret
              exact ⟨chk_no (HALL.out (fun h => by have := h.1.1; rw [HPI.out] at this; omega)), hbel _⟩
            · by_cases t2 : m ≤ pi
              · go_wp2
                go_ret
                exact ⟨chk_no (HALL.out (fun h => by have := h.1.2; rw [HPI.out] at this; omega)), hbel _⟩
              · by_cases t3 : li < -1
                · go_wp2
                  go_ret
                  exact ⟨chk_no (HALL.out (fun h => by have := h.2.1.1; rw [HLI.out] at this; omega)), hbel _⟩
                · by_cases t4 : m ≤ li
                  · go_wp2
                    go_ret
                    exact ⟨chk_no (HALL.out (fun h => by have := h.2.1.2; rw [HLI.out] at this; omega)), hbel _⟩
                  · go_wp2
                    obtain ⟨w9, hw9⟩ : ∃ x, x = w.drewN dk := ⟨_, rfl⟩
                    go_loopw [6] (fun s6 wr => ∃ k : Nat, s6 = .int .i64 k ∧ k ≤ i ∧ Hid (∀ q, q < k → D q ≠ di ∧ (pi ≠ -1 → Pn q ≠ pi)) ∧ Hid (∃ d, wr = w.drewN d)) (fun s6 _ => 4000 - (intOf s6).toNat)
                    case atStart => exact ⟨0, rfl, by omega, fun k hk => by omega, ⟨_, rfl⟩⟩
                    case round =>
                      obtain ⟨k, rfl, hki, hq, hw⟩ := hrel
                      obtain ⟨ek, rfl⟩ := hw.out
                      by_cases hlt2 : k < i
                      · have kl : (k : Int) < i := by omega
                        have kn : (k : Int) < n := by omega
                        have wj : IntKind.i64.wrap ((k : Int) + 1) = (k : Int) + 1 := wrap_in _ (by omega) (by omega)
                        obtain ⟨y0, y1, y2⟩ := HJ.out k (by omega)
                        clear y2 hw
                        have hno1 : D k = di → ¬ RunOK m D Pn La i := fun e h => h.2.2.1 k hlt2 (by rw [e, HDI.out])
                        have hno2 : Pn k = pi → pi ≠ -1 → ¬ RunOK m D Pn La i := fun e hn h => h.2.2.2 (by rw [HPI.out]; exact hn) k hlt2 (by rw [e, HPI.out])
                        have hqn : D k ≠ di ∧ (pi ≠ -1 → Pn k ≠ pi) → Hid (∀ q, q < k + 1 → D q ≠ di ∧ (pi ≠ -1 → Pn q ≠ pi)) := fun h q hq' => by
                          by_cases e : q = k
                          · subst e; exact h
                          · exact hq.out q (by omega)
                        have HN1 := Lib.hid hno1
                        have HN2 := Lib.hid hno2
                        have HQN := Lib.hid hqn
                        clear hno1 hno2 hqn
                        generalize D k = dk2 at *
                        generalize Pn k = pk at *
                        cases e1 : (dk2 == di)
                        · have n1 : dk2 ≠ di := by rwa [beq_eq_false_iff_ne] at e1
                          have N1 := Lib.hid n1
                          clear n1
                          cases e2 : (pk == pi)
                          · have n2 : pk ≠ pi := by rwa [beq_eq_false_iff_ne] at e2
                            have hq2 := HQN.out ⟨N1.out, fun _ => n2⟩
                            clear n2 HQN
                            go_upto_region 11 with fail
                            go_quiet (fail)
                            go_wp2
                            exact ⟨⟨k + 1, by go_num, by omega, hq2, ⟨_, rfl⟩⟩, by simp [intOf]; omega⟩
                          · have n2 : pk = pi := by simpa using e2
                            have N2 := Lib.hid n2
                            clear n2
                            by_cases t5 : (0 : Int) ≤ pi
                            · go_upto_region 11 with fail
                              go_quiet (fail)
                              go_wp2
                              go_ret
                              exact ⟨chk_no (HALL.out (HN2.out N2.out (by omega))), below_drewN (hbel _) _⟩
                            · have t5f : decide ((0 : Int) ≤ pi) = false := decide_eq_false t5
                              have hq2 := HQN.out ⟨N1.out, fun h => by omega⟩
                              clear HQN
                              go_upto_region 11 with fail
                              go_quiet (fail)
                              go_wp2
                              exact ⟨⟨k + 1, by go_num, by omega, hq2, ⟨_, rfl⟩⟩, by simp [intOf]; omega⟩
                        · have n1 : dk2 = di := by simpa using e1
                          have N1 := Lib.hid n1
                          clear n1
                          go_upto_region 11 with fail
                          go_quiet (fail)
                          go_wp2
                          go_ret
                          exact ⟨chk_no (HALL.out (HN1.out N1.out)), below_drewN (hbel _) _⟩
                      · have kl : ¬ (k : Int) < i := by omega
                        have hke : k = i := by omega
                        have hrun : Hid (∀ q, q < i + 1 → RunOK m D Pn La q) := fun q hq' => by
                          by_cases e : q = i
                          · subst e
                            exact ⟨⟨by rw [HPI.out]; omega, by rw [HPI.out]; omega⟩, ⟨by rw [HLI.out]; omega, by rw [HLI.out]; omega⟩, fun z hz => by rw [HDI.out]; exact (hq.out z (by omega)).1, fun hp z hz => by rw [HPI.out] at hp ⊢; exact (hq.out z (by omega)).2 hp⟩
                          · exact hok.out q (by omega)
                        go_wp2
                        go_roundw
                        case rel => exact ⟨i + 1, by go_num, by omega, hrun, hw⟩
                        case measure => (simp [intOf] <;> omega)
          · have il : ¬ (i : Int) < n := by omega
            have hin : i = n := by omega
            go_wp2
            go_ret
            subst hin
            exact ⟨chk_yes ⟨by omega, by omega, by omega, hok.out⟩, below_drewN (Below.refl _ _) _⟩
end Go.Proofs.Ytnjdomfhjhlamaa
