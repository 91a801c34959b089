/- Contract of place.Assign. -/
import Derived.Test.YtnjdomfhjhlamaaPs
import Derived.WalkMore
namespace Go.Proofs.Ytnjdomfhjhlamaa
open Go.RowKit
set_option linter.unusedVariables false
set_option linter.unusedSimpArgs false

theorem assign_no (v : Value) (n : Nat) (D Pn La : Nat → Int) (m : Int) (w : World) (hR : Runs w v n D Pn La) (hwf : ∀ j, j < n → (Lit.int .i64 (D j)).wf = true) (hchk : ¬ Chk m n D Pn La) :
    Calls Try.prog 12 #[v, .int .i64 m] w fun e w' => e = .returned (.tuple #[.slice none 0 0, .int .i64 1]) ∧ Below w.heap.size w w' := by
  have HC := Lib.hid (fun w1 (hb : Below w.heap.size w w1) => check_any v n D Pn La m w1 (hR.keepb hb) hwf)
  obtain ⟨p, cap, rfl, hcap, hr⟩ := hR
  clear hr
  go_enter Try.func12, Try.ntmps12
  go_wp2
  go_step3
  go_wp2_with (go_at_call 10; (with_reducible refine (HC.out _ ?_).mono ?_); (focus (exact (by repeat' (first | (with_reducible exact Below.refl _ _) | (with_reducible refine Below.alloc ?_ ?_ _) | (with_reducible refine below_drewN ?_ _) | (with_reducible refine Below.drew ?_) | (with_reducible refine Below.setCell ?_ ?_ _) | omega | (simp; omega) | (simp; done))))); rintro e w1 ⟨⟨B, rfl, hB⟩, hb1⟩; have hBf : B = false := (by cases B; rfl; exact absurd (hB.1 rfl) hchk); subst hBf)
  rw [Exit.noGoto_ret]
  exact bodyPost_ret (v := .tuple #[.slice none 0 0, .int .i64 1]) (by simp only [results, Try.results12]; go_simp) rfl ⟨rfl, (by have s0_ := hb1.size; (try simp only [World.size_alloc, World.size_setCell, World.size_drew, sz_drewN] at s0_); repeat' (first | (with_reducible exact Below.refl _ _) | (with_reducible refine bel_call ?_ ?_ hb1) | (with_reducible refine Below.alloc ?_ ?_ _) | (with_reducible refine below_drewN ?_ _) | (with_reducible refine Below.drew ?_) | (with_reducible refine Below.setCell ?_ ?_ _) | omega | (simp; omega) | (simp; done)))⟩

theorem ctake_keeps {s : CSt} {i : Nat} {x c : Int} (h : s.2 c = true) : (ctake s i x).2 c = true := by
  unfold ctake
  split
  · show (if c = x then true else s.2 c) = true
    split
    · rfl
    · exact h
  · exact h
theorem cph3_succ (s : CSt) (i : Nat) : cph3 s (i + 1) = if (cph3 s i).1.1 i = -1 then (ctake (cph3 s i).1 i (cff (cph3 s i).1.2 2000 (cph3 s i).2), cff (cph3 s i).1.2 2000 (cph3 s i).2) else cph3 s i := rfl

set_option maxRecDepth 8000 in
set_option maxHeartbeats 12800000 in
theorem assign_yes (v : Value) (n : Nat) (D Pn La : Nat → Int) (m : Int) (w : World) (hR : Runs w v n D Pn La) (hwf : ∀ j, j < n → (Lit.int .i64 (D j)).wf = true) (hchk : Chk m n D Pn La) :
    Calls Try.prog 12 #[v, .int .i64 m] w fun e w' => (∃ g, e = .returned (.tuple #[.slice (some ⟨g, 0, none⟩) n n, .int .i64 0]) ∧ g < w'.heap.size ∧ (∀ j, j < n → w'.cell? ⟨g, j, none⟩ = some (.int .i64 (casg n Pn La j))) ∧ w.heap.size ≤ g) ∧ Below w.heap.size w w' := by
  have HC := Lib.hid (fun w1 (hb : Below w.heap.size w w1) => check_any v n D Pn La m w1 (hR.keepb hb) hwf)
  obtain ⟨p, cap, rfl, hcap, hr⟩ := hR
  have HR := Lib.hid hr
  clear hr
  obtain ⟨ck1, ck2, ck3, ck4⟩ := hchk
  have CK4 := Lib.hid ck4
  have hn : n ≤ 1024 := by omega
  have hchk : Hid (Chk m n D Pn La) := ⟨ck1, ck2, ck3, ck4⟩
  clear ck4
  have hzc := zero_cores
  go_enter Try.func12, Try.ntmps12
  go_wp2
  go_step3
  go_upto_region 3 with (go_at_call 10; (with_reducible refine (HC.out _ ?_).mono ?_); (focus (exact (by repeat' (first | (with_reducible exact Below.refl _ _) | (with_reducible refine Below.alloc ?_ ?_ _) | (with_reducible refine below_drewN ?_ _) | (with_reducible refine Below.drew ?_) | (with_reducible refine Below.setCell ?_ ?_ _) | omega | (simp; omega) | (simp; done))))); rintro e w1 ⟨⟨B, rfl, hB⟩, hb1⟩; have hBf : B = true := hB.2 hchk.out; subst hBf)
  have s1 := hb1.size
  clear hB HC
  go_upto_region 4 with fail
  refine gen_world (F := fun V => (∀ c : Nat, c < 1024 → V.cell? ⟨w1.heap.size, c, none⟩ = some (.bool false)) ∧ (∀ o, V.frozen? ⟨w1.heap.size, o, none⟩ = false) ∧ w1.heap.size < V.heap.size ∧ Below w.heap.size w V) ⟨fun c hc => ?_, fun o => by go_simp, by simp, hb1.alloc s1 _⟩ ?_
  · refine (World.cell?_alloc_at _ _ _ _ rfl).trans ?_
    rw [Array.getElem?_replicate, if_pos hc]
  clear hb1 hzc
  generalize w1.heap.size = t at *
  rintro V ⟨ht, htf, hts, hbv⟩
  have hsV := hbv.size
  have HRP := Lib.hid (fun (a c : Nat) (w : World) (hc : w.cell? ⟨a, 0, none⟩ = some (.int .i64 (-1))) => repeat_any a c n w hn hc)
  go_upto_region 5 with (go_at_call 21; (with_reducible refine (HRP.out _ _ _ ?_).mono ?_); (focus (go_simp)); rintro e w2 ⟨⟨g, rfl, hO, gg⟩, hb2⟩)
  refine gen_world (F := fun W => AS W w2.heap.size g t n cinit ∧ w.heap.size ≤ g ∧ w.heap.size ≤ w2.heap.size ∧ Below w.heap.size w W) ⟨⟨by go_simp, fun j hj => ?_, fun u => ?_, fun c hc => ?_, fun u => ?_, ?_, ?_, ?_, by simp, ?_, ?_⟩, ?_, ?_, ?_⟩ ?_
  · exact (World.cell?_alloc_past _ _ _ hO.2.2.2).trans (hO.1.out j hj)
  · exact (World.frozen?_alloc_past _ _ _ hO.2.2.2).trans (hO.2.2.1 u)
  · exact (World.cell?_alloc_past _ _ _ (by have := hb2.size; simp at this; omega)).trans ((hb2.cell (p := ⟨t, c, none⟩) (by simp; omega)).trans ((World.cell?_alloc_past _ _ _ hts).trans (ht c hc)))
  · exact (World.frozen?_alloc_past _ _ _ (by have := hb2.size; simp at this; omega)).trans ((hb2.frozen (p := ⟨t, u, none⟩) (by simp; omega)).trans ((World.frozen?_alloc_past _ _ _ hts).trans (htf u)))
  · have := hO.2.2.2; omega
  · have := hb2.size; simp at this; omega
  · simp at gg; omega
  · have := hO.2.2.2; simp; omega
  · have := hb2.size; simp at this ⊢; omega
  · simp at gg; omega
  · have := hb2.size; simp at this; omega
  · exact (bel_call (hbv.alloc hsV _) (by simp; omega) hb2).alloc (by have := hb2.size; simp at this; omega) _
  clear ht htf hb2 hO gg hbv hsV
  generalize w2.heap.size = o at *
  rintro W ⟨hS, gg, go, hbv⟩
  go_wp2
  go_loopw [26] (fun s26 wr => ∃ i : Nat, s26 = .int .i64 i ∧ i ≤ n ∧ AS wr o g t n (cph Pn cinit i) ∧ Below w.heap.size w wr) (fun s26 _ => n - (intOf s26).toNat)
  case atStart => exact ⟨0, rfl, by omega, hS, hbv⟩
  case round =>
    clear hS hbv
    obtain ⟨i, rfl, hi, hS, hbv⟩ := hrel
    have hs := hbv.size
    by_cases hlt : i < n
    · obtain ⟨rg, off, rfl, hrg, hj⟩ := HR.out (by omega)
      obtain ⟨j0, j1, j2⟩ := hj i hlt
      have c0 := keep_row j0 hbv (by show rg < _; omega)
      have c1 := keep_row j1 hbv (by show rg < _; omega)
      have c2 := keep_row j2 hbv (by show rg < _; omega)
      have il : (i : Int) < n := by omega
      have wk : IntKind.i64.wrap ((i : Int) + 1) = (i : Int) + 1 := wrap_in _ (by omega) (by omega)
      obtain ⟨bd0, bd1⟩ := (CK4.out i hlt).1
      have HTK := Lib.hid (take_any o g t n i (cph Pn cinit i) (Pn i) (wr.alloc (.cells #[.int .i64 (D i), .int .i64 (Pn i), .int .i64 (La i)] 25)) (hS.keepb ((Below.refl _ _).alloc (Nat.le_refl _) _)) hlt hn bd0 (by omega))
      clear j0 j1 j2 hj
      generalize D i = d at *
      generalize hpi : Pn i = pn at *
      generalize hla : La i = la at *
      have hbA : Below w.heap.size w (wr.alloc (.cells #[.int .i64 d, .int .i64 pn, .int .i64 la] 25)) := hbv.alloc hs _
      have hsA := hbA.size
      clear hS
      go_upto_region 10 with (go_at_call 22; (with_reducible refine HTK.out.mono ?_); rintro e w5 ⟨rfl, hS5, hk5⟩)
      have hb5 : Below w.heap.size w w5 := hbA.trans (hk5.to_below hsA (fun k hk h => by rcases h with h | h <;> omega))
      have hS6 : AS w5 o g t n (cph Pn cinit (i + 1)) := by show AS w5 o g t n (ctake (cph Pn cinit i) i (Pn i)); rw [hpi]; exact hS5
      clear hS5 hk5 hbA HTK c0 c1 c2
      go_wp2
      go_roundw
      case rel => first | exact ⟨i + 1, by go_num, by omega, hS6, hb5⟩ | ((repeat apply Exists.intro); exact ⟨⟨i + 1, by go_num, by omega, hS6, hb5⟩, rfl⟩)
      case measure => (simp [intOf] <;> omega)
    · have hke : n = i := by omega
      subst hke
      obtain ⟨w9, rfl⟩ : ∃ x, x = wr := ⟨wr, rfl⟩
      clear hlt hi
      go_wp2
      go_loopw [39] (fun s39 wr => ∃ i : Nat, s39 = .int .i64 i ∧ i ≤ n ∧ AS wr o g t n (cph La (cph Pn cinit n) i) ∧ Below w.heap.size w wr) (fun s39 _ => n - (intOf s39).toNat)
      case atStart => exact ⟨0, rfl, by omega, hS, hbv⟩
      case round =>
        clear hS hbv
        obtain ⟨i, rfl, hi, hS, hbv⟩ := hrel
        have hs := hbv.size
        by_cases hlt : i < n
        · obtain ⟨rg, off, rfl, hrg, hj⟩ := HR.out (by omega)
          obtain ⟨j0, j1, j2⟩ := hj i hlt
          have c0 := keep_row j0 hbv (by show rg < _; omega)
          have c1 := keep_row j1 hbv (by show rg < _; omega)
          have c2 := keep_row j2 hbv (by show rg < _; omega)
          have il : (i : Int) < n := by omega
          have wk : IntKind.i64.wrap ((i : Int) + 1) = (i : Int) + 1 := wrap_in _ (by omega) (by omega)
          obtain ⟨bd0, bd1⟩ := (CK4.out i hlt).2.1
          have HTK := Lib.hid (take_any o g t n i (cph La (cph Pn cinit n) i) (La i) (wr.alloc (.cells #[.int .i64 (D i), .int .i64 (Pn i), .int .i64 (La i)] 25)) (hS.keepb ((Below.refl _ _).alloc (Nat.le_refl _) _)) hlt hn bd0 (by omega))
          clear j0 j1 j2 hj
          generalize D i = d at *
          generalize hpi : Pn i = pn at *
          generalize hla : La i = la at *
          have hbA : Below w.heap.size w (wr.alloc (.cells #[.int .i64 d, .int .i64 pn, .int .i64 la] 25)) := hbv.alloc hs _
          have hsA := hbA.size
          clear hS
          go_upto_region 15 with (go_at_call 22; (with_reducible refine HTK.out.mono ?_); rintro e w5 ⟨rfl, hS5, hk5⟩)
          have hb5 : Below w.heap.size w w5 := hbA.trans (hk5.to_below hsA (fun k hk h => by rcases h with h | h <;> omega))
          have hS6 : AS w5 o g t n (cph La (cph Pn cinit n) (i + 1)) := by show AS w5 o g t n (ctake (cph La (cph Pn cinit n) i) i (La i)); rw [hla]; exact hS5
          clear hS5 hk5 hbA HTK c0 c1 c2
          go_wp2
          go_roundw
          case rel => first | exact ⟨i + 1, by go_num, by omega, hS6, hb5⟩ | ((repeat apply Exists.intro); exact ⟨⟨i + 1, by go_num, by omega, hS6, hb5⟩, rfl⟩)
          case measure => (simp [intOf] <;> omega)
        · have hke : n = i := by omega
          subst hke
          obtain ⟨w8, rfl⟩ : ∃ x, x = wr := ⟨wr, rfl⟩
          clear hlt hi
          have hok2 : COk m n (cph La (cph Pn cinit n) n) := ((COk.init m n).round (fun j hj => (CK4.out j hj).1) n (Nat.le_refl _)).round (fun j hj => (CK4.out j hj).2.1) n (Nat.le_refl _)
          have hcas : Hid (∀ j, casg n Pn La j = (cph3 (cph La (cph Pn cinit n) n) n).1.1 j) := fun j => rfl
          generalize cph La (cph Pn cinit n) n = s2 at *
          go_wp2
          go_step3
          go_wp2
          go_loopw [13, 52] (fun s13 s52 wr => ∃ i : Nat, s13 = .int .i64 ((cph3 s2 i).2 : Nat) ∧ s52 = .int .i64 i ∧ i ≤ n ∧ AS wr o g t n (cph3 s2 i).1 ∧ COk m n (cph3 s2 i).1 ∧ Hid (∀ c : Nat, c < (cph3 s2 i).2 → (cph3 s2 i).1.2 c = true) ∧ Below w.heap.size w wr) (fun _ s52 _ => n - (intOf s52).toNat)
          case atStart => exact ⟨0, rfl, rfl, by omega, hS, hok2, fun c hc => by have : c < 0 := hc; omega, hbv⟩
          case round =>
            clear hS hbv hok2
            obtain ⟨i, rfl, rfl, hi, hS, hok, hbel, hbv⟩ := hrel
            have hs := hbv.size
            by_cases hlt : i < n
            · have hsucc := cph3_succ s2 i
              generalize cph3 s2 i = r at *
              obtain ⟨st, fr⟩ := r
              obtain ⟨a0, a1, a2, a3, a4, m1, m2, m3, z1, z2, z3⟩ := id hS
              have il : (i : Int) < n := by omega
              have wk : IntKind.i64.wrap ((i : Int) + 1) = (i : Int) + 1 := wrap_in _ (by omega) (by omega)
              have ci := a1.out i hlt
              have HSS := Lib.hid hS
              have HOK := Lib.hid hok
              clear hS hok
              dsimp only at *
              by_cases ho : st.1 i = -1
              · rw [if_pos ho] at hsucc
                rw [ho] at ci
                obtain ⟨F, hF⟩ : ∃ F, cff st.2 2000 fr = F := ⟨_, rfl⟩
                rw [hF] at hsucc
                have HSU := Lib.hid hsucc
                have HHO := Lib.hid ho
                clear hsucc ho
                go_upto_region 21 with fail
                obtain ⟨w7, rfl⟩ : ∃ x, x = wr := ⟨wr, rfl⟩
                go_loopw [13] (fun s13 wr => ∃ (f k : Nat), s13 = .int .i64 f ∧ cff st.2 k f = F ∧ fr ≤ f ∧ k + f = 2000 + fr ∧ Hid (∀ c : Nat, c < f → st.2 c = true) ∧ wr = w7) (fun s13 _ => 2000 - (intOf s13).toNat)
                case atStart => exact ⟨fr, 2000, rfl, hF, by omega, by omega, hbel.out, rfl⟩
                case round =>
                  obtain ⟨f, k, rfl, hcf, hff, hkf, hbf, rfl⟩ := hrel
                  have hfn := free_lt HOK.out hlt HHO.out hbf.out
                  obtain ⟨k', rfl⟩ : ∃ k', k = k' + 1 := ⟨k - 1, by omega⟩
                  have hct := a3.out f (by omega)
                  have wf : IntKind.i64.wrap ((f : Int) + 1) = (f : Int) + 1 := wrap_in _ (by omega) (by omega)
                  have fl : (f : Int) < 1024 := by omega
                  cases htf : st.2 f with
                  | true =>
                    rw [htf] at hct
                    have hcf2 : cff st.2 k' (f + 1) = F := by
                      simp only [cff] at hcf
                      rw [if_pos htf] at hcf
                      exact hcf
                    have hbf2 : Hid (∀ c : Nat, c < f + 1 → st.2 c = true) := fun c hc => by
                      by_cases e : c = f
                      · subst e; exact htf
                      · exact hbf.out c (by omega)
                    clear hcf htf
                    go_wp2
                    go_roundw
                    case rel => exact ⟨f + 1, k', by go_num, hcf2, by omega, by omega, hbf2, by first | rfl | trivial⟩
                    case measure => (simp [intOf] <;> omega)
                  | false =>
                    rw [htf] at hct
                    have hFf : F = f := by
                      simp only [cff] at hcf
                      rw [if_neg (by rw [htf]; decide)] at hcf
                      exact hcf.symm
                    have HTK := Lib.hid (take_any o g t n i st (f : Int) wr HSS.out hlt hn (by omega) (by omega))
                    have hok3 := HOK.out.take hlt (show (-1 : Int) ≤ f by omega) (show (f : Int) < m by omega)
                    have hbel3 : Hid (∀ c : Nat, c < f → (ctake st i f).2 c = true) := fun c hc => ctake_keeps (hbf.out c hc)
                    have HSU2 : Hid (cph3 s2 (i + 1) = (ctake st i f, f)) := by show _ = _; rw [HSU.out, hFf]
                    clear hcf htf hFf
                    go_wp2_with (go_at_call 22; (with_reducible refine HTK.out.mono ?_); rintro e w5 ⟨rfl, hS5, hk5⟩)
                    have hb5 : Below w.heap.size w w5 := hbv.trans (hk5.to_below hs (fun k hk h => by rcases h with h | h <;> omega))
                    go_roundw
                    case rel => exact ⟨i + 1, by rw [HSU2.out], by go_num, by omega, by rw [HSU2.out]; exact hS5, by rw [HSU2.out]; exact hok3, by rw [HSU2.out]; exact hbel3, hb5⟩
                    case measure => (simp [intOf] <;> omega)
              · rw [if_neg ho] at hsucc
                have hon : (st.1 i == -1) = false := by rw [beq_eq_false_iff_ne]; exact ho
                have HSU := Lib.hid hsucc
                generalize hz : st.1 i = z at *
                go_wp2
                go_roundw
                case rel => exact ⟨i + 1, by rw [HSU.out], by go_num, by omega, by rw [HSU.out]; exact HSS.out, by rw [HSU.out]; exact HOK.out, by rw [HSU.out]; exact hbel, hbv⟩
                case measure => (simp [intOf] <;> omega)
            · have hke : n = i := by omega
              subst hke
              obtain ⟨a0, a1, a2, a3, a4, m1, m2, m3, z1, z2, z3⟩ := hS
              go_wp2
              rw [Exit.noGoto_ret]
              exact bodyPost_ret (v := .tuple #[.slice (some ⟨g, 0, none⟩) n n, .int .i64 0]) (by simp only [results, Try.results12]; go_simp) rfl ⟨⟨g, rfl, z2, fun j hj => by rw [hcas.out]; exact a1.out j hj, gg⟩, hbv⟩
end Go.Proofs.Ytnjdomfhjhlamaa
