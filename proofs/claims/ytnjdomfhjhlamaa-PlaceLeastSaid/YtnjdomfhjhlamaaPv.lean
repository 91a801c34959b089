/- Contracts of place.Moves, place.Least. -/
import Derived.Test.YtnjdomfhjhlamaaPa
namespace Go.Proofs.Ytnjdomfhjhlamaa
open Go.RowKit
set_option linter.unusedVariables false
set_option linter.unusedSimpArgs false

/-- n numbers lie in a row. -/
def Ints (w : World) (v : Value) (n : Nat) (c : Nat → Int) : Prop :=
  ∃ p cap, v = .slice p n cap ∧ n ≤ cap ∧ (0 < n → ∃ g off, p = some ⟨g, off, none⟩ ∧ g < w.heap.size ∧ ∀ j, j < n → w.cell? ⟨g, off + j, none⟩ = some (.int .i64 (c j)))
theorem Ints.keepb {w w' : World} {v : Value} {n : Nat} {c : Nat → Int} (h : Ints w v n c) (k : Below w.heap.size w w') : Ints w' v n c := by
  obtain ⟨p, cap, hv, hc, h⟩ := h
  refine ⟨p, cap, hv, hc, fun hn => ?_⟩
  obtain ⟨g, off, hp, hg, hj⟩ := h hn
  exact ⟨g, off, hp, Nat.lt_of_lt_of_le hg k.size, fun j hj2 => (k.cell (p := ⟨g, off + j, none⟩) hg).trans (hj j hj2)⟩
/-- How many of the first k move. -/
def cmov (La c : Nat → Int) : Nat → Nat
  | 0 => 0
  | j + 1 => cmov La c j + if La j ≠ -1 ∧ La j ≠ c j then 1 else 0
theorem cmov_le (La c : Nat → Int) (k : Nat) : cmov La c k ≤ k := by
  induction k with
  | zero => exact Nat.le_refl _
  | succ k ih => simp only [cmov]; split <;> omega

set_option maxRecDepth 8000 in
set_option maxHeartbeats 3200000 in
theorem moves_any (v v2 : Value) (n n2 : Nat) (D Pn La c : Nat → Int) (w : World) (hR : Runs w v n D Pn La) (hC : Ints w v2 n2 c) (hn : n ≤ 2000) (hn2 : n2 ≤ 2000) :
    Calls Try.prog 18 #[v, v2] w fun e w' => e = .returned (.int .i64 (cmov La c (min n n2) : Nat)) ∧ Below w.heap.size w w' := by
  obtain ⟨p, cap, rfl, hcap, hr⟩ := hR
  obtain ⟨p2, cap2, rfl, hcap2, hr2⟩ := hC
  have HR := Lib.hid hr
  have HC := Lib.hid hr2
  clear hr hr2
  by_cases hnn : n2 < n
  · have hmin : min n n2 = n2 := by omega
    have hni : (n2 : Int) < n := by omega
    rw [hmin]
    clear hmin
    go_enter Try.func18, Try.ntmps18
    go_wp2
    go_loopw [5, 12] (fun s5 s12 wr => ∃ (i : Nat), s5 = .int .i64 (cmov La c i : Nat) ∧ s12 = .int .i64 i ∧ i ≤ n2 ∧ Hid (∃ d, wr = w.drewN d)) (fun _ s12 _ => 4000 - (intOf s12).toNat)
    case atStart => exact ⟨0, rfl, rfl, by omega, ⟨0, rfl⟩⟩
    case round =>
      obtain ⟨i, rfl, rfl, hi, hw⟩ := hrel
      obtain ⟨dk, rfl⟩ := hw.out
      have hml := cmov_le La c i
      have hsucc : Hid (cmov La c (i + 1) = cmov La c i + if La i ≠ -1 ∧ La i ≠ c i then 1 else 0) := rfl
      generalize hM : cmov La c i = M at *
      have HM := Lib.hid hM
      clear hM
      by_cases hlt : i < n2
      · obtain ⟨g, off, rfl, hg, hj⟩ := HR.out (by omega)
        obtain ⟨g2, off2, rfl, hg2, hj2⟩ := HC.out (by omega)
        have c2 : w.cell? ⟨g, off + i * 3 + 2, none⟩ = some (.int .i64 (La i)) := (hj i (by omega)).2.2
        have d2 : w.cell? ⟨g2, off2 + i, none⟩ = some (.int .i64 (c i)) := hj2 i (by omega)
        have il : (i : Int) < n2 := by omega
        have i1 : (i : Int) < n := by omega
        have i2 : (i : Int) < n2 := by omega
        have wk : IntKind.i64.wrap ((i : Int) + 1) = (i : Int) + 1 := wrap_in _ (by omega) (by omega)
        have wm : IntKind.i64.wrap ((M : Int) + 1) = (M : Int) + 1 := wrap_in _ (by omega) (by omega)
        clear hj hj2
        generalize La i = la at *
        generalize c i = ci at *
        by_cases h1 : la = -1
        · have hs2 : cmov La c (i + 1) = M := by rw [hsucc.out, if_neg (fun h => h.1 h1)]; rfl
          have HS2 := Lib.hid hs2
          subst h1
          clear hs2
          go_upto_region 5 with fail
          go_region
          go_wp2
          exact ⟨⟨i + 1, by rw [HS2.out], by go_num, by omega, ⟨dk + 1, rfl⟩⟩, by simp [intOf]; omega⟩
        · have h1n : (la == -1) = false := by rw [beq_eq_false_iff_ne]; exact h1
          have h1b : (la != -1) = true := by simp [h1]
          by_cases h2 : la = ci
          · have hs2 : cmov La c (i + 1) = M := by rw [hsucc.out, if_neg (fun h => h.2 h2)]; rfl
            have HS2 := Lib.hid hs2
            have h2b : (la != ci) = false := by simp [h2]
            clear hs2 h2
            go_upto_region 5 with fail
            go_region
            go_wp2
            exact ⟨⟨i + 1, by rw [HS2.out], by go_num, by omega, ⟨dk + 1, rfl⟩⟩, by simp [intOf]; omega⟩
          · have h2n : (la == ci) = false := by rw [beq_eq_false_iff_ne]; exact h2
            have h2b : (la != ci) = true := by simp [h2]
            have hs2 : cmov La c (i + 1) = M + 1 := by rw [hsucc.out, if_pos ⟨h1, h2⟩]
            have HS2 := Lib.hid hs2
            clear hs2
            go_upto_region 5 with fail
            go_region
            go_wp2
            exact ⟨⟨i + 1, by rw [HS2.out]; rfl, by go_num, by omega, ⟨dk + 1, rfl⟩⟩, by simp [intOf]; omega⟩
      · have il : ¬ (i : Int) < n2 := by omega
        have hik : i = n2 := by omega
        go_wp2
        go_ret
        subst hik
        exact ⟨by rw [HM.out]; rfl, below_drewN (Below.refl _ _) _⟩
  · have hmin : min n n2 = n := by omega
    have hni : ¬ (n2 : Int) < n := by omega
    rw [hmin]
    clear hmin
    go_enter Try.func18, Try.ntmps18
    go_wp2
    go_loopw [5, 12] (fun s5 s12 wr => ∃ (i : Nat), s5 = .int .i64 (cmov La c i : Nat) ∧ s12 = .int .i64 i ∧ i ≤ n ∧ Hid (∃ d, wr = w.drewN d)) (fun _ s12 _ => 4000 - (intOf s12).toNat)
    case atStart => exact ⟨0, rfl, rfl, by omega, ⟨0, rfl⟩⟩
    case round =>
      obtain ⟨i, rfl, rfl, hi, hw⟩ := hrel
      obtain ⟨dk, rfl⟩ := hw.out
      have hml := cmov_le La c i
      have hsucc : Hid (cmov La c (i + 1) = cmov La c i + if La i ≠ -1 ∧ La i ≠ c i then 1 else 0) := rfl
      generalize hM : cmov La c i = M at *
      have HM := Lib.hid hM
      clear hM
      by_cases hlt : i < n
      · obtain ⟨g, off, rfl, hg, hj⟩ := HR.out (by omega)
        obtain ⟨g2, off2, rfl, hg2, hj2⟩ := HC.out (by omega)
        have c2 : w.cell? ⟨g, off + i * 3 + 2, none⟩ = some (.int .i64 (La i)) := (hj i (by omega)).2.2
        have d2 : w.cell? ⟨g2, off2 + i, none⟩ = some (.int .i64 (c i)) := hj2 i (by omega)
        have il : (i : Int) < n := by omega
        have i1 : (i : Int) < n := by omega
        have i2 : (i : Int) < n2 := by omega
        have wk : IntKind.i64.wrap ((i : Int) + 1) = (i : Int) + 1 := wrap_in _ (by omega) (by omega)
        have wm : IntKind.i64.wrap ((M : Int) + 1) = (M : Int) + 1 := wrap_in _ (by omega) (by omega)
        clear hj hj2
        generalize La i = la at *
        generalize c i = ci at *
        by_cases h1 : la = -1
        · have hs2 : cmov La c (i + 1) = M := by rw [hsucc.out, if_neg (fun h => h.1 h1)]; rfl
          have HS2 := Lib.hid hs2
          subst h1
          clear hs2
          go_upto_region 5 with fail
          go_region
          go_wp2
          exact ⟨⟨i + 1, by rw [HS2.out], by go_num, by omega, ⟨dk + 1, rfl⟩⟩, by simp [intOf]; omega⟩
        · have h1n : (la == -1) = false := by rw [beq_eq_false_iff_ne]; exact h1
          have h1b : (la != -1) = true := by simp [h1]
          by_cases h2 : la = ci
          · have hs2 : cmov La c (i + 1) = M := by rw [hsucc.out, if_neg (fun h => h.2 h2)]; rfl
            have HS2 := Lib.hid hs2
            have h2b : (la != ci) = false := by simp [h2]
            clear hs2 h2
            go_upto_region 5 with fail
            go_region
            go_wp2
            exact ⟨⟨i + 1, by rw [HS2.out], by go_num, by omega, ⟨dk + 1, rfl⟩⟩, by simp [intOf]; omega⟩
          · have h2n : (la == ci) = false := by rw [beq_eq_false_iff_ne]; exact h2
            have h2b : (la != ci) = true := by simp [h2]
            have hs2 : cmov La c (i + 1) = M + 1 := by rw [hsucc.out, if_pos ⟨h1, h2⟩]
            have HS2 := Lib.hid hs2
            clear hs2
            go_upto_region 5 with fail
            go_region
            go_wp2
            exact ⟨⟨i + 1, by rw [HS2.out]; rfl, by go_num, by omega, ⟨dk + 1, rfl⟩⟩, by simp [intOf]; omega⟩
      · have il : ¬ (i : Int) < n := by omega
        have hik : i = n := by omega
        go_wp2
        go_ret
        subst hik
        exact ⟨by rw [HM.out]; rfl, below_drewN (Below.refl _ _) _⟩

theorem runs_ints {w : World} {g n : Nat} {c : Nat → Int} (hg : g < w.heap.size) (h : ∀ j, j < n → w.cell? ⟨g, j, none⟩ = some (.int .i64 (c j))) : Ints w (.slice (some ⟨g, 0, none⟩) n n) n c :=
  ⟨_, _, rfl, Nat.le_refl _, fun _ => ⟨g, 0, rfl, hg, fun j hj => by rw [Nat.zero_add]; exact h j hj⟩⟩
set_option maxRecDepth 8000 in
set_option maxHeartbeats 3200000 in
theorem least_yes (v : Value) (n : Nat) (D Pn La : Nat → Int) (m : Int) (w : World) (hR : Runs w v n D Pn La) (hwf : ∀ j, j < n → (Lit.int .i64 (D j)).wf = true) (hchk : Chk m n D Pn La) :
    Calls Try.prog 9 #[v, .int .i64 m] w fun e w' => e = .returned (.int .i64 (cmov La (casg n Pn La) n : Nat)) ∧ Below w.heap.size w w' := by
  have hn : n ≤ 1024 := by have := hchk.2.1; have := hchk.2.2.1; omega
  have HA := Lib.hid (assign_yes v n D Pn La m w hR hwf hchk)
  have HM := Lib.hid (fun (w1 : World) (v2 : Value) (hb : Below w.heap.size w w1) (hC : Ints w1 v2 n (casg n Pn La)) => moves_any v v2 n n D Pn La (casg n Pn La) w1 (hR.keepb hb) hC (by omega) (by omega))
  obtain ⟨p, cap, rfl, hcap, hr⟩ := hR
  clear hr
  go_enter Try.func9, Try.ntmps9
  go_wp2_with (first
    | (go_at_call 12; (with_reducible refine HA.out.mono ?_); rintro e w1 ⟨⟨g, rfl, hg, hcl, gg⟩, hb1⟩)
    | (go_at_call 18; (with_reducible refine (HM.out _ _ hb1 (runs_ints hg hcl)).mono ?_); rintro e w2 ⟨rfl, hb2⟩))
  go_ret
  exact ⟨by simp, (by have s0_ := hb1.size; have s1_ := hb2.size; (try simp only [World.size_alloc, World.size_setCell, World.size_drew, sz_drewN] at s0_ s1_); repeat' (first | (with_reducible exact Below.refl _ _) | (with_reducible refine bel_call ?_ ?_ hb2) | (with_reducible refine bel_call ?_ ?_ hb1) | (with_reducible refine Below.alloc ?_ ?_ _) | (with_reducible refine below_drewN ?_ _) | (with_reducible refine Below.drew ?_) | (with_reducible refine Below.setCell ?_ ?_ _) | omega | (simp; omega) | (simp; done)))⟩
end Go.Proofs.Ytnjdomfhjhlamaa
