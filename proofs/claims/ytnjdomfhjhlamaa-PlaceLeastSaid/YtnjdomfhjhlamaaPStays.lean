/- The walk of the law PlaceStays. -/
import Derived.Test.YtnjdomfhjhlamaaRm
import Derived.Test.YtnjdomfhjhlamaaFrame
namespace Go.Proofs.Ytnjdomfhjhlamaa
open Go.RowKit
set_option linter.unusedVariables false
set_option linter.unusedSimpArgs false

theorem mask3p (x : Int) : bits .and .i64 x 7 = x % 8 := i64_mask 3 (by decide) x
theorem rest_bd (z : Int) (m : Int) (h : 1 ≤ m) : -m < z.tmod m ∧ z.tmod m < m := ⟨Int.lt_tmod_of_pos z (by omega), Int.tmod_lt_of_pos z (by omega)⟩
/-- A remainder made a number from 0 on. -/
theorem rest_nat (z m : Int) (h : 1 ≤ m) : ∃ k : Nat, (z.tmod m + m).tmod m = k ∧ (k : Int) < m := by
  obtain ⟨a, b⟩ := rest_bd z m h
  have c := Int.tmod_nonneg m (show 0 ≤ z.tmod m + m by omega)
  have d := Int.tmod_lt_of_pos (z.tmod m + m) (show 0 < m by omega)
  exact ⟨((z.tmod m + m).tmod m).toNat, by omega, by omega⟩
theorem wf_small (j : Nat) (h : j < 1000) : (Lit.int .i64 (j : Int)).wf = true := by
  have a : IntKind.min .i64 = -9223372036854775808 := by decide
  have b : IntKind.max .i64 = 9223372036854775807 := by decide
  simp only [Lit.wf, a, b, Bool.and_eq_true, decide_eq_true_eq]
  omega
theorem chk_plain {m : Int} {n : Nat} {D L : Nat → Int} (h1 : 1 ≤ m) (h2 : m ≤ 1024) (h3 : (n : Int) ≤ m) (hd : ∀ j k, j < n → k < j → D k ≠ D j) (hl : ∀ j, j < n → 0 ≤ L j ∧ L j < m) : Chk m n D (fun _ => -1) L :=
  ⟨h1, h2, h3, fun j hj => ⟨⟨Int.le_refl _, (by show (-1 : Int) < m; omega)⟩, ⟨(by have := (hl j hj).1; omega), (hl j hj).2⟩, fun k hk => hd j k hj hk, fun h => absurd rfl h⟩⟩
theorem rv_pre (D Pn La : Nat → Int) {a k : Nat} (h : a ≤ k) (j : Nat) (hj : j < (rv D Pn La a).length) : (rv D Pn La a)[j]? = (rv D Pn La k)[j]? := by
  induction k with
  | zero => obtain rfl : a = 0 := by omega
            rfl
  | succ k ih =>
    by_cases e : a = k + 1
    · subst e; rfl
    · rw [ih (by omega)]
      show _ = (rv D Pn La k ++ _)[j]?
      rw [List.getElem?_append_left]
      rw [rv_len] at hj ⊢
      have := Nat.mul_le_mul_right 3 (show a ≤ k by omega)
      omega
theorem left_rows (L : Nat → Int) {a K : Nat} (h : a < K) : rv (fun j => (j : Int)) (fun _ => -1) L a ++ (rv (fun j => (j : Int)) (fun _ => -1) L K).drop ((a + 1) * 3) = rv (fun j => skip (fun j => (j : Int)) a j) (fun _ => -1) (fun j => skip L a j) (K - 1) := by
  obtain ⟨k, rfl⟩ : ∃ k, K = k + 1 := ⟨K - 1, by omega⟩
  have e : (fun _ : Nat => (-1 : Int)) = fun j => skip (fun _ => -1) a j := by funext j; simp [skip]
  rw [Nat.add_sub_cancel, ← rv_skip _ _ _ a k (by omega), ← e]
def allne (L : Nat → Int) (i : Nat) : Nat → Bool
  | 0 => true
  | j + 1 => allne L i j && (L i != L j)
def dist (L : Nat → Int) : Nat → Bool
  | 0 => true
  | i + 1 => dist L i && allne L i i
theorem allne_iff (L : Nat → Int) (i j : Nat) : allne L i j = true ↔ ∀ k, k < j → L i ≠ L k := by
  induction j with
  | zero => simp [allne]
  | succ j ih =>
    simp only [allne, Bool.and_eq_true, ih, bne_iff_ne]
    constructor
    · rintro ⟨h1, h2⟩ k hk
      by_cases e : k = j
      · subst e; exact h2
      · exact h1 k (by omega)
    · exact fun h => ⟨fun k hk => h k (by omega), h j (by omega)⟩
theorem dist_iff (L : Nat → Int) (n : Nat) : dist L n = true ↔ ∀ j k, j < n → k < n → L j = L k → j = k := by
  induction n with
  | zero => simp [dist]
  | succ n ih =>
    simp only [dist, Bool.and_eq_true, ih, allne_iff]
    constructor
    · rintro ⟨h1, h2⟩ j k hj hk e
      by_cases ej : j = n
      · by_cases ek : k = n
        · omega
        · subst ej; exact absurd e (h2 k (by omega))
      · by_cases ek : k = n
        · subst ek; exact absurd e.symm (h2 j (by omega))
        · exact h1 j k (by omega) (by omega) e
    · intro h
      refine ⟨fun j k hj hk e => h j k (by omega) (by omega) e, fun k hk e => ?_⟩
      have := h n k (by omega) (by omega) e
      omega
theorem dist_no (L : Nat → Int) (n : Nat) (h : dist L n = false) : ∃ i j, i < n ∧ j < n ∧ i ≠ j ∧ L i = L j := by
  apply Classical.byContradiction
  intro hn
  have : dist L n = true := (dist_iff L n).2 (fun j k hj hk e => Classical.byContradiction (fun hne => hn ⟨j, k, hj, hk, hne, e⟩))
  rw [h] at this
  cases this

set_option maxRecDepth 8000 in
set_option maxHeartbeats 12800000 in
theorem walk_PlaceStays (a0 a1 a2 : Int) (w : World) (_f0 : (Lit.int .i64 a0).wf = true) (_f1 : (Lit.int .i64 a1).wf = true) (_f2 : (Lit.int .i64 a2).wf = true) :
    Calls Try.prog 3 #[.int .i64 a0, .int .i64 a1, .int .i64 a2] w fun e w' => e = .returned (.bool true) ∧ Below w.heap.size w w' := by
  obtain ⟨b1, b2⟩ := rest_bd a0 20 (by omega)
  obtain ⟨N0, hN0, hN1⟩ := rest_nat a0 20 (by omega)
  obtain ⟨N, hN, n1, n2⟩ : ∃ N : Nat, (1 : Int) + N0 = N ∧ 1 ≤ N ∧ N ≤ 20 := ⟨1 + N0, by omega, by omega, by omega⟩
  obtain ⟨c1, c2⟩ := rest_bd a1 (N + 1) (by omega)
  obtain ⟨K, hK, hK1⟩ := rest_nat a1 (N + 1) (by omega)
  obtain ⟨O, hO, o1, o2⟩ : ∃ O : Int, bits .and .i64 a2 7 = O ∧ 0 ≤ O ∧ O ≤ 7 := ⟨_, rfl, by rw [mask3p]; omega, by rw [mask3p]; omega⟩
  have hK' : ((a1.tmod ((N : Int) + 1) + N) + 1).tmod ((N : Int) + 1) = K := by rw [show a1.tmod ((N : Int) + 1) + N + 1 = a1.tmod ((N : Int) + 1) + (N + 1) by omega]; exact hK
  have w1 : IntKind.i64.wrap (a0.tmod 20 + 20) = a0.tmod 20 + 20 := wrap_in _ (by omega) (by omega)
  have w2 : IntKind.i64.wrap (a0.tmod 20) = a0.tmod 20 := wrap_in _ (by omega) (by omega)
  have w3 : IntKind.i64.wrap (N0 : Int) = N0 := wrap_in _ (by omega) (by omega)
  have w4 : IntKind.i64.wrap ((1 : Int) + N0) = 1 + N0 := wrap_in _ (by omega) (by omega)
  have w5 : IntKind.i64.wrap ((N : Int) + 1) = (N : Int) + 1 := wrap_in _ (by omega) (by omega)
  have w6 : IntKind.i64.wrap (a1.tmod ((N : Int) + 1)) = a1.tmod ((N : Int) + 1) := wrap_in _ (by omega) (by omega)
  have w7 : IntKind.i64.wrap (a1.tmod ((N : Int) + 1) + N) = a1.tmod ((N : Int) + 1) + N := wrap_in _ (by omega) (by omega)
  have w8 : IntKind.i64.wrap (a1.tmod ((N : Int) + 1) + N + 1) = a1.tmod ((N : Int) + 1) + N + 1 := wrap_in _ (by omega) (by omega)
  have w9 : IntKind.i64.wrap (K : Int) = K := wrap_in _ (by omega) (by omega)
  have z1 : ¬ (N : Int) + 1 = 0 := by omega
  go_enter Try.func3, Try.ntmps3
  go_upto_region 5 with (go_at_call 8; (with_reducible refine (awake15 _).mono ?_); rintro e wa ⟨rfl, hba⟩)
  clear w1 w2 w3 w4 w5 w6 w7 w8 z1 hK hK' hN0 b1 b2 c1 c2 hN1
  have sa := hba.size
  obtain ⟨L, hL⟩ : ∃ L : Nat → Int, ∀ i : Nat, L i = ((i : Int) * 7 + O).tmod N := ⟨fun i => ((i : Int) * 7 + O).tmod N, fun _ => rfl⟩
  have hLb : ∀ i : Nat, 0 ≤ L i ∧ L i < N := fun i => by
    rw [hL]; exact ⟨Int.tmod_nonneg _ (by omega), Int.tmod_lt_of_pos _ (by omega)⟩
  have HL := Lib.hid hL
  have HLB := Lib.hid hLb
  clear hL hLb
  obtain ⟨i0, hi0, hz0, hz1, hz2⟩ := info_runner
  have zN : ¬ (N : Int) = 0 := by omega
  have Kb : K ≤ 20 := by omega
  obtain ⟨Z, hZ⟩ : ∃ Z, wa.heap.size = Z := ⟨_, rfl⟩
  rw [hZ] at sa
  have hbv : Below w.heap.size w wa := hba
  have hzz : Z ≤ wa.heap.size := by omega
  clear hba hZ
  go_wp2
  go_loopw [10, 11] (fun v s11 wr => ∃ i : Nat, s11 = .int .i64 i ∧ i ≤ K ∧ RowAt wr Z 3 v i (rv (fun j => (j : Int)) (fun _ => -1) L i) ∧ Z ≤ wr.heap.size ∧ Below w.heap.size w wr) (fun _ s11 _ => 40 - (intOf s11).toNat)
  case atStart => exact ⟨0, rfl, by omega, RowAt.nil _ _ _, hzz, hbv⟩
  case round =>
    clear hbv hzz
    obtain ⟨i, rfl, hi, hrow, hzz, hbv⟩ := hrel
    have hs := hbv.size
    by_cases hlt : i < K
    · have il : (i : Int) < K := by omega
      have wk : IntKind.i64.wrap ((i : Int) + 1) = (i : Int) + 1 := wrap_in _ (by omega) (by omega)
      have w1 : IntKind.i64.wrap ((i : Int) * 7) = (i : Int) * 7 := wrap_in _ (by omega) (by omega)
      have w2 : IntKind.i64.wrap ((i : Int) * 7 + O) = (i : Int) * 7 + O := wrap_in _ (by omega) (by omega)
      have hLi := HL.out i
      have hLi2 := hLi.symm
      obtain ⟨l0, l1⟩ := HLB.out i
      have w3 : IntKind.i64.wrap (L i) = L i := wrap_in _ (by omega) (by omega)
      clear hLi
      go_wp2_with (at_builtin; refine wpList_row_lies _ rfl _ _ 23 rfl Z 25 i0 _ 3 24 Try.underlying23 hi0 hz0 hz1 hz2 rfl (by decide) _ _ _ rfl (hrow.alloc _) ⟨wr.heap.size, 0, none⟩ 1 1 [.int .i64 i, .int .i64 (-1), .int .i64 (L i)] rfl rfl ?c1 ?c2 ?c2b ?c3 ?c4 ?c5 ?_)
      case c1 =>
        intro j u hj
        match j, hj with
        | 0, hj => simp at hj; subst hj; simp [Addr.add]
        | 1, hj => simp at hj; subst hj; simp [Addr.add]
        | 2, hj => simp at hj; subst hj; simp [Addr.add]
        | j + 3, hj => simp at hj
      case c2 => intro u hu; simp at hu; rcases hu with rfl | rfl | rfl <;> rfl
      case c2b => omega
      case c3 => unfold maxLen; omega
      case c4 => omega
      case c5 => simp; omega
      · intro g off cap2 w5 hrow2 hgrow _ _
        have r2 : Below w.heap.size w w5 := (hbv.alloc hs _).grown hgrow (by simp; omega) (fun j hj => by have := (hrow.lt j hj).1; omega)
        have s5 := hgrow.size
        simp at s5
        have hrow3 : RowAt w5 Z 3 (.slice (some ⟨g, off, none⟩) (i + 1) cap2) (i + 1) (rv (fun j => (j : Int)) (fun _ => -1) L (i + 1)) := hrow2
        clear hrow2 hgrow hrow hLi2
        go_wp2
        go_roundw
        case rel => exact ⟨i + 1, by go_num, by omega, hrow3, by omega, r2⟩
        case measure => (simp [intOf] <;> omega)
    · have hke : K = i := by omega
      subst hke
      obtain ⟨p, cap, rfl⟩ := hrow.form
      have il : ¬ (K : Int) < K := by omega
      obtain ⟨w9, rfl⟩ : ∃ x, x = wr := ⟨wr, rfl⟩
      have hruns := runs_of_row hrow
      obtain ⟨_, _, hpe, hcap, hr⟩ := id hruns
      injection hpe with hp1 hp2 hp3
      subst hp1 hp3
      have HR := Lib.hid hr
      have HRUN := Lib.hid hruns
      have HROW := Lib.hid hrow
      clear hr hruns hrow
      go_wp2
      go_loopw [12, 13] (fun s12 s13 wr => ∃ i : Nat, s12 = .bool (dist L i) ∧ s13 = .int .i64 i ∧ i ≤ K ∧ Hid (∃ d, wr = w9.drewN d)) (fun _ s13 _ => 40 - (intOf s13).toNat)
      case atStart => exact ⟨0, rfl, rfl, by omega, ⟨0, rfl⟩⟩
      case round =>
        obtain ⟨i, rfl, rfl, hi, hw⟩ := hrel
        obtain ⟨dk, rfl⟩ := hw.out
        by_cases hlt : i < K
        · obtain ⟨g, off, rfl, hg, hj⟩ := HR.out (by omega)
          have il : (i : Int) < K := by omega
          have wk : IntKind.i64.wrap ((i : Int) + 1) = (i : Int) + 1 := wrap_in _ (by omega) (by omega)
          have HJ := Lib.hid hj
          have hds : Hid (dist L (i + 1) = (dist L i && allne L i i)) := rfl
          clear hj hw
          generalize hdi : dist L i = Di at *
          go_upto_region 14 with fail
          obtain ⟨w8, hw8⟩ : ∃ x, x = w9.drewN dk := ⟨_, rfl⟩
          go_loopw [12, 14] (fun s12 s14 wr => ∃ j : Nat, s12 = .bool (Di && allne L i j) ∧ s14 = .int .i64 j ∧ j ≤ i ∧ Hid (∃ d, wr = w9.drewN d)) (fun _ s14 _ => 40 - (intOf s14).toNat)
          case atStart => exact ⟨0, by simp [allne], rfl, by omega, ⟨dk, rfl⟩⟩
          case round =>
            obtain ⟨j, rfl, rfl, hji, hw⟩ := hrel
            obtain ⟨ek, rfl⟩ := hw.out
            by_cases hlt2 : j < i
            · have x1 : w9.cell? ⟨g, off + i * 3 + 2, none⟩ = some (.int .i64 (L i)) := (HJ.out i hlt).2.2
              have x2 : w9.cell? ⟨g, off + j * 3 + 2, none⟩ = some (.int .i64 (L j)) := (HJ.out j (by omega)).2.2
              have jl : (j : Int) < i := by omega
              have jl2 : (j : Int) < K := by omega
              have wj : IntKind.i64.wrap ((j : Int) + 1) = (j : Int) + 1 := wrap_in _ (by omega) (by omega)
              have hsn : Hid ((Di && allne L i (j + 1)) = ((Di && allne L i j) && (L i != L j))) := by show _ = _; simp only [allne]; rw [Bool.and_assoc]
              generalize (Di && allne L i j) = Dj at *
              generalize L i = li at *
              generalize L j = lj at *
              cases Dj
              · go_upto_region 16 with fail
                go_region
                go_wp2
                exact ⟨⟨j + 1, by rw [hsn.out]; rfl, by go_num, by omega, ⟨ek + 1, rfl⟩⟩, by simp [intOf]; omega⟩
              · go_upto_region 16 with fail
                go_region
                go_wp2
                exact ⟨⟨j + 1, by rw [hsn.out]; simp, by go_num, by omega, ⟨ek + 1, rfl⟩⟩, by simp [intOf]; omega⟩
            · have jl : ¬ (j : Int) < i := by omega
              have hje : j = i := by omega
              go_wp2
              go_roundw
              case rel => exact ⟨i + 1, by rw [hds.out, hje], by go_num, by omega, hw⟩
              case measure => (simp [intOf] <;> omega)
        · have hke : K = i := by omega
          have il : ¬ (i : Int) < K := by omega
          subst hke
          have hd9 : Below w9.heap.size w9 (w9.drewN dk) := below_drewN (Below.refl _ _) _
          have hbw : Below w.heap.size w (w9.drewN dk) := below_drewN hbv dk
          have hR9 : Runs (w9.drewN dk) (.slice p K cap) K (fun j => (j : Int)) (fun _ => -1) L := HRUN.out.keepb hd9
          have hrow9 : RowAt (w9.drewN dk) Z 3 (.slice p K cap) K (rv (fun j => (j : Int)) (fun _ => -1) L K) := HROW.out.block (Nat.le_refl _) (fun _ _ => rfl)
          have hzV : Z ≤ (w9.drewN dk).heap.size := hzz
          clear HRUN HROW HR hd9 hw hbv hs hzz
          generalize w9.drewN dk = V at *
          have hsV := hbw.size
          have hchk : Chk N K (fun j => (j : Int)) (fun _ => -1) L := chk_plain (by omega) (by omega) (by omega) (fun j k _ hk => by show (k : Int) ≠ j; omega) (fun j _ => HLB.out j)
          have hwf : ∀ j, j < K → (Lit.int .i64 ((j : Nat) : Int)).wf = true := fun j hj => wf_small j (by omega)
          have HLE := Lib.hid (fun w1 (hb : Below V.heap.size V w1) => least_yes _ K _ _ L N w1 (hR9.keepb hb) hwf hchk)
          have HCH := Lib.hid (fun w1 (hb : Below V.heap.size V w1) => check_any _ K _ _ L N w1 (hR9.keepb hb) hwf)
          have HCK := Lib.hid hchk
          have HROW := Lib.hid hrow9
          have HRUN := Lib.hid hR9
          clear hR9 hrow9
          cases hdi : dist L K
          · obtain ⟨x, y, hx, hy, hne, he⟩ := dist_no L K hdi
            have hpos := moves_pos hchk hx hy hne he (HLB.out x).1
            clear hchk hwf
            generalize cmov L (casg K (fun _ => -1) L) K = M at *
            have hM : decide ((0 : Int) < (M : Int)) = true := by simp; omega
            clear he
            go_wp2_with (go_at_call 9; (with_reducible refine (HLE.out _ (by repeat' (first | (with_reducible exact Below.refl _ _) | (with_reducible refine Below.alloc ?_ ?_ _) | (with_reducible refine below_drewN ?_ _) | (with_reducible refine Below.drew ?_) | (with_reducible refine Below.setCell ?_ ?_ _) | omega | (simp; omega) | (simp; done)))).mono ?_); rintro e w3 ⟨rfl, hb3⟩)
            go_ret
            exact ⟨rfl, (by have s0_ := hbw.size; have s1_ := hb3.size; (try simp only [World.size_alloc, World.size_setCell, World.size_drew, sz_drewN] at s0_ s1_); repeat' (first | (with_reducible exact Below.refl _ _) | (with_reducible refine bel_call ?_ ?_ hb3) | (with_reducible refine bel_call ?_ ?_ hbw) | (with_reducible refine Below.alloc ?_ ?_ _) | (with_reducible refine below_drewN ?_ _) | (with_reducible refine Below.drew ?_) | (with_reducible refine Below.setCell ?_ ?_ _) | omega | (simp; omega) | (simp; done)))⟩
          · have hz : cmov L (casg K (fun _ => -1) L) K = 0 := stays_zero K _ L (fun _ _ => rfl) (fun j _ => (HLB.out j).1) ((dist_iff L K).1 hdi)
            rw [hz] at HLE
            clear hz
            by_cases hK0 : 0 < K
            · have hkp : (0 : Int) < K := by omega
              obtain ⟨at_, hat, hat1⟩ := rest_nat a2 K (by omega)
              obtain ⟨b1, b2⟩ := rest_bd a2 K (by omega)
              have q1 : IntKind.i64.wrap (a2.tmod K) = a2.tmod K := wrap_in _ (by omega) (by omega)
              have q2 : IntKind.i64.wrap (a2.tmod K + K) = a2.tmod K + K := wrap_in _ (by omega) (by omega)
              have q3 : IntKind.i64.wrap (at_ : Int) = at_ := wrap_in _ (by omega) (by omega)
              have q4 : IntKind.i64.wrap ((at_ : Int) + 1) = (at_ : Int) + 1 := wrap_in _ (by omega) (by omega)
              have zK : ¬ (K : Int) = 0 := by omega
              obtain ⟨g, off, rfl, hgb, hgs, hcc, hcl, hsp⟩ := HROW.out.some hK0
              go_upto_region 22 with (go_at_call 9; (with_reducible refine (HLE.out _ (by repeat' (first | (with_reducible exact Below.refl _ _) | (with_reducible refine Below.alloc ?_ ?_ _) | (with_reducible refine below_drewN ?_ _) | (with_reducible refine Below.drew ?_) | (with_reducible refine Below.setCell ?_ ?_ _) | omega | (simp; omega) | (simp; done)))).mono ?_); rintro e w3 ⟨rfl, hb3⟩)
              go_upto_region 23 with fail
              clear q1 q2 q3 b1 b2 hat
              have hatK : at_ < K := by omega
              have f1 : at_ ≤ cap := by omega
              have f2 : (0 : Int) ≤ (at_ : Int) + 1 ∧ (at_ : Int) + 1 ≤ K := by omega
              refine wp_region_held_drew (S := (fun _ => True)) (by kernel_rfl) trivial (fun hHeld => ?_)
              (refine wpAnyH_take (i := 1) (v := ?_) rfl (by kernel_rfl) (by kernel_rfl) (by kernel_rfl) (fun _ _ _ h => h) (Or.inl ⟨by rfl, ?_⟩) (by assumption) ?_; rotate_left; (focus (intro w hSw; (try dsimp only at hSw); go_simp; (try with_reducible rfl); done)); (try simp only [List.getElem_toArray, List.getElem_cons_succ, List.getElem_cons_zero, Act.put, List.setIfInBounds_toArray, List.set_cons_zero, List.set_cons_succ]))
              (refine wpAnyH_take (i := 2) (v := ?_) rfl (by kernel_rfl) (by kernel_rfl) (by kernel_rfl) (fun _ _ _ h => h) (Or.inl ⟨by rfl, ?_⟩) (by assumption) ?_; rotate_left; (focus (intro w hSw; (try dsimp only at hSw); go_simp; (try with_reducible rfl); done)); (try simp only [List.getElem_toArray, List.getElem_cons_succ, List.getElem_cons_zero, Act.put, List.setIfInBounds_toArray, List.set_cons_zero, List.set_cons_succ]))
              (refine wpAnyH_take (i := 5) (v := ?_) rfl (by kernel_rfl) (by kernel_rfl) (by kernel_rfl) (fun _ _ _ h => h) (Or.inl ⟨by rfl, ?_⟩) (by assumption) ?_; rotate_left; (focus (intro w hSw; (try dsimp only at hSw); go_simp; (try with_reducible rfl); done)); (try simp only [List.getElem_toArray, List.getElem_cons_succ, List.getElem_cons_zero, Act.put, List.setIfInBounds_toArray, List.set_cons_zero, List.set_cons_succ]))
              (refine wpAnyH_take (i := 6) (v := ?_) rfl (by kernel_rfl) (by kernel_rfl) (by kernel_rfl) (fun _ _ _ h => h) (Or.inl ⟨by rfl, ?_⟩) (by assumption) ?_; rotate_left; (focus (intro w hSw; (try dsimp only at hSw); go_simp; (try with_reducible rfl); done)); (try simp only [List.getElem_toArray, List.getElem_cons_succ, List.getElem_cons_zero, Act.put, List.setIfInBounds_toArray, List.set_cons_zero, List.set_cons_succ]))
              (refine wpAnyH_take (i := 7) (v := ?_) rfl (by kernel_rfl) (by kernel_rfl) (by kernel_rfl) (fun _ _ _ h => h) (Or.inl ⟨by rfl, ?_⟩) (by assumption) ?_; rotate_left; (focus (intro w hSw; (try dsimp only at hSw); go_simp; (try with_reducible rfl); done)); (try simp only [List.getElem_toArray, List.getElem_cons_succ, List.getElem_cons_zero, Act.put, List.setIfInBounds_toArray, List.set_cons_zero, List.set_cons_succ]))
              (refine wpAnyH_take (i := 3) (v := ?_) rfl (by kernel_rfl) (by kernel_rfl) (by kernel_rfl) (fun _ _ _ h => h) (Or.inl ⟨by rfl, ?_⟩) (by assumption) ?_; rotate_left; (focus (intro w hSw; (try dsimp only at hSw); go_simp; (try with_reducible rfl); done)); (try simp only [List.getElem_toArray, List.getElem_cons_succ, List.getElem_cons_zero, Act.put, List.setIfInBounds_toArray, List.set_cons_zero, List.set_cons_succ]))
              (refine wpAnyH_take (i := 8) (v := ?_) rfl (by kernel_rfl) (by kernel_rfl) (by kernel_rfl) (fun _ _ _ h => h) (Or.inl ⟨by rfl, ?_⟩) (by assumption) ?_; rotate_left; (focus (intro w hSw; (try dsimp only at hSw); go_simp; (try with_reducible rfl); done)); (try simp only [List.getElem_toArray, List.getElem_cons_succ, List.getElem_cons_zero, Act.put, List.setIfInBounds_toArray, List.set_cons_zero, List.set_cons_succ]))
              obtain ⟨off2, ho2, ho3⟩ : ∃ off2, (if cap = at_ + 1 then some (⟨g, off, none⟩ : Addr) else some ⟨g, off + (at_ + 1) * 3, none⟩) = some ⟨g, off2, none⟩ ∧ (off2 = off + (at_ + 1) * 3 ∨ cap = at_ + 1) := by
                by_cases h : cap = at_ + 1
                · exact ⟨off, by rw [if_pos h], .inr h⟩
                · exact ⟨_, by rw [if_neg h], .inl rfl⟩
              rw [ho2]
              clear ho2
              refine wpAnyH_ready (rs := [0]) (by kernel_rfl) (by simp) ?_; refine (AllReadyH.cons rfl (fun K2 hK => ?_) AllReadyH.nil)
              go_simp
              refine hK.out _ _ ?_ (fun hHeld2 => ?_); (focus (exact trivial)); clear hK K2; have hHeld := hHeld2; clear hHeld2; (try simp only [List.getElem_toArray, List.getElem_cons_succ, List.getElem_cons_zero, Act.put, List.setIfInBounds_toArray, List.set_cons_zero, List.set_cons_succ])
              obtain ⟨B, hB⟩ : ∃ B, w3.heap.size = B := ⟨_, rfl⟩
              rw [hB]
              have hvB : V.heap.size ≤ B := by have := hb3.size; omega
              obtain ⟨W1, hW1⟩ : ∃ W1, (w3.alloc (Obj.cells #[] 25)).drew = W1 := ⟨_, rfl⟩
              have hb4 : Below V.heap.size V W1 := by rw [← hW1]; exact (by have s0_ := hb3.size; (try simp only [World.size_alloc, World.size_setCell, World.size_drew, sz_drewN] at s0_); repeat' (first | (with_reducible exact Below.refl _ _) | (with_reducible refine bel_call ?_ ?_ hb3) | (with_reducible refine Below.alloc ?_ ?_ _) | (with_reducible refine below_drewN ?_ _) | (with_reducible refine Below.drew ?_) | (with_reducible refine Below.setCell ?_ ?_ _) | omega | (simp; omega) | (simp; done)))
              have hs4 : B < W1.heap.size := by rw [← hW1]; simp; omega
              rw [hW1]
              have hrow1 : RowAt W1 B 3 (.slice (some ⟨B, 0, none⟩) 0 0) 0 [] := ⟨rfl, .inr ⟨B, 0, 0, rfl, Nat.le_refl _, hs4, Nat.le_refl _, fun j hj => by omega, fun j hj => by omega⟩⟩
              clear hW1
              refine wpAnyH_ready (rs := [4]) (by kernel_rfl) (by simp) ?_; refine (AllReadyH.cons rfl (fun K2 hK => ?_) AllReadyH.nil)
              refine step_row_any _ rfl (.tmp 97) (.tmp 100) 23 rfl B 25 i0 _ 3 24 Try.underlying23 hi0 hz0 hz1 hz2 rfl (by decide) B 0 0 0 [] (by first | rfl | simp [Act.eval, Act.put]) hrow1 ⟨g, off, none⟩ at_ cap (rv (fun j => (j : Int)) (fun _ => -1) L at_) (by first | rfl | simp [Act.eval, Act.put]) (rv_len _ _ _ _) ?_ (rv_one _ _ _ _) (by unfold maxLen; omega) (by omega) (by omega) ?_
              · intro j u hj
                have hlt := (List.getElem?_eq_some_iff.1 hj).1
                rw [rv_len] at hlt
                rw [Addr.add_lit, hb4.cell (by exact hgs), hcl j (by omega), ← rv_pre _ _ _ (show at_ ≤ K by omega) j (by rw [rv_len]; omega)]
                exact hj
              intro g1 off1 cap1 w5 hrow2 hgr5
              have hb5 : Below V.heap.size V w5 := hb4.grown hgr5 (by omega) (fun j hj => by cases hj; omega)
              have s5 := hgr5.size
              clear hgr5 hrow1
              refine hK.out _ _ ?_ (fun hHeld2 => ?_); (focus (exact trivial)); clear hK K2; have hHeld := hHeld2; clear hHeld2; (try simp only [List.getElem_toArray, List.getElem_cons_succ, List.getElem_cons_zero, Act.put, List.setIfInBounds_toArray, List.set_cons_zero, List.set_cons_succ])
              refine wpAnyH_ready (rs := [9]) (by kernel_rfl) (by simp) ?_; refine (AllReadyH.cons rfl (fun K2 hK => ?_) AllReadyH.nil)
              refine step_row_any _ rfl (.tmp 101) (.tmp 105) 23 rfl B 25 i0 _ 3 24 Try.underlying23 hi0 hz0 hz1 hz2 rfl (by decide) g1 off1 _ cap1 _ (by first | rfl | simp [Act.eval, Act.put]) hrow2 ⟨g, off2, none⟩ (K - (at_ + 1)) (cap - (at_ + 1)) ((rv (fun j => (j : Int)) (fun _ => -1) L K).drop ((at_ + 1) * 3)) (by first | rfl | simp [Act.eval, Act.put]) (by rw [List.length_drop, rv_len, Nat.sub_mul]) ?_ (fun u hu => rv_one _ _ _ _ u (List.mem_of_mem_drop hu)) (by unfold maxLen; omega) (by omega) (by omega) ?_
              · intro j u hj
                have hlt := (List.getElem?_eq_some_iff.1 hj).1
                rw [List.length_drop, rv_len] at hlt
                rw [List.getElem?_drop] at hj
                have ho4 : off2 = off + (at_ + 1) * 3 := by rcases ho3 with h | h <;> omega
                rw [Addr.add_lit, hb5.cell (by exact hgs), ho4, Nat.add_assoc, hcl _ (by omega)]
                exact hj
              intro g3 off3 cap3 w6 hrow3 hgr6
              have hg1 := (hrow2.lt g1 rfl).1
              have hb6 : Below V.heap.size V w6 := hb5.grown hgr6 (by omega) (fun j hj => by cases hj; omega)
              have s6 := hgr6.size
              clear hgr6 hrow2
              refine hK.out _ _ ?_ (fun hHeld2 => ?_); (focus (exact trivial)); clear hK K2; have hHeld := hHeld2; clear hHeld2; (try simp only [List.getElem_toArray, List.getElem_cons_succ, List.getElem_cons_zero, Act.put, List.setIfInBounds_toArray, List.set_cons_zero, List.set_cons_succ])
              refine wpAnyH_ready (rs := [10]) (by kernel_rfl) (by simp) ?_; refine (AllReadyH.cons rfl (fun K2 hK => ?_) AllReadyH.nil)
              go_simp
              refine hK.out _ _ ?_ (fun hHeld2 => ?_); (focus (exact trivial)); clear hK K2; have hHeld := hHeld2; clear hHeld2; (try simp only [List.getElem_toArray, List.getElem_cons_succ, List.getElem_cons_zero, Act.put, List.setIfInBounds_toArray, List.set_cons_zero, List.set_cons_succ])
              refine wpAnyH_done (by kernel_rfl) ?_ _
              have hlen : 0 + at_ + (K - (at_ + 1)) = K - 1 := by omega
              rw [hlen, List.nil_append, left_rows L hatK] at hrow3
              have hlen2 : at_ + (K - (at_ + 1)) = K - 1 := by omega
              rw [hlen2]
              have hR6 := runs_of_row hrow3
              have hchk2 : Chk N (K - 1) (fun j => skip (fun j => (j : Int)) at_ j) (fun _ => -1) (fun j => skip L at_ j) := chk_plain (by omega) (by omega) (by omega) (fun j k _ hk => by simp only [skip]; split <;> split <;> omega) (fun j _ => by simp only [skip]; split <;> exact HLB.out _)
              have hwf2 : ∀ j, j < K - 1 → (Lit.int .i64 ((fun j => skip (fun j => (j : Int)) at_ j) j)).wf = true := fun j hj => by
                show (Lit.int .i64 (skip (fun j => (j : Int)) at_ j)).wf = true
                simp only [skip]; split
                · exact wf_small j (by omega)
                · exact wf_small (j + 1) (by omega)
              have hz2 : cmov (fun j => skip L at_ j) (casg (K - 1) (fun _ => -1) (fun j => skip L at_ j)) (K - 1) = 0 := stays_zero (K - 1) _ _ (fun _ _ => rfl) (fun j _ => by simp only [skip]; split <;> exact (HLB.out _).1) (fun j k hj hk e => by
                have hd := (dist_iff L K).1 hdi
                simp only [skip] at e
                split at e <;> split at e <;> (have := hd _ _ (by omega) (by omega) e; omega))
              have HL2 := least_yes _ (K - 1) _ _ _ N w6 hR6 hwf2 hchk2
              rw [hz2] at HL2
              have HL3 := Lib.hid HL2
              clear HL2 hz2 hwf2 hchk2 hR6 hrow3 hlen hlen2 hHeld hdi hwf hchk
              generalize (some (⟨g3, off3, none⟩ : Addr)) = p3 at *
              go_wp2_with (first | (go_at_call 9; (with_reducible refine HL3.out.mono ?_); rintro e w7 ⟨rfl, hb7⟩) | (go_at_call 10; (with_reducible refine (HCH.out _ (by have s0_ := hb6.size; have s1_ := hb7.size; (try simp only [World.size_alloc, World.size_setCell, World.size_drew, sz_drewN] at s0_ s1_); repeat' (first | (with_reducible exact Below.refl _ _) | (with_reducible refine bel_call ?_ ?_ hb7) | (with_reducible refine bel_call ?_ ?_ hb6) | (with_reducible refine Below.alloc ?_ ?_ _) | (with_reducible refine below_drewN ?_ _) | (with_reducible refine Below.drew ?_) | (with_reducible refine Below.setCell ?_ ?_ _) | omega | (simp; omega) | (simp; done)))).mono ?_); rintro e w8 ⟨⟨B', rfl, hB'⟩, hb8⟩; have hBt : B' = true := hB'.2 HCK.out; subst hBt))
              go_ret
              exact ⟨rfl, (by have s0_ := hbw.size; have s1_ := hb6.size; have s2_ := hb7.size; have s3_ := hb8.size; (try simp only [World.size_alloc, World.size_setCell, World.size_drew, sz_drewN] at s0_ s1_ s2_ s3_); repeat' (first | (with_reducible exact Below.refl _ _) | (with_reducible refine bel_call ?_ ?_ hb8) | (with_reducible refine bel_call ?_ ?_ hb7) | (with_reducible refine bel_call ?_ ?_ hb6) | (with_reducible refine bel_call ?_ ?_ hbw) | (with_reducible refine Below.alloc ?_ ?_ _) | (with_reducible refine below_drewN ?_ _) | (with_reducible refine Below.drew ?_) | (with_reducible refine Below.setCell ?_ ?_ _) | omega | (simp; omega) | (simp; done)))⟩
            · have hkp : ¬ (0 : Int) < K := by omega
              go_wp2_with (first | (go_at_call 9; (with_reducible refine (HLE.out _ (by repeat' (first | (with_reducible exact Below.refl _ _) | (with_reducible refine Below.alloc ?_ ?_ _) | (with_reducible refine below_drewN ?_ _) | (with_reducible refine Below.drew ?_) | (with_reducible refine Below.setCell ?_ ?_ _) | omega | (simp; omega) | (simp; done)))).mono ?_); rintro e w3 ⟨rfl, hb3⟩) | (go_at_call 10; (with_reducible refine (HCH.out _ (by have s0_ := hb3.size; (try simp only [World.size_alloc, World.size_setCell, World.size_drew, sz_drewN] at s0_); repeat' (first | (with_reducible exact Below.refl _ _) | (with_reducible refine bel_call ?_ ?_ hb3) | (with_reducible refine Below.alloc ?_ ?_ _) | (with_reducible refine below_drewN ?_ _) | (with_reducible refine Below.drew ?_) | (with_reducible refine Below.setCell ?_ ?_ _) | omega | (simp; omega) | (simp; done)))).mono ?_); rintro e w4 ⟨⟨B, rfl, hB⟩, hb4⟩; have hBt : B = true := hB.2 HCK.out; subst hBt))
              go_ret
              exact ⟨rfl, (by have s0_ := hbw.size; have s1_ := hb3.size; have s2_ := hb4.size; (try simp only [World.size_alloc, World.size_setCell, World.size_drew, sz_drewN] at s0_ s1_ s2_); repeat' (first | (with_reducible exact Below.refl _ _) | (with_reducible refine bel_call ?_ ?_ hb4) | (with_reducible refine bel_call ?_ ?_ hb3) | (with_reducible refine bel_call ?_ ?_ hbw) | (with_reducible refine Below.alloc ?_ ?_ _) | (with_reducible refine below_drewN ?_ _) | (with_reducible refine Below.drew ?_) | (with_reducible refine Below.setCell ?_ ?_ _) | omega | (simp; omega) | (simp; done)))⟩
end Go.Proofs.Ytnjdomfhjhlamaa
