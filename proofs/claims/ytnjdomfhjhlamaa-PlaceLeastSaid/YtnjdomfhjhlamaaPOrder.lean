/- The walk of the law PlaceOrder. -/
import Derived.Test.YtnjdomfhjhlamaaPo
namespace Go.Proofs.Ytnjdomfhjhlamaa
open Go.RowKit
set_option linter.unusedVariables false
set_option linter.unusedSimpArgs false

theorem wf_bd (x : Int) (h : -100000 ≤ x ∧ x ≤ 100000) : (Lit.int .i64 x).wf = true := by
  have a : IntKind.min .i64 = -9223372036854775808 := by decide
  have b : IntKind.max .i64 = 9223372036854775807 := by decide
  simp only [Lit.wf, a, b, Bool.and_eq_true, decide_eq_true_eq]
  omega
theorem flat_keep {w w' : World} {v : Value} {n c : Nat} {Z : Nat → Int} (h : Flat w v n c Z) (k : Below w.heap.size w w') : Flat w' v n c Z := by
  obtain ⟨p, cap, hv, h1, h2, h3⟩ := h
  refine ⟨p, cap, hv, h1, h2, fun hn => ?_⟩
  obtain ⟨g, off, hp, hg, hj⟩ := h3 hn
  exact ⟨g, off, hp, Nat.lt_of_lt_of_le hg k.size, fun j hj2 => ⟨(k.cell (p := ⟨g, off + j, none⟩) hg).trans (hj j hj2).1, (hj j hj2).2⟩⟩
theorem chk_ids {m : Int} {n : Nat} {D D' Pn La : Nat → Int} (h : Chk m n D Pn La) (hd : ∀ i k, i < n → k < i → D' k ≠ D' i) : Chk m n D' Pn La :=
  ⟨h.1, h.2.1, h.2.2.1, fun i hi => ⟨(h.2.2.2 i hi).1, (h.2.2.2 i hi).2.1, fun k hk => hd i k hi hk, (h.2.2.2 i hi).2.2.2⟩⟩
/-- Runners, and one more, who is pinned to none and ran on none. -/
def more (f : Nat → Int) (n : Nat) (x : Int) (j : Nat) : Int := if j < n then f j else x
theorem more_lt (f : Nat → Int) {n j : Nat} (x : Int) (h : j < n) : more f n x j = f j := if_pos h
theorem more_at (f : Nat → Int) (n : Nat) (x : Int) : more f n x n = x := if_neg (Nat.lt_irrefl _)
theorem chk_more {m : Int} {n : Nat} {D Pn La : Nat → Int} {x : Int} (h : Chk m n D Pn La) (hn : (n : Int) < m) (hd : ∀ k, k < n → D k ≠ x) : Chk m (n + 1) (more D n x) (more Pn n (-1)) (more La n (-1)) := by
  refine ⟨h.1, h.2.1, by omega, fun i hi => ?_⟩
  by_cases e : i < n
  · obtain ⟨a, b, c, d⟩ := h.2.2.2 i e
    rw [more_lt _ _ e, more_lt _ _ e, more_lt _ _ e]
    exact ⟨a, b, fun k hk => by rw [more_lt _ _ (by omega)]; exact c k hk, fun hp k hk => by rw [more_lt _ _ (by omega)]; exact d hp k hk⟩
  · obtain rfl : i = n := by omega
    rw [more_at, more_at, more_at]
    exact ⟨⟨Int.le_refl _, by omega⟩, ⟨Int.le_refl _, by omega⟩, fun k hk => by rw [more_lt _ _ hk]; exact hd k hk, fun hp => absurd rfl hp⟩
theorem rv_more (D Pn La : Nat → Int) (n : Nat) (x : Int) : rv D Pn La n ++ [.int .i64 x, .int .i64 (-1), .int .i64 (-1)] = rv (more D n x) (more Pn n (-1)) (more La n (-1)) (n + 1) := by
  show _ = rv _ _ _ n ++ [.int .i64 (more D n x n), .int .i64 (more Pn n (-1) n), .int .i64 (more La n (-1) n)]
  rw [more_at, more_at, more_at, rv_congr n (fun j hj => ⟨(more_lt D x hj).symm, (more_lt Pn (-1) hj).symm, (more_lt La (-1) hj).symm⟩)]
/-- IDs behind i rounds of the law's own. -/
def oid (i j : Nat) : Int := if j < i then 1000 - 7 * j else j
theorem oid_succ (i : Nat) : (fun j => if j = i then (1000 - 7 * (i : Int)) else oid i j) = oid (i + 1) := by
  funext j
  unfold oid
  by_cases e : j = i
  · subst e; rw [if_pos rfl, if_pos (by omega)]
  · rw [if_neg e]
    by_cases h : j < i
    · rw [if_pos h, if_pos (by omega)]
    · rw [if_neg h, if_neg (by omega)]

set_option maxRecDepth 8000 in
set_option maxHeartbeats 12800000 in
theorem walk_PlaceOrder (v0 : Value) (n0 : Nat) (Z0 : Nat → Int) (a1 : Int) (w : World) (_f0 : Flat w v0 n0 2 Z0) (_f1 : (Lit.int .i64 a1).wf = true) :
    Calls Try.prog 4 #[v0, .int .i64 a1] w fun e w' => e = .returned (.bool true) ∧ Below w.heap.size w w' := by
  obtain ⟨b1, b2⟩ := rest_bd a1 19 (by omega)
  obtain ⟨N0, hN0, hN1⟩ := rest_nat a1 19 (by omega)
  obtain ⟨N, hN, n1, n2⟩ : ∃ N : Nat, (2 : Int) + N0 = N ∧ 2 ≤ N ∧ N ≤ 20 := ⟨2 + N0, by omega, by omega, by omega⟩
  have w1 : IntKind.i64.wrap (a1.tmod 19 + 19) = a1.tmod 19 + 19 := wrap_in _ (by omega) (by omega)
  have w2 : IntKind.i64.wrap (a1.tmod 19) = a1.tmod 19 := wrap_in _ (by omega) (by omega)
  have w3 : IntKind.i64.wrap (N0 : Int) = N0 := wrap_in _ (by omega) (by omega)
  have w4 : IntKind.i64.wrap ((2 : Int) + N0) = 2 + N0 := wrap_in _ (by omega) (by omega)
  obtain ⟨p, cap, rfl, hcap, hmax, hr⟩ := id _f0
  have HF := Lib.hid _f0
  clear _f0 hr
  obtain ⟨k, hk⟩ : ∃ k, min n0 N = k := ⟨_, rfl⟩
  have hkN : k ≤ N := by omega
  obtain ⟨Pn, hPn⟩ : ∃ f, mpn (fun j => Z0 (j * 2)) N = f := ⟨_, rfl⟩
  obtain ⟨La, hLa⟩ : ∃ f, mla (fun j => Z0 (j * 2 + 1)) N = f := ⟨_, rfl⟩
  have hchk : Chk N k (fun j => (j : Int)) Pn La := by rw [← hPn, ← hLa]; exact made_chk _ _ N k (by omega) (by omega) hkN
  have HCHK := Lib.hid hchk
  clear hchk
  go_enter Try.func4, Try.ntmps4
  go_upto_region 4 with (first
    | (go_at_call 8; (with_reducible refine (awake15 _).mono ?_); rintro e wa ⟨rfl, hba⟩)
    | (go_at_call 11; (with_reducible refine (made_any _ n0 N Z0 _ (flat_keep HF.out (by have s0_ := hba.size; (try simp only [World.size_alloc, World.size_setCell, World.size_drew, sz_drewN] at s0_); repeat' (first | (with_reducible exact Below.refl _ _) | (with_reducible refine bel_call ?_ ?_ hba) | (with_reducible refine Below.alloc ?_ ?_ _) | (with_reducible refine below_drewN ?_ _) | (with_reducible refine Below.drew ?_) | (with_reducible refine Below.setCell ?_ ?_ _) | omega | (simp; omega) | (simp; done)))) (by omega) (by omega)).mono ?_); rintro e wb ⟨⟨r, rfl, hrow⟩, hbb⟩))
  rw [hk, hPn, hLa] at hrow
  have sa := hba.size
  have sb := hbb.size
  obtain ⟨pr, capr, rfl⟩ := hrow.form
  have hR := runs_of_row hrow
  have hwf : ∀ j, j < k → (Lit.int .i64 ((j : Nat) : Int)).wf = true := fun j hj => wf_small j (by omega)
  have HASG := Lib.hid (fun w1 (hb : Below wb.heap.size wb w1) => assign_yes _ k _ _ _ N w1 (hR.keepb hb) hwf HCHK.out)
  have HLE := Lib.hid (fun w1 (hb : Below wb.heap.size wb w1) => least_yes _ k _ _ _ N w1 (hR.keepb hb) hwf HCHK.out)
  have HROW := Lib.hid hrow
  have HLT := Lib.hid (fun g hg => hrow.lt g hg)
  clear hR hrow hwf
  have hbw : Below w.heap.size w wb := (by have s0_ := hba.size; have s1_ := hbb.size; (try simp only [World.size_alloc, World.size_setCell, World.size_drew, sz_drewN] at s0_ s1_); repeat' (first | (with_reducible exact Below.refl _ _) | (with_reducible refine bel_call ?_ ?_ hbb) | (with_reducible refine bel_call ?_ ?_ hba) | (with_reducible refine Below.alloc ?_ ?_ _) | (with_reducible refine below_drewN ?_ _) | (with_reducible refine Below.drew ?_) | (with_reducible refine Below.setCell ?_ ?_ _) | omega | (simp; omega) | (simp; done)))
  obtain ⟨i0, hi0, hz0, hz1, hz2⟩ := info_runner
  go_upto_region 5 with (go_at_call 12; (with_reducible refine (HASG.out _ (by repeat' (first | (with_reducible exact Below.refl _ _) | (with_reducible refine Below.alloc ?_ ?_ _) | (with_reducible refine below_drewN ?_ _) | (with_reducible refine Below.drew ?_) | (with_reducible refine Below.setCell ?_ ?_ _) | omega | (simp; omega) | (simp; done)))).mono ?_); rintro e wc ⟨⟨gc, rfl, hgc, hcl, ggc⟩, hbc⟩)
  have sc := hbc.size
  have hC := runs_ints hgc hcl
  have HC := Lib.hid hC
  clear hC hcl w1 w2 w3 w4
  obtain ⟨B, hB⟩ : ∃ B, wc.heap.size = B := ⟨_, rfl⟩
  have hrowR : RowAt (wc.alloc (Obj.cells #[] 25)) wa.heap.size 3 (.slice pr k capr) k (rv (fun j => (j : Int)) Pn La k) := (HROW.out.block hbc.size (fun g hg => hbc.block g (HLT.out g hg).2)).alloc _
  have hrow1 : RowAt (wc.alloc (Obj.cells #[] 25)) B 3 (.slice (some ⟨B, 0, none⟩) 0 0) 0 [] := ⟨rfl, .inr ⟨B, 0, 0, rfl, Nat.le_refl _, by simp; omega, Nat.le_refl _, fun j hj => by omega, fun j hj => by omega⟩⟩
  have HRR := Lib.hid hrowR
  have HR1 := Lib.hid hrow1
  clear hrowR hrow1
  go_upto_region 6 with (at_builtin; refine wpList_row_of _ rfl _ _ 23 rfl B wa.heap.size 25 i0 _ 3 24 Try.underlying23 hi0 hz0 hz1 hz2 rfl (by decide) B 0 0 0 [] (by rw [← hB]; rfl) HR1.out _ k _ rfl HRR.out (rv_one _ _ _ _) (by unfold maxLen; omega) (by omega) (by simp; omega) ?_; intro gs os caps w5 hrow5 hgr5)
  rw [Nat.zero_add, List.nil_append] at hrow5
  have hb5a : Below wc.heap.size wc (wc.alloc (Obj.cells #[] 25)) := (by repeat' (first | (with_reducible exact Below.refl _ _) | (with_reducible refine Below.alloc ?_ ?_ _) | (with_reducible refine below_drewN ?_ _) | (with_reducible refine Below.drew ?_) | (with_reducible refine Below.setCell ?_ ?_ _) | omega | (simp; omega) | (simp; done)))
  have hb5 : Below wc.heap.size wc w5 := hb5a.grown hgr5 (by simp) (fun j hj => by cases hj; omega)
  clear hgr5 HRR HR1 HROW
  go_wp2
  go_loopw [11] (fun s11 wr => ∃ i : Nat, s11 = .int .i64 i ∧ i ≤ k ∧ RowAt wr B 3 (.slice (some ⟨gs, os, none⟩) k caps) k (rv (oid i) Pn La k) ∧ Below wc.heap.size wc wr) (fun s11 _ => 4000 - (intOf s11).toNat)
  case atStart => exact ⟨0, rfl, by omega, hrow5, hb5⟩
  case round =>
    clear hrow5 hb5
    obtain ⟨i, rfl, hi, hrow, hbv⟩ := hrel
    have hs := hbv.size
    by_cases hlt : i < k
    · have il : (i : Int) < k := by omega
      have wk : IntKind.i64.wrap ((i : Int) + 1) = (i : Int) + 1 := wrap_in _ (by omega) (by omega)
      have q1 : IntKind.i64.wrap ((7 : Int) * i) = (7 : Int) * i := wrap_in _ (by omega) (by omega)
      have q2 : IntKind.i64.wrap ((1000 : Int) - 7 * i) = (1000 : Int) - 7 * i := wrap_in _ (by omega) (by omega)
      obtain ⟨_, _, e1, hgB, hgs, hcc, hcl, hsp⟩ := hrow.some (by omega : 0 < k)
      cases e1
      obtain ⟨cv, hcv⟩ := Option.isSome_iff_exists.1 (hsp (i * 3) (by omega)).1
      have hfr := (hsp (i * 3) (by omega)).2
      have hset := hrow.setCell (i * 3) (by omega) (.int .i64 (1000 - 7 * (i : Int)))
      rw [rv_set _ _ _ _ _ _ hlt, oid_succ] at hset
      have hb6 : Below wc.heap.size wc (wr.setCell ⟨gs, os + i * 3, none⟩ (.int .i64 (1000 - 7 * (i : Int)))) := hbv.setCell (by show wc.heap.size ≤ gs; omega) _
      have HSET := Lib.hid hset
      clear hcl hsp hset hrow
      go_wp2
      go_roundw
      case rel => exact ⟨i + 1, by go_num, by omega, HSET.out, hb6⟩
      case measure => (simp [intOf] <;> omega)
    · have hik : i = k := by omega
      subst hik
      have il : ¬ (i : Int) < i := by omega
      obtain ⟨w9, rfl⟩ : ∃ x, x = wr := ⟨wr, rfl⟩
      have hRs := runs_of_row hrow
      have hchk2 : Chk N i (oid i) Pn La := chk_ids HCHK.out (fun a b ha hb => by unfold oid; rw [if_pos (by omega), if_pos (by omega)]; omega)
      have hwf2 : ∀ j, j < i → (Lit.int .i64 (oid i j)).wf = true := fun j hj => wf_bd _ (by unfold oid; rw [if_pos hj]; omega)
      have HAS := Lib.hid (fun w1 (hb : Below w9.heap.size w9 w1) => assign_yes _ i _ _ _ N w1 (hRs.keepb hb) hwf2 hchk2)
      have HROW := Lib.hid hrow
      clear hRs hrow hchk2 hwf2
      have hbcv : Below wb.heap.size wb w9 := (by have s0_ := hbc.size; have s1_ := hbv.size; (try simp only [World.size_alloc, World.size_setCell, World.size_drew, sz_drewN] at s0_ s1_); repeat' (first | (with_reducible exact Below.refl _ _) | (with_reducible refine bel_call ?_ ?_ hbv) | (with_reducible refine bel_call ?_ ?_ hbc) | (with_reducible refine Below.alloc ?_ ?_ _) | (with_reducible refine below_drewN ?_ _) | (with_reducible refine Below.drew ?_) | (with_reducible refine Below.setCell ?_ ?_ _) | omega | (simp; omega) | (simp; done)))
      have hs9 := hbv.size
      go_upto_region 11 with (go_at_call 12; (with_reducible refine (HAS.out _ (by repeat' (first | (with_reducible exact Below.refl _ _) | (with_reducible refine Below.alloc ?_ ?_ _) | (with_reducible refine below_drewN ?_ _) | (with_reducible refine Below.drew ?_) | (with_reducible refine Below.setCell ?_ ?_ _) | omega | (simp; omega) | (simp; done)))).mono ?_); rintro e wd ⟨⟨gd, rfl, hgd, hcd, ggd⟩, hbd⟩)
      have sd := hbd.size
      have hD := runs_ints hgd hcd
      have HD := Lib.hid hD
      clear hD hcd
      have HC9 := Lib.hid ((HC.out.keepb hbv).keepb hbd)
      by_cases hkN2 : i = N
      · have hkt : ((i : Int) == N) = true := by simp; omega
        clear hkN2
        go_wp2_with (go_at_call 13; (with_reducible refine (same15 _ _ i _ _ (HC9.out.keepb (by repeat' (first | (with_reducible exact Below.refl _ _) | (with_reducible refine Below.alloc ?_ ?_ _) | (with_reducible refine below_drewN ?_ _) | (with_reducible refine Below.drew ?_) | (with_reducible refine Below.setCell ?_ ?_ _) | omega | (simp; omega) | (simp; done)))) (HD.out.keepb (by repeat' (first | (with_reducible exact Below.refl _ _) | (with_reducible refine Below.alloc ?_ ?_ _) | (with_reducible refine below_drewN ?_ _) | (with_reducible refine Below.drew ?_) | (with_reducible refine Below.setCell ?_ ?_ _) | omega | (simp; omega) | (simp; done)))) (by omega)).mono ?_); rintro e we ⟨rfl, hbe⟩)
        go_ret
        exact ⟨rfl, (by have s0_ := hbw.size; have s1_ := hbcv.size; have s2_ := hbd.size; have s3_ := hbe.size; (try simp only [World.size_alloc, World.size_setCell, World.size_drew, sz_drewN] at s0_ s1_ s2_ s3_); repeat' (first | (with_reducible exact Below.refl _ _) | (with_reducible refine bel_call ?_ ?_ hbe) | (with_reducible refine bel_call ?_ ?_ hbd) | (with_reducible refine bel_call ?_ ?_ hbcv) | (with_reducible refine bel_call ?_ ?_ hbw) | (with_reducible refine Below.alloc ?_ ?_ _) | (with_reducible refine below_drewN ?_ _) | (with_reducible refine Below.drew ?_) | (with_reducible refine Below.setCell ?_ ?_ _) | omega | (simp; omega) | (simp; done)))⟩
      · have hkt : ((i : Int) == N) = false := by rw [beq_eq_false_iff_ne]; omega
        have hchk3 : Chk N (i + 1) (more (oid i) i (-1)) (more Pn i (-1)) (more La i (-1)) := chk_more (chk_ids HCHK.out (fun a b ha hb => by unfold oid; rw [if_pos (by omega), if_pos (by omega)]; omega)) (by omega) (fun a ha => by unfold oid; rw [if_pos ha]; omega)
        have hwf3 : ∀ j, j < i + 1 → (Lit.int .i64 (more (oid i) i (-1) j)).wf = true := fun j hj => wf_bd _ (by unfold more oid; split <;> omega)
        have HCH3 := Lib.hid hchk3
        have HWF3 := Lib.hid hwf3
        clear hchk3 hwf3
        go_upto_region 16 with (go_at_call 13; (with_reducible refine (same15 _ _ i _ _ (HC9.out.keepb (by repeat' (first | (with_reducible exact Below.refl _ _) | (with_reducible refine Below.alloc ?_ ?_ _) | (with_reducible refine below_drewN ?_ _) | (with_reducible refine Below.drew ?_) | (with_reducible refine Below.setCell ?_ ?_ _) | omega | (simp; omega) | (simp; done)))) (HD.out.keepb (by repeat' (first | (with_reducible exact Below.refl _ _) | (with_reducible refine Below.alloc ?_ ?_ _) | (with_reducible refine below_drewN ?_ _) | (with_reducible refine Below.drew ?_) | (with_reducible refine Below.setCell ?_ ?_ _) | omega | (simp; omega) | (simp; done)))) (by omega)).mono ?_); rintro e we ⟨rfl, hbe⟩)
        have se := hbe.size
        have hrowe : RowAt we B 3 (.slice (some ⟨gs, os, none⟩) i caps) i (rv (oid i) Pn La i) := (HROW.out.block (by omega) (fun g hg => (hbe.block g (by have := (HROW.out.lt g hg).2; omega)).trans (hbd.block g (HROW.out.lt g hg).2)))
        have hrp : RowAt (we.alloc (Obj.cells #[.int .i64 (-1), .int .i64 (-1), .int .i64 (-1)] 25)) B 3 (.slice (some ⟨gs, os, none⟩) i caps) i (rv (oid i) Pn La i) := hrowe.alloc _
        have HRP := Lib.hid hrp
        clear hrp hrowe
        go_upto_region 17 with (at_builtin; refine wpList_row_lies _ rfl _ _ 23 rfl B 25 i0 _ 3 24 Try.underlying23 hi0 hz0 hz1 hz2 rfl (by decide) _ i _ rfl HRP.out ⟨we.heap.size, 0, none⟩ 1 1 [.int .i64 (-1), .int .i64 (-1), .int .i64 (-1)] rfl rfl (fun j u hj => by
          match j, hj with
          | 0, hj => simp at hj; subst hj; simp [Addr.add]
          | 1, hj => simp at hj; subst hj; simp [Addr.add]
          | 2, hj => simp at hj; subst hj; simp [Addr.add]
          | j + 3, hj => simp at hj) (fun u hu => by simp at hu; subst hu; rfl) (by omega) (by unfold maxLen; omega) (by omega) (by simp; omega) ?_; intro gm om capm w6 hrow6 hgr6 _ _)
        have hb6a : Below wc.heap.size we (we.alloc (Obj.cells #[.int .i64 (-1), .int .i64 (-1), .int .i64 (-1)] 25)) := (Below.refl _ _).alloc (by omega) _
        have hb6 : Below wc.heap.size we w6 := hb6a.grown hgr6 (by simp; omega) (fun j hj => by have := (HROW.out.lt j hj).1; omega)
        clear hgr6 HRP
        have hbw6 : Below wb.heap.size wb w6 := Below.trans ((by have s0_ := hbcv.size; have s1_ := hbd.size; have s2_ := hbe.size; (try simp only [World.size_alloc, World.size_setCell, World.size_drew, sz_drewN] at s0_ s1_ s2_); repeat' (first | (with_reducible exact Below.refl _ _) | (with_reducible refine bel_call ?_ ?_ hbe) | (with_reducible refine bel_call ?_ ?_ hbd) | (with_reducible refine bel_call ?_ ?_ hbcv) | (with_reducible refine Below.alloc ?_ ?_ _) | (with_reducible refine below_drewN ?_ _) | (with_reducible refine Below.drew ?_) | (with_reducible refine Below.setCell ?_ ?_ _) | omega | (simp; omega) | (simp; done)))) (hb6.mono (by omega))
        rw [rv_more] at hrow6
        have HLM := Lib.hid (least_yes _ (i + 1) _ _ _ N w6 (runs_of_row hrow6) HWF3.out HCH3.out)
        rw [least_more i Pn La (more Pn i (-1)) (more La i (-1)) (fun j hj => ⟨more_lt _ _ hj, more_lt _ _ hj⟩) (more_at _ _ _) (more_at _ _ _)] at HLM
        clear hrow6
        generalize cmov La (casg i Pn La) i = LM at *
        have hLL : ((LM : Int) == LM) = true := by simp
        go_wp2_with (first
          | (go_at_call 9; (with_reducible refine HLM.out.mono ?_); rintro e w7 ⟨rfl, hb7⟩)
          | (go_at_call 9; (with_reducible refine (HLE.out _ (by have s0_ := hbw6.size; have s1_ := hb7.size; (try simp only [World.size_alloc, World.size_setCell, World.size_drew, sz_drewN] at s0_ s1_); repeat' (first | (with_reducible exact Below.refl _ _) | (with_reducible refine bel_call ?_ ?_ hb7) | (with_reducible refine bel_call ?_ ?_ hbw6) | (with_reducible refine Below.alloc ?_ ?_ _) | (with_reducible refine below_drewN ?_ _) | (with_reducible refine Below.drew ?_) | (with_reducible refine Below.setCell ?_ ?_ _) | omega | (simp; omega) | (simp; done)))).mono ?_); rintro e w8 ⟨rfl, hb8⟩))
        go_ret
        exact ⟨rfl, (by have s0_ := hbw.size; have s1_ := hbw6.size; have s2_ := hb7.size; have s3_ := hb8.size; (try simp only [World.size_alloc, World.size_setCell, World.size_drew, sz_drewN] at s0_ s1_ s2_ s3_); repeat' (first | (with_reducible exact Below.refl _ _) | (with_reducible refine bel_call ?_ ?_ hb8) | (with_reducible refine bel_call ?_ ?_ hb7) | (with_reducible refine bel_call ?_ ?_ hbw6) | (with_reducible refine bel_call ?_ ?_ hbw) | (with_reducible refine Below.alloc ?_ ?_ _) | (with_reducible refine below_drewN ?_ _) | (with_reducible refine Below.drew ?_) | (with_reducible refine Below.setCell ?_ ?_ _) | omega | (simp; omega) | (simp; done)))⟩
end Go.Proofs.Ytnjdomfhjhlamaa
