/- The walk of the law PlaceLeast. -/
import Derived.Test.YtnjdomfhjhlamaaBw
import Derived.Test.YtnjdomfhjhlamaaPu
import Derived.Test.YtnjdomfhjhlamaaPHolds
namespace Go.Proofs.Ytnjdomfhjhlamaa
open Go.RowKit
set_option linter.unusedVariables false
set_option linter.unusedSimpArgs false

set_option maxRecDepth 8000 in
set_option maxHeartbeats 12800000 in
theorem walk_PlaceLeast (v0 : Value) (n0 : Nat) (Z0 : Nat → Int) (a1 : Int) (w : World) (_f0 : Flat w v0 n0 2 Z0) (_f1 : (Lit.int .i64 a1).wf = true) :
    Calls Try.prog 6 #[v0, .int .i64 a1] w fun e w' => e = .returned (.bool true) ∧ Below w.heap.size w w' := by
  have hmask : bits .and .i64 a1 3 = a1 % 4 := i64_mask 2 (by decide) a1
  obtain ⟨q, hq, q0, q1⟩ : ∃ q, bits .and .i64 a1 3 = q ∧ 0 ≤ q ∧ q ≤ 3 := ⟨_, rfl, by rw [hmask]; omega, by rw [hmask]; omega⟩
  obtain ⟨N, hN, n1, n2⟩ : ∃ N : Nat, (1 : Int) + q = N ∧ 1 ≤ N ∧ N ≤ 4 := ⟨(1 + q).toNat, by omega, by omega, by omega⟩
  have w4 : IntKind.i64.wrap ((1 : Int) + q) = N := by rw [hN]; exact wrap_in _ (by omega) (by omega)
  obtain ⟨p, cap, rfl, hcap, hmax, hr⟩ := id _f0
  have HF := Lib.hid _f0
  clear _f0 hr hmask
  obtain ⟨k, hk⟩ : ∃ k, min n0 N = k := ⟨_, rfl⟩
  have hkN : k ≤ N := by omega
  obtain ⟨Pn, hPn⟩ : ∃ f, mpn (fun j => Z0 (j * 2)) N = f := ⟨_, rfl⟩
  obtain ⟨La, hLa⟩ : ∃ f, mla (fun j => Z0 (j * 2 + 1)) N = f := ⟨_, rfl⟩
  have hchk : Chk N k (fun j => (j : Int)) Pn La := by rw [← hPn, ← hLa]; exact made_chk _ _ N k (by omega) (by omega) hkN
  have HCHK := Lib.hid hchk
  have hbest := best_is hchk (by omega) (fun _ => 0)
  have HBEST := Lib.hid hbest
  clear hchk hbest
  go_enter Try.func6, Try.ntmps6
  go_upto_region 4 with (first
    | (go_at_call 8; (with_reducible refine (awake15 _).mono ?_); rintro e wa ⟨rfl, hba⟩)
    | (go_at_call 11; (with_reducible refine (made_any _ n0 N Z0 _ (flat_keep HF.out (by have s0_ := hba.size; (try simp only [World.size_alloc, World.size_setCell, World.size_drew, sz_drewN] at s0_); repeat' (first | (with_reducible exact Below.refl _ _) | (with_reducible refine bel_call ?_ ?_ hba) | (with_reducible refine Below.alloc ?_ ?_ _) | (with_reducible refine below_drewN ?_ _) | (with_reducible refine Below.drew ?_) | (with_reducible refine Below.setCell ?_ ?_ _) | omega | (simp; omega) | (simp; done)))) (by omega) (by omega)).mono ?_); rintro e wb ⟨⟨r, rfl, hrow⟩, hbb⟩))
  rw [hk, hPn, hLa] at hrow
  have sa := hba.size
  have sb := hbb.size
  obtain ⟨pr, capr, rfl⟩ := hrow.form
  have hR := runs_of_row hrow
  have hwf : ∀ j, j < k → (Lit.int .i64 ((j : Nat) : Int)).wf = true := fun j hj => wf_small j (by omega)
  have HASG := Lib.hid (fun w1 (hb : Below wb.heap.size wb w1) => assign_yes _ k _ _ _ N w1 (hR.keepb hb) hwf HCHK.out)
  have HRUN := Lib.hid hR
  have HWF := Lib.hid hwf
  clear hR hrow hwf
  have hbw : Below w.heap.size w wb := (by have s0_ := hba.size; have s1_ := hbb.size; (try simp only [World.size_alloc, World.size_setCell, World.size_drew, sz_drewN] at s0_ s1_); repeat' (first | (with_reducible exact Below.refl _ _) | (with_reducible refine bel_call ?_ ?_ hbb) | (with_reducible refine bel_call ?_ ?_ hba) | (with_reducible refine Below.alloc ?_ ?_ _) | (with_reducible refine below_drewN ?_ _) | (with_reducible refine Below.drew ?_) | (with_reducible refine Below.setCell ?_ ?_ _) | omega | (simp; omega) | (simp; done)))
  go_upto_region 5 with (go_at_call 12; (with_reducible refine (HASG.out _ (by repeat' (first | (with_reducible exact Below.refl _ _) | (with_reducible refine Below.alloc ?_ ?_ _) | (with_reducible refine below_drewN ?_ _) | (with_reducible refine Below.drew ?_) | (with_reducible refine Below.setCell ?_ ?_ _) | omega | (simp; omega) | (simp; done)))).mono ?_); rintro e wc ⟨⟨gc, rfl, hgc, hcl, ggc⟩, hbc⟩)
  have sc := hbc.size
  have hC := runs_ints hgc hcl
  have hRc := HRUN.out.keepb hbc
  have HHO := Lib.hid (fun w1 (hb : Below wc.heap.size wc w1) => holds_any _ _ k k _ _ _ _ N w1 (hRc.keepb hb) (hC.keepb hb) HWF.out (by omega) (by omega))
  have HRH := Lib.hid (rholds_any _ _ k k _ _ _ _ N wc hRc hC (by omega) (by omega))
  have hmv := fun w1 (hb : Below wc.heap.size wc w1) => moves_any _ _ k k _ _ _ _ w1 (hRc.keepb hb) (hC.keepb hb) (by omega) (by omega)
  rw [Nat.min_self] at hmv
  have hls := fun w1 (hb : Below wc.heap.size wc w1) => least_yes _ k _ _ _ N w1 (hRc.keepb hb) HWF.out HCHK.out
  have hbs := fun w1 (hb : Below wc.heap.size wc w1) => best_any _ k N _ _ _ (by omega) (by omega) k 0 (.slice none 0 0) (fun _ => 0) w1 (by omega) (hRc.keepb hb) ⟨none, 0, rfl, Nat.le_refl _, fun h => by omega⟩ (fun _ => rfl)
  rw [HBEST.out] at hbs
  generalize cmov La (casg k Pn La) k = M at *
  have HMV := Lib.hid hmv
  have HLS := Lib.hid hls
  have HBS := Lib.hid hbs
  have HHLD := Lib.hid (casg_hld HCHK.out)
  clear hmv hls hbs hC hRc hcl w4 HASG HRUN
  go_upto_region 6 with (go_at_call 16; (with_reducible refine HRH.out.mono ?_); rintro e wd ⟨⟨B, rfl, hB⟩, hbd⟩; have hBt : B = true := hB.2 HHLD.out; subst hBt; clear hB)
  go_wp2_with (first
    | (go_at_call 17; (with_reducible refine (HHO.out _ (by have s0_ := hbd.size; (try simp only [World.size_alloc, World.size_setCell, World.size_drew, sz_drewN] at s0_); repeat' (first | (with_reducible exact Below.refl _ _) | (with_reducible refine bel_call ?_ ?_ hbd) | (with_reducible refine Below.alloc ?_ ?_ _) | (with_reducible refine below_drewN ?_ _) | (with_reducible refine Below.drew ?_) | (with_reducible refine Below.setCell ?_ ?_ _) | omega | (simp; omega) | (simp; done)))).mono ?_); rintro e we ⟨⟨B, rfl, hB⟩, hbe⟩; have hBt : B = true := hB.2 HHLD.out; subst hBt; clear hB)
    | (go_at_call 18; (with_reducible refine (HMV.out _ (by have s0_ := hbd.size; have s1_ := hbe.size; have s2_ := hbf.size; have s3_ := hbg.size; have s4_ := hbl.size; (try simp only [World.size_alloc, World.size_setCell, World.size_drew, sz_drewN] at s0_ s1_ s2_ s3_ s4_); repeat' (first | (with_reducible exact Below.refl _ _) | (with_reducible refine bel_call ?_ ?_ hbl) | (with_reducible refine bel_call ?_ ?_ hbg) | (with_reducible refine bel_call ?_ ?_ hbf) | (with_reducible refine bel_call ?_ ?_ hbe) | (with_reducible refine bel_call ?_ ?_ hbd) | (with_reducible refine Below.alloc ?_ ?_ _) | (with_reducible refine below_drewN ?_ _) | (with_reducible refine Below.drew ?_) | (with_reducible refine Below.setCell ?_ ?_ _) | omega | (simp; omega) | (simp; done)))).mono ?_); rintro e wm ⟨rfl, hbm⟩)
    | (go_at_call 18; (with_reducible refine (HMV.out _ (by have s0_ := hbd.size; have s1_ := hbe.size; (try simp only [World.size_alloc, World.size_setCell, World.size_drew, sz_drewN] at s0_ s1_); repeat' (first | (with_reducible exact Below.refl _ _) | (with_reducible refine bel_call ?_ ?_ hbe) | (with_reducible refine bel_call ?_ ?_ hbd) | (with_reducible refine Below.alloc ?_ ?_ _) | (with_reducible refine below_drewN ?_ _) | (with_reducible refine Below.drew ?_) | (with_reducible refine Below.setCell ?_ ?_ _) | omega | (simp; omega) | (simp; done)))).mono ?_); rintro e wf ⟨rfl, hbf⟩)
    | (go_at_call 19; (with_reducible refine (HBS.out _ (by have s0_ := hbd.size; have s1_ := hbe.size; have s2_ := hbf.size; (try simp only [World.size_alloc, World.size_setCell, World.size_drew, sz_drewN] at s0_ s1_ s2_); repeat' (first | (with_reducible exact Below.refl _ _) | (with_reducible refine bel_call ?_ ?_ hbf) | (with_reducible refine bel_call ?_ ?_ hbe) | (with_reducible refine bel_call ?_ ?_ hbd) | (with_reducible refine Below.alloc ?_ ?_ _) | (with_reducible refine below_drewN ?_ _) | (with_reducible refine Below.drew ?_) | (with_reducible refine Below.setCell ?_ ?_ _) | omega | (simp; omega) | (simp; done)))).mono ?_); rintro e wg ⟨rfl, hbg⟩)
    | (go_at_call 9; (with_reducible refine (HLS.out _ (by have s0_ := hbd.size; have s1_ := hbe.size; have s2_ := hbf.size; have s3_ := hbg.size; (try simp only [World.size_alloc, World.size_setCell, World.size_drew, sz_drewN] at s0_ s1_ s2_ s3_); repeat' (first | (with_reducible exact Below.refl _ _) | (with_reducible refine bel_call ?_ ?_ hbg) | (with_reducible refine bel_call ?_ ?_ hbf) | (with_reducible refine bel_call ?_ ?_ hbe) | (with_reducible refine bel_call ?_ ?_ hbd) | (with_reducible refine Below.alloc ?_ ?_ _) | (with_reducible refine below_drewN ?_ _) | (with_reducible refine Below.drew ?_) | (with_reducible refine Below.setCell ?_ ?_ _) | omega | (simp; omega) | (simp; done)))).mono ?_); rintro e wl ⟨rfl, hbl⟩))
  go_ret
  exact ⟨by first | rfl | (simp; done), (by have s0_ := hbw.size; have s1_ := hbc.size; have s2_ := hbd.size; have s3_ := hbe.size; have s4_ := hbf.size; have s5_ := hbg.size; have s6_ := hbl.size; have s7_ := hbm.size; (try simp only [World.size_alloc, World.size_setCell, World.size_drew, sz_drewN] at s0_ s1_ s2_ s3_ s4_ s5_ s6_ s7_); repeat' (first | (with_reducible exact Below.refl _ _) | (with_reducible refine bel_call ?_ ?_ hbm) | (with_reducible refine bel_call ?_ ?_ hbl) | (with_reducible refine bel_call ?_ ?_ hbg) | (with_reducible refine bel_call ?_ ?_ hbf) | (with_reducible refine bel_call ?_ ?_ hbe) | (with_reducible refine bel_call ?_ ?_ hbd) | (with_reducible refine bel_call ?_ ?_ hbc) | (with_reducible refine bel_call ?_ ?_ hbw) | (with_reducible refine Below.alloc ?_ ?_ _) | (with_reducible refine below_drewN ?_ _) | (with_reducible refine Below.drew ?_) | (with_reducible refine Below.setCell ?_ ?_ _) | omega | (simp; omega) | (simp; done)))⟩
end Go.Proofs.Ytnjdomfhjhlamaa
