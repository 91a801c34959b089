/- Contract of the document's Same; the chapter's example. -/
import Derived.Test.YtnjdomfhjhlamaaPv
namespace Go.Proofs.Ytnjdomfhjhlamaa
open Go.RowKit
set_option linter.unusedVariables false
set_option linter.unusedSimpArgs false

set_option maxRecDepth 8000 in
set_option maxHeartbeats 3200000 in
theorem same15 (v1 v2 : Value) (n : Nat) (c : Nat → Int) (w : World) (h1 : Ints w v1 n c) (h2 : Ints w v2 n c) (hn : n ≤ 2000) :
    Calls Try.prog 13 #[v1, v2] w fun e w' => e = .returned (.bool true) ∧ Below w.heap.size w w' := by
  obtain ⟨p1, c1, rfl, hc1, hr1⟩ := h1
  obtain ⟨p2, c2, rfl, hc2, hr2⟩ := h2
  have H1 := Lib.hid hr1
  have H2 := Lib.hid hr2
  clear hr1 hr2
  go_enter Try.func13, Try.ntmps13
  go_wp2
  go_loopw [5] (fun s5 wr => ∃ (i : Nat), s5 = .int .i64 i ∧ i ≤ n ∧ Hid (∃ k, wr = w.drewN k)) (fun s5 _ => 4000 - (intOf s5).toNat)
  case atStart => exact ⟨0, rfl, by omega, ⟨0, rfl⟩⟩
  case round =>
    obtain ⟨i, rfl, hi, hw⟩ := hrel
    obtain ⟨dk, rfl⟩ := hw.out
    by_cases hlt : i < n
    · obtain ⟨g1, o1, rfl, gs1, hcl1⟩ := H1.out (by omega)
      obtain ⟨g2, o2, rfl, gs2, hcl2⟩ := H2.out (by omega)
      have d1 : w.cell? ⟨g1, o1 + i, none⟩ = some (.int .i64 (c i)) := hcl1 i hlt
      have d2 : w.cell? ⟨g2, o2 + i, none⟩ = some (.int .i64 (c i)) := hcl2 i hlt
      have il : (i : Int) < n := by omega
      have wk : IntKind.i64.wrap ((i : Int) + 1) = (i : Int) + 1 := wrap_in _ (by omega) (by omega)
      generalize c i = V at *
      clear hcl1 hcl2
      go_upto_region 6 with fail
      go_region
      go_wp2
      exact ⟨⟨i + 1, by go_num, by omega, ⟨dk + 1, rfl⟩⟩, by simp [intOf]; omega⟩
    · have il : ¬ (i : Int) < n := by omega
      go_wp2
      go_ret
      exact ⟨rfl, below_drewN (Below.refl _ _) _⟩

def exD : Nat → Int := fun j => if j = 0 then 1 else if j = 1 then 2 else 3
def exP : Nat → Int := fun j => if j = 1 then 2 else -1
def exL : Nat → Int := fun j => if j = 0 then 2 else -1
def exC : Nat → Int := fun j => if j = 0 then 0 else if j = 1 then 2 else 1
theorem lt3 {j : Nat} (h : j < 3) : j = 0 ∨ j = 1 ∨ j = 2 := by omega
theorem ex_chk : Chk 3 3 exD exP exL := by
  refine ⟨by omega, by omega, by omega, fun i hi => ?_⟩
  rcases lt3 hi with rfl | rfl | rfl
  · exact ⟨by decide, by decide, fun k hk => by omega, fun _ k hk => by omega⟩
  · refine ⟨by decide, by decide, fun k hk => ?_, fun _ k hk => ?_⟩ <;> (obtain rfl : k = 0 := by omega) <;> decide
  · refine ⟨by decide, by decide, fun k hk => ?_, fun h => absurd rfl h⟩
    rcases (show k = 0 ∨ k = 1 by omega) with rfl | rfl <;> decide
theorem ex_casg : ∀ j, j < 3 → casg 3 exP exL j = exC j := by
  intro j hj
  rcases lt3 hj with rfl | rfl | rfl <;> decide
theorem ex_cmov : cmov exL (casg 3 exP exL) 3 = 1 := by decide

set_option maxRecDepth 8000 in
set_option maxHeartbeats 3200000 in
theorem awake15 (w : World) : Calls Try.prog 8 #[] w fun e w' => e = .returned (.bool true) ∧ Below w.heap.size w w' := by
  go_enter Try.func8, Try.ntmps8
  go_upto_region 2 with fail
  refine gen_world (F := fun V => Runs V (.slice (some ⟨w.heap.size, 0, none⟩) 3 3) 3 exD exP exL ∧ Below w.heap.size w V) ⟨⟨_, _, rfl, Nat.le_refl _, fun _ => ⟨w.heap.size, 0, rfl, by simp, fun j hj => ?_⟩⟩, (by repeat' (first | (with_reducible exact Below.refl _ _) | (with_reducible refine Below.alloc ?_ ?_ _) | (with_reducible refine below_drewN ?_ _) | (with_reducible refine Below.drew ?_) | (with_reducible refine Below.setCell ?_ ?_ _) | omega | (simp; omega) | (simp; done)))⟩ ?_
  · rcases lt3 hj with rfl | rfl | rfl <;> exact ⟨by go_simp; rfl, by go_simp; rfl, by go_simp; rfl⟩
  generalize Value.slice (some ⟨w.heap.size, 0, none⟩) 3 3 = v
  rintro V ⟨hR, hbv⟩
  have hs := hbv.size
  have hwf : ∀ j, j < 3 → (Lit.int .i64 (exD j)).wf = true := fun j hj => by rcases lt3 hj with rfl | rfl | rfl <;> decide
  have HA := Lib.hid (assign_yes v 3 exD exP exL 3 V hR hwf ex_chk)
  have HL := Lib.hid (fun w1 (hb : Below V.heap.size V w1) => least_yes v 3 exD exP exL 3 w1 (hR.keepb hb) hwf ex_chk)
  rw [ex_cmov] at HL
  have HC := Lib.hid (fun w1 (hb : Below V.heap.size V w1) => check_any v 3 exD exP exL 3 w1 (hR.keepb hb) hwf)
  clear hR
  go_upto_region 3 with (go_at_call 12; (with_reducible refine HA.out.mono ?_); rintro e w1 ⟨⟨g, rfl, hg, hcl, gg⟩, hb1⟩)
  have hC1 : Ints w1 (.slice (some ⟨g, 0, none⟩) 3 3) 3 exC := runs_ints hg (fun j hj => by rw [← ex_casg j hj]; exact hcl j hj)
  have HC1 := Lib.hid hC1
  clear hC1 hcl
  go_wp2_with (first
    | (go_at_call 13; (with_reducible refine (same15 _ _ 3 exC _ (HC1.out.keepb ((Below.refl _ _).alloc (Nat.le_refl _) _)) (runs_ints (by simp) (fun j hj => by rcases lt3 hj with rfl | rfl | rfl <;> (go_simp; first | rfl | decide))) (by omega)).mono ?_); rintro e w2 ⟨rfl, hb2⟩)
    | (go_at_call 9; (with_reducible refine (HL.out _ (by have s0_ := hb1.size; have s1_ := hb2.size; (try simp only [World.size_alloc, World.size_setCell, World.size_drew, sz_drewN] at s0_ s1_); repeat' (first | (with_reducible exact Below.refl _ _) | (with_reducible refine bel_call ?_ ?_ hb2) | (with_reducible refine bel_call ?_ ?_ hb1) | (with_reducible refine Below.alloc ?_ ?_ _) | (with_reducible refine below_drewN ?_ _) | (with_reducible refine Below.drew ?_) | (with_reducible refine Below.setCell ?_ ?_ _) | omega | (simp; omega) | (simp; done)))).mono ?_); rintro e w3 ⟨rfl, hb3⟩)
    | (go_at_call 10; (with_reducible refine (HC.out _ (by have s0_ := hb1.size; have s1_ := hb2.size; have s2_ := hb3.size; (try simp only [World.size_alloc, World.size_setCell, World.size_drew, sz_drewN] at s0_ s1_ s2_); repeat' (first | (with_reducible exact Below.refl _ _) | (with_reducible refine bel_call ?_ ?_ hb3) | (with_reducible refine bel_call ?_ ?_ hb2) | (with_reducible refine bel_call ?_ ?_ hb1) | (with_reducible refine Below.alloc ?_ ?_ _) | (with_reducible refine below_drewN ?_ _) | (with_reducible refine Below.drew ?_) | (with_reducible refine Below.setCell ?_ ?_ _) | omega | (simp; omega) | (simp; done)))).mono ?_); rintro e w4 ⟨⟨B, rfl, hB⟩, hb4⟩; have hBt : B = true := hB.2 ex_chk; subst hBt))
  go_ret
  exact ⟨rfl, (by have s0_ := hbv.size; have s1_ := hb1.size; have s2_ := hb2.size; have s3_ := hb3.size; have s4_ := hb4.size; (try simp only [World.size_alloc, World.size_setCell, World.size_drew, sz_drewN] at s0_ s1_ s2_ s3_ s4_); repeat' (first | (with_reducible exact Below.refl _ _) | (with_reducible refine bel_call ?_ ?_ hb4) | (with_reducible refine bel_call ?_ ?_ hb3) | (with_reducible refine bel_call ?_ ?_ hb2) | (with_reducible refine bel_call ?_ ?_ hb1) | (with_reducible refine bel_call ?_ ?_ hbv) | (with_reducible refine Below.alloc ?_ ?_ _) | (with_reducible refine below_drewN ?_ _) | (with_reducible refine Below.drew ?_) | (with_reducible refine Below.setCell ?_ ?_ _) | omega | (simp; omega) | (simp; done)))⟩
end Go.Proofs.Ytnjdomfhjhlamaa
