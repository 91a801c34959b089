/- The walk of the law TaskPlays. -/
import Derived.Test.YtkmgkggkdmlkeaaTPs
import Derived.Test.YtkmgkggkdmlkeaaAw10
import Derived.Test.YtkmgkggkdmlkeaaOpenQ
namespace Go.Proofs.Ytkmgkggkdmlkeaa
open Go.RowKit
set_option linter.unusedVariables false
set_option linter.unusedSimpArgs false

theorem mask5 (x : Int) : bits .and .i64 x 31 = x % 32 := i64_mask 5 (by decide) x
theorem mask3 (x : Int) : bits .and .i64 x 7 = x % 8 := i64_mask 3 (by decide) x

set_option maxRecDepth 8000 in
set_option maxHeartbeats 12800000 in
theorem walk_TaskPlays (a00 a01 : Int) (a1 : Bool) (v2 : Value) (n2 : Nat) (Z2 : Nat → Value) (w : World) (_f00 : (Lit.int .i64 a00).wf = true) (_f01 : (Lit.int .i64 a01).wf = true) (f2 : FlatQ w v2 n2 5 (numsThenBools 3) Z2) :
    Calls Try.prog 7 #[.agg #[.int .i64 a00, .int .i64 a01], .bool a1, v2] w fun e w' => e = .returned (.bool true) ∧ Below w.heap.size w w' := by
  obtain ⟨p1, p2⟩ := pOf_bd a01
  obtain ⟨e1, e2⟩ := eOf_bd a00 (pOf a01) p1
  have hm := fun w => made_any a00 a01 w
  generalize eOf a00 (pOf a01) = E at *
  generalize pOf a01 = P at *
  have HM := Lib.hid hm
  obtain ⟨p, cap, rfl, hc1, hc2, hz⟩ := f2
  have HZ := Lib.hid hz
  clear hm hz
  unfold maxLen at hc2
  go_enter Try.func7, Try.ntmps7
  go_upto_region 6 with (first
    | (go_at_call 9; (with_reducible refine (awake10 _).mono ?_); rintro e w1 ⟨rfl, hb1⟩; have s_w1 := hb1.size; (try simp only [World.size_alloc, World.size_setCell, World.size_drew, sz_drewN] at s_w1); have z_w1_0_0 : w.heap.size < w1.heap.size := (by omega); have z_w1_0_1 : w.heap.size < w1.heap.size + 1 := (by omega); have z_w1_0_2 : w.heap.size < w1.heap.size + 1 + 1 := (by omega); have q_w1_0_0 : w1.cell? ⟨w.heap.size, 0, none⟩ = some (.int .i64 a00) := (hb1.cell (p := ⟨w.heap.size, 0, none⟩) (by first | (show w.heap.size < _; omega) | (show w.heap.size < _; simp; done) | (show w.heap.size < _; simp; omega))).trans (by first | assumption | (go_simp; done)); have q_w1_0_1 : w1.cell? ⟨w.heap.size, 1, none⟩ = some (.int .i64 a01) := (hb1.cell (p := ⟨w.heap.size, 1, none⟩) (by first | (show w.heap.size < _; omega) | (show w.heap.size < _; simp; done) | (show w.heap.size < _; simp; omega))).trans (by first | assumption | (go_simp; done)))
    | (go_at_call 11; (with_reducible refine (HM.out _).mono ?_); rintro e w2 ⟨rfl, hb2⟩; have s_w2 := hb2.size; (try simp only [World.size_alloc, World.size_setCell, World.size_drew, sz_drewN] at s_w2))
    | (go_at_call 10; (with_reducible refine (tnew_yes E P 5 a1 _ e1 e2 p2 (by omega) (by omega)).mono ?_); rintro e w3 ⟨⟨t, s, gt, gs, gst, rfl, hT1, hS1⟩, hb3⟩; have s_w3 := hb3.size; (try simp only [World.size_alloc, World.size_setCell, World.size_drew, sz_drewN] at s_w3); have z_w3_0_0 : w2.heap.size < w3.heap.size := (by omega); have z_w3_0_1 : w2.heap.size < w3.heap.size + 1 := (by omega); have z_w3_0_2 : w2.heap.size < w3.heap.size + 1 + 1 := (by omega); have q_w3_0_0 : w3.cell? ⟨w2.heap.size, 0, none⟩ = some (.int .i64 E) := (hb3.cell (p := ⟨w2.heap.size, 0, none⟩) (by first | (show w2.heap.size < _; omega) | (show w2.heap.size < _; simp; done) | (show w2.heap.size < _; simp; omega))).trans (by first | assumption | (go_simp; done)); have q_w3_0_1 : w3.cell? ⟨w2.heap.size, 1, none⟩ = some (.int .i64 P) := (hb3.cell (p := ⟨w2.heap.size, 1, none⟩) (by first | (show w2.heap.size < _; omega) | (show w2.heap.size < _; simp; done) | (show w2.heap.size < _; simp; omega))).trans (by first | assumption | (go_simp; done))))
  have tsz := tc_size hT1
  have ssz := st_size hS1
  refine gen_world (F := fun V => PT V t s (fun k => k = t ∨ k = s) (w2.heap.size + 1) E P a1 false 5 1 [] Sb.zero 0 ∧ V.cell? ⟨w2.heap.size, 0, none⟩ = some (.int .i64 E) ∧ V.cell? ⟨w2.heap.size, 1, none⟩ = some (.int .i64 P) ∧ w.heap.size ≤ w2.heap.size ∧ w2.heap.size + 1 ≤ V.heap.size ∧ Below w.heap.size w V) ⟨⟨none, 0, hT1, hS1, RowAt.nil _ _ _, by omega, (fun g hg => by cases hg), .inl rfl, .inr rfl, fun k hk => by simp at gt gs; rcases hk with rfl | rfl <;> omega⟩, q_w3_0_0, q_w3_0_1, by omega, by omega, (by have s0_ := hb1.size; have s1_ := hb2.size; have s2_ := hb3.size; (try simp only [World.size_alloc, World.size_setCell, World.size_drew, sz_drewN] at s0_ s1_ s2_); repeat' (first | (with_reducible exact Below.refl _ _) | (with_reducible refine bel_call ?_ ?_ hb3) | (with_reducible refine bel_call ?_ ?_ hb2) | (with_reducible refine bel_call ?_ ?_ hb1) | (with_reducible refine Below.alloc ?_ ?_ _) | (with_reducible refine below_drewN ?_ _) | (with_reducible refine Below.drew ?_) | (with_reducible refine Below.setCell ?_ ?_ _) | omega | (simp; omega) | (simp; done)))⟩ ?_
  clear hb1 hb2 hb3 s_w1 s_w2 s_w3 gs gt hT1 hS1 HM tsz ssz q_w3_0_0 q_w3_0_1 q_w1_0_0 q_w1_0_1 gst
  generalize w2.heap.size = Q at *
  rintro V ⟨hT, c0, c1, gq, gV, hbv⟩
  have HT := Lib.hid hT
  clear hT
  go_upto_region 7 with (go_at_call 22; (with_reducible refine (rnew_any E P 5 a1 _).mono ?_); rintro e w4 ⟨rfl, hR, hb4⟩; have s4 := hb4.size)
  refine gen_world (F := fun V2 => Two V2 t s (V.heap.size + 1) (Q + 1) E P a1 false 5 1 [] Sb.zero 0 (fun k => k = t ∨ k = s) (fun k => k = V.heap.size + 1) ∧ V2.cell? ⟨Q, 0, none⟩ = some (.int .i64 E) ∧ V2.cell? ⟨Q, 1, none⟩ = some (.int .i64 P) ∧ Q + 1 ≤ V2.heap.size ∧ Below w.heap.size w V2) ⟨⟨HT.out.keepb hb4, ⟨none, 0, hR, RowAt.nil _ _ _, (fun g hg => by cases hg), rfl, fun k hk => by subst hk; exact ⟨by omega, rc_size hR⟩⟩, fun j hj hj2 => by have := (HT.out.bd j hj).2; omega⟩, (hb4.cell (p := ⟨Q, 0, none⟩) (by show Q < _; omega)).trans c0, (hb4.cell (p := ⟨Q, 1, none⟩) (by show Q < _; omega)).trans c1, by omega, bel_call hbv hbv.size hb4⟩ ?_
  clear hR hb4 s4 HT hbv c0 c1
  generalize V.heap.size + 1 = r at *
  rintro V2 ⟨hTwo, c0, c1, gV2, hbv⟩
  have HTWO := Lib.hid hTwo
  clear hTwo
  go_wp2
  go_loopw [11, 12] (fun s11 s12 wr => ∃ (k : Nat) (at_ : Int) (cut : Bool) (off i : Int) (L : List Sb) (x : Sb) (done : Int) (F G : Nat → Prop), s12 = .int .i64 k ∧ s11 = .int .i64 at_ ∧ k ≤ 60 ∧ k ≤ n2 ∧ 0 ≤ at_ ∧ at_ ≤ 5 + 32 * k ∧ Two wr t s r (Q + 1) E P a1 cut off i L x done F G ∧ Fine E P off i L x done k ∧
    QB w Q E P wr) (fun _ s12 _ => 60 - (intOf s12).toNat)
  case atStart => exact ⟨0, 5, false, 5, 1, [], Sb.zero, 0, _, _, rfl, rfl, by omega, by omega, by omega, by omega, HTWO.out, ⟨by omega, by omega, by omega, by omega, by simp, by omega, by omega, fun _ => rfl, Up.nil _⟩, c0, c1, gq, gV2, hbv⟩
  case round =>
    clear HTWO c0 c1 gV2 hbv gV
    obtain ⟨k, at_, cut, off, i, L, x, done, F, G, rfl, rfl, hk, hkn, at0, at1, hTwo, hFine, hQB⟩ := hrel
    have HQ := Lib.hid hQB
    obtain ⟨c0, c1, -, gV2, hbv⟩ := hQB
    have HTWO := Lib.hid hTwo
    have HF := Lib.hid hFine
    have hsr := hbv.size
    clear hTwo hFine
    by_cases hlt : k < n2
    · by_cases h60 : k < 60
      · obtain ⟨g, o, rfl, gsz, hcell⟩ := HZ.out (by omega)
        have ce : ∀ j, j < 5 → wr.cell? ⟨g, o + k * 5 + j, none⟩ = some (Z2 (k * 5 + j)) ∧ numsThenBools 3 j (Z2 (k * 5 + j)) := fun j hj => by
          have h := hcell (k * 5 + j) (by omega)
          rw [← Nat.add_assoc] at h
          have hm : (k * 5 + j) % 5 = j := by omega
          rw [hm] at h
          exact ⟨(hbv.cell (p := ⟨g, o + k * 5 + j, none⟩) gsz).trans h.1, h.2⟩
        obtain ⟨d0, kd, hkd, -⟩ := ce 0 (by omega)
        obtain ⟨d1, N, hN, -⟩ := ce 1 (by omega)
        obtain ⟨d2, At, hAt, -⟩ := ce 2 (by omega)
        obtain ⟨d3, far, hfar⟩ := ce 3 (by omega)
        obtain ⟨d4, cuts, hcuts⟩ := ce 4 (by omega)
        rw [hkd, Nat.add_zero] at d0
        rw [hN] at d1
        rw [hAt] at d2
        rw [hfar] at d3
        rw [hcuts] at d4
        clear ce hcell hkd hN hAt hfar hcuts
        have kl : (k : Int) < n2 := by omega
        have k6 : (k : Int) < 60 := by omega
        have wk : IntKind.i64.wrap ((k : Int) + 1) = (k : Int) + 1 := IntWalk.i64_in _ (by omega)
        obtain ⟨st, hst, st0, st1⟩ : ∃ z, bits .and .i64 At 31 = z ∧ 0 ≤ z ∧ z ≤ 31 := ⟨_, mask5 At, by omega, by omega⟩
        have wa : IntKind.i64.wrap (at_ + st) = at_ + st := IntWalk.i64_in _ (by omega)
        go_upto_region 12 with fail
        refine gen_world (F := fun V3 => Two V3 t s r (Q + 1) E P a1 cut off i L x done F G ∧ V3.cell? ⟨wr.heap.size, 0, none⟩ = some (.int .i64 kd) ∧ V3.cell? ⟨wr.heap.size, 1, none⟩ = some (.int .i64 N) ∧ V3.cell? ⟨wr.heap.size, 2, none⟩ = some (.int .i64 At) ∧ V3.cell? ⟨wr.heap.size, 3, none⟩ = some (.bool far) ∧ V3.cell? ⟨wr.heap.size, 4, none⟩ = some (.bool cuts) ∧ wr.heap.size < V3.heap.size ∧ (∀ j, F j ∨ G j → j ≠ wr.heap.size) ∧ QB w Q E P V3) ⟨HTWO.out.keepb (by repeat' (first | (with_reducible exact Below.refl _ _) | (with_reducible refine Below.alloc ?_ ?_ _) | (with_reducible refine below_drewN ?_ _) | (with_reducible refine Below.drew ?_) | (with_reducible refine Below.setCell ?_ ?_ _) | omega | (simp; omega) | (simp; done))), ?_, ?_, ?_, ?_, ?_, by simp, (fun j hj e => by rcases hj with h | h; have := (HTWO.out.1.bd j h).2; omega; have := (HTWO.out.2.1.bd j h).2; omega), HQ.out.keepb (by repeat' (first | (with_reducible exact Below.refl _ _) | (with_reducible refine Below.alloc ?_ ?_ _) | (with_reducible refine below_drewN ?_ _) | (with_reducible refine Below.drew ?_) | (with_reducible refine Below.setCell ?_ ?_ _) | omega | (simp; omega) | (simp; done)))⟩ ?_
        iterate 5 (focus (go_simp; done))
        clear HTWO HQ d0 d1 d2 d3 d4 c0 c1 hbv hsr gV2
        generalize wr.heap.size = O at *
        rintro V3 ⟨hTwo, d0, d1, d2, d3, d4, hO, hFO, hQB⟩
        have HTWO := Lib.hid hTwo
        have HQ := Lib.hid hQB
        have hFQ := Lib.hid (fun j hj => (HTWO.out.1.bd j hj).1)
        have hGQ := Lib.hid (fun j hj => (HTWO.out.2.1.bd j hj).1)
        clear hTwo hQB
        go_upto_if 65 with fail
        go_cut [11, 14] (fun s11 s14 wx => ∃ now, s11 = .int .i64 (at_ + st) ∧ s14 = .int .i64 now ∧ wx = V3)
        case first =>
          cases far
          · go_wp2
            go_meet
            exact ⟨_, rfl, rfl, rfl⟩
          · go_wp2
            go_meet
            exact ⟨_, rfl, rfl, rfl⟩
        case rest =>
          obtain ⟨now, rfl, rfl, rfl⟩ := hcut
          obtain ⟨K7, hK7, k70, k71⟩ : ∃ z, bits .and .i64 kd 7 = z ∧ 0 ≤ z ∧ z ≤ 7 := ⟨_, mask3 kd, by omega, by omega⟩
          go_upto_region 17 with fail
          rename_i kk hkk
          have HKK := Lib.hid hkk
          clear hkk
          go_wp2
          refine HKK.out _ _ ?_
          clear HKK
          go_cut [11, 15] (fun s11 s15 wx => ∃ (cut : Bool) (off i : Int) (L : List Sb) (x : Sb) (done : Int) (F G : Nat → Prop), s11 = .int .i64 (at_ + st) ∧ s15 = .bool true ∧ Two wx t s r (Q + 1) E P a1 cut off i L x done F G ∧ Fine E P off i L x done (k + 1) ∧ QB w Q E P wx)
          case first =>
            refine sw_all t s r Q O E P a1 cut off i L x done F G k K7 now N cuts w wc HTWO HF HQ h60 k70 k71 d1 d4 hO hFO e1 e2 p1 p2 (fun _ _ _ _ _ h => h) (fun W' cut2 off2 i2 L2 x2 done2 F2 G2 hh hf hq => ?_)
            intros
            go_wp2
            go_meet
            exact ⟨cut2, off2, i2, L2, x2, done2, F2, G2, rfl, rfl, hh, hf, hq⟩
          case rest =>
            clear HTWO HF HQ hFQ hGQ d0 d1 d2 d3 d4 hO hFO hK7 k70 k71
            obtain ⟨cut, off, i, L, x, done, F, G, rfl, rfl, hTwo, hFine, hQB⟩ := hcut
            have HTWO := Lib.hid hTwo
            have HF := Lib.hid hFine
            have HQ := Lib.hid hQB
            have HL1 := Lib.hid (last_pt hTwo.1 hFine.2.2.2.2.1 hFine.2.2.2.2.2.2.2.1)
            have HL2 := Lib.hid (fun (w1 : World) (h : Half w1 t s r (Q + 1) E P a1 cut off i L x done cut off i L x done F G) => rlast_pr h.2.1 HF.out.2.2.2.2.1)
            have HHD := Lib.hid (fun (w1 : World) (h : Half w1 t s r (Q + 1) E P a1 cut off i L x done cut off i L x done F G) => head_pt h.1)
            have HWN := Lib.hid (fun (w1 : World) (h : Half w1 t s r (Q + 1) E P a1 cut off i L x done cut off i L x done F G) => when_pt h.1)
            clear hTwo hFine hQB
            generalize lastS x L = y at *
            generalize lastB done L = yb at *
            generalize hhd : headS L = hd at *
            generalize hsm : someS L = sm at *
            generalize hwn : whenS a1 L = wn at *
            go_upto_region 35 with (first
              | (go_at_call 19; (with_reducible refine HL1.out.mono ?_); rintro e w1 ⟨rfl, hb1⟩; unfold Sb.agg)
              | (go_at_call 28; (with_reducible refine (HL2.out _ ?_).mono ?_); (focus (exact HTWO.out.keepb (by have s0_ := hb1.size; (try simp only [World.size_alloc, World.size_setCell, World.size_drew, sz_drewN] at s0_); repeat' (first | (with_reducible exact Below.refl _ _) | (with_reducible refine bel_call ?_ ?_ hb1) | (with_reducible refine Below.alloc ?_ ?_ _) | (with_reducible refine below_drewN ?_ _) | (with_reducible refine Below.drew ?_) | (with_reducible refine Below.setCell ?_ ?_ _) | omega | (simp; omega) | (simp; done))))); rintro e w2 ⟨rfl, hb2⟩; unfold Sb.agg; have s_w2 := hb2.size; (try simp only [World.size_alloc, World.size_setCell, World.size_drew, sz_drewN] at s_w2); have z_w2_0_0 : w1.heap.size < w2.heap.size := (by omega); have z_w2_0_1 : w1.heap.size < w2.heap.size + 1 := (by omega); have z_w2_0_2 : w1.heap.size < w2.heap.size + 1 + 1 := (by omega); have q_w2_0_0 : w2.cell? ⟨w1.heap.size, 0, none⟩ = some (.int .i64 y.i) := (hb2.cell (p := ⟨w1.heap.size, 0, none⟩) (by first | (show w1.heap.size < _; omega) | (show w1.heap.size < _; simp; done) | (show w1.heap.size < _; simp; omega))).trans (by first | assumption | (go_simp; done)); have q_w2_0_1 : w2.cell? ⟨w1.heap.size, 1, none⟩ = some (.int .i64 y.r) := (hb2.cell (p := ⟨w1.heap.size, 1, none⟩) (by first | (show w1.heap.size < _; omega) | (show w1.heap.size < _; simp; done) | (show w1.heap.size < _; simp; omega))).trans (by first | assumption | (go_simp; done)); have q_w2_0_2 : w2.cell? ⟨w1.heap.size, 2, none⟩ = some (.int .i64 y.d) := (hb2.cell (p := ⟨w1.heap.size, 2, none⟩) (by first | (show w1.heap.size < _; omega) | (show w1.heap.size < _; simp; done) | (show w1.heap.size < _; simp; omega))).trans (by first | assumption | (go_simp; done)); have q_w2_0_3 : w2.cell? ⟨w1.heap.size, 3, none⟩ = some (.int .i64 y.b) := (hb2.cell (p := ⟨w1.heap.size, 3, none⟩) (by first | (show w1.heap.size < _; omega) | (show w1.heap.size < _; simp; done) | (show w1.heap.size < _; simp; omega))).trans (by first | assumption | (go_simp; done)); have q_w2_0_4 : w2.cell? ⟨w1.heap.size, 4, none⟩ = some (.int .i64 y.g) := (hb2.cell (p := ⟨w1.heap.size, 4, none⟩) (by first | (show w1.heap.size < _; omega) | (show w1.heap.size < _; simp; done) | (show w1.heap.size < _; simp; omega))).trans (by first | assumption | (go_simp; done)))
              | (go_at_call 29; (with_reducible refine (HHD.out _ ?_).mono ?_); (focus (exact HTWO.out.keepb (by have s0_ := hb1.size; have s1_ := hb2.size; (try simp only [World.size_alloc, World.size_setCell, World.size_drew, sz_drewN] at s0_ s1_); repeat' (first | (with_reducible exact Below.refl _ _) | (with_reducible refine bel_call ?_ ?_ hb2) | (with_reducible refine bel_call ?_ ?_ hb1) | (with_reducible refine Below.alloc ?_ ?_ _) | (with_reducible refine below_drewN ?_ _) | (with_reducible refine Below.drew ?_) | (with_reducible refine Below.setCell ?_ ?_ _) | omega | (simp; omega) | (simp; done))))); rintro e w3 ⟨rfl, hb3⟩; unfold Sb.agg; have s_w3 := hb3.size; (try simp only [World.size_alloc, World.size_setCell, World.size_drew, sz_drewN] at s_w3); have z_w3_0_0 : w1.heap.size < w3.heap.size := (by omega); have z_w3_0_1 : w1.heap.size < w3.heap.size + 1 := (by omega); have z_w3_0_2 : w1.heap.size < w3.heap.size + 1 + 1 := (by omega); have q_w3_0_0 : w3.cell? ⟨w1.heap.size, 0, none⟩ = some (.int .i64 y.i) := (hb3.cell (p := ⟨w1.heap.size, 0, none⟩) (by first | (show w1.heap.size < _; omega) | (show w1.heap.size < _; simp; done) | (show w1.heap.size < _; simp; omega))).trans (by first | assumption | (go_simp; done)); have q_w3_0_1 : w3.cell? ⟨w1.heap.size, 1, none⟩ = some (.int .i64 y.r) := (hb3.cell (p := ⟨w1.heap.size, 1, none⟩) (by first | (show w1.heap.size < _; omega) | (show w1.heap.size < _; simp; done) | (show w1.heap.size < _; simp; omega))).trans (by first | assumption | (go_simp; done)); have q_w3_0_2 : w3.cell? ⟨w1.heap.size, 2, none⟩ = some (.int .i64 y.d) := (hb3.cell (p := ⟨w1.heap.size, 2, none⟩) (by first | (show w1.heap.size < _; omega) | (show w1.heap.size < _; simp; done) | (show w1.heap.size < _; simp; omega))).trans (by first | assumption | (go_simp; done)); have q_w3_0_3 : w3.cell? ⟨w1.heap.size, 3, none⟩ = some (.int .i64 y.b) := (hb3.cell (p := ⟨w1.heap.size, 3, none⟩) (by first | (show w1.heap.size < _; omega) | (show w1.heap.size < _; simp; done) | (show w1.heap.size < _; simp; omega))).trans (by first | assumption | (go_simp; done)); have q_w3_0_4 : w3.cell? ⟨w1.heap.size, 4, none⟩ = some (.int .i64 y.g) := (hb3.cell (p := ⟨w1.heap.size, 4, none⟩) (by first | (show w1.heap.size < _; omega) | (show w1.heap.size < _; simp; done) | (show w1.heap.size < _; simp; omega))).trans (by first | assumption | (go_simp; done)); have z_w3_1_0 : w2.heap.size < w3.heap.size := (by omega); have z_w3_1_1 : w2.heap.size < w3.heap.size + 1 := (by omega); have z_w3_1_2 : w2.heap.size < w3.heap.size + 1 + 1 := (by omega); have q_w3_1_0 : w3.cell? ⟨w2.heap.size, 0, none⟩ = some (.int .i64 y.i) := (hb3.cell (p := ⟨w2.heap.size, 0, none⟩) (by first | (show w2.heap.size < _; omega) | (show w2.heap.size < _; simp; done) | (show w2.heap.size < _; simp; omega))).trans (by first | assumption | (go_simp; done)); have q_w3_1_1 : w3.cell? ⟨w2.heap.size, 1, none⟩ = some (.int .i64 y.r) := (hb3.cell (p := ⟨w2.heap.size, 1, none⟩) (by first | (show w2.heap.size < _; omega) | (show w2.heap.size < _; simp; done) | (show w2.heap.size < _; simp; omega))).trans (by first | assumption | (go_simp; done)); have q_w3_1_2 : w3.cell? ⟨w2.heap.size, 2, none⟩ = some (.int .i64 y.d) := (hb3.cell (p := ⟨w2.heap.size, 2, none⟩) (by first | (show w2.heap.size < _; omega) | (show w2.heap.size < _; simp; done) | (show w2.heap.size < _; simp; omega))).trans (by first | assumption | (go_simp; done)); have q_w3_1_3 : w3.cell? ⟨w2.heap.size, 3, none⟩ = some (.int .i64 y.b) := (hb3.cell (p := ⟨w2.heap.size, 3, none⟩) (by first | (show w2.heap.size < _; omega) | (show w2.heap.size < _; simp; done) | (show w2.heap.size < _; simp; omega))).trans (by first | assumption | (go_simp; done)); have q_w3_1_4 : w3.cell? ⟨w2.heap.size, 4, none⟩ = some (.int .i64 y.g) := (hb3.cell (p := ⟨w2.heap.size, 4, none⟩) (by first | (show w2.heap.size < _; omega) | (show w2.heap.size < _; simp; done) | (show w2.heap.size < _; simp; omega))).trans (by first | assumption | (go_simp; done)))
              | (go_at_call 30; (with_reducible refine (HWN.out _ ?_).mono ?_); (focus (exact HTWO.out.keepb (by have s0_ := hb1.size; have s1_ := hb2.size; have s2_ := hb3.size; (try simp only [World.size_alloc, World.size_setCell, World.size_drew, sz_drewN] at s0_ s1_ s2_); repeat' (first | (with_reducible exact Below.refl _ _) | (with_reducible refine bel_call ?_ ?_ hb3) | (with_reducible refine bel_call ?_ ?_ hb2) | (with_reducible refine bel_call ?_ ?_ hb1) | (with_reducible refine Below.alloc ?_ ?_ _) | (with_reducible refine below_drewN ?_ _) | (with_reducible refine Below.drew ?_) | (with_reducible refine Below.setCell ?_ ?_ _) | omega | (simp; omega) | (simp; done))))); rintro e w4 ⟨rfl, hb4⟩; have s_w4 := hb4.size; (try simp only [World.size_alloc, World.size_setCell, World.size_drew, sz_drewN] at s_w4); have z_w4_0_0 : w1.heap.size < w4.heap.size := (by omega); have z_w4_0_1 : w1.heap.size < w4.heap.size + 1 := (by omega); have z_w4_0_2 : w1.heap.size < w4.heap.size + 1 + 1 := (by omega); have q_w4_0_0 : w4.cell? ⟨w1.heap.size, 0, none⟩ = some (.int .i64 y.i) := (hb4.cell (p := ⟨w1.heap.size, 0, none⟩) (by first | (show w1.heap.size < _; omega) | (show w1.heap.size < _; simp; done) | (show w1.heap.size < _; simp; omega))).trans (by first | assumption | (go_simp; done)); have q_w4_0_1 : w4.cell? ⟨w1.heap.size, 1, none⟩ = some (.int .i64 y.r) := (hb4.cell (p := ⟨w1.heap.size, 1, none⟩) (by first | (show w1.heap.size < _; omega) | (show w1.heap.size < _; simp; done) | (show w1.heap.size < _; simp; omega))).trans (by first | assumption | (go_simp; done)); have q_w4_0_2 : w4.cell? ⟨w1.heap.size, 2, none⟩ = some (.int .i64 y.d) := (hb4.cell (p := ⟨w1.heap.size, 2, none⟩) (by first | (show w1.heap.size < _; omega) | (show w1.heap.size < _; simp; done) | (show w1.heap.size < _; simp; omega))).trans (by first | assumption | (go_simp; done)); have q_w4_0_3 : w4.cell? ⟨w1.heap.size, 3, none⟩ = some (.int .i64 y.b) := (hb4.cell (p := ⟨w1.heap.size, 3, none⟩) (by first | (show w1.heap.size < _; omega) | (show w1.heap.size < _; simp; done) | (show w1.heap.size < _; simp; omega))).trans (by first | assumption | (go_simp; done)); have q_w4_0_4 : w4.cell? ⟨w1.heap.size, 4, none⟩ = some (.int .i64 y.g) := (hb4.cell (p := ⟨w1.heap.size, 4, none⟩) (by first | (show w1.heap.size < _; omega) | (show w1.heap.size < _; simp; done) | (show w1.heap.size < _; simp; omega))).trans (by first | assumption | (go_simp; done)); have z_w4_1_0 : w2.heap.size < w4.heap.size := (by omega); have z_w4_1_1 : w2.heap.size < w4.heap.size + 1 := (by omega); have z_w4_1_2 : w2.heap.size < w4.heap.size + 1 + 1 := (by omega); have q_w4_1_0 : w4.cell? ⟨w2.heap.size, 0, none⟩ = some (.int .i64 y.i) := (hb4.cell (p := ⟨w2.heap.size, 0, none⟩) (by first | (show w2.heap.size < _; omega) | (show w2.heap.size < _; simp; done) | (show w2.heap.size < _; simp; omega))).trans (by first | assumption | (go_simp; done)); have q_w4_1_1 : w4.cell? ⟨w2.heap.size, 1, none⟩ = some (.int .i64 y.r) := (hb4.cell (p := ⟨w2.heap.size, 1, none⟩) (by first | (show w2.heap.size < _; omega) | (show w2.heap.size < _; simp; done) | (show w2.heap.size < _; simp; omega))).trans (by first | assumption | (go_simp; done)); have q_w4_1_2 : w4.cell? ⟨w2.heap.size, 2, none⟩ = some (.int .i64 y.d) := (hb4.cell (p := ⟨w2.heap.size, 2, none⟩) (by first | (show w2.heap.size < _; omega) | (show w2.heap.size < _; simp; done) | (show w2.heap.size < _; simp; omega))).trans (by first | assumption | (go_simp; done)); have q_w4_1_3 : w4.cell? ⟨w2.heap.size, 3, none⟩ = some (.int .i64 y.b) := (hb4.cell (p := ⟨w2.heap.size, 3, none⟩) (by first | (show w2.heap.size < _; omega) | (show w2.heap.size < _; simp; done) | (show w2.heap.size < _; simp; omega))).trans (by first | assumption | (go_simp; done)); have q_w4_1_4 : w4.cell? ⟨w2.heap.size, 4, none⟩ = some (.int .i64 y.g) := (hb4.cell (p := ⟨w2.heap.size, 4, none⟩) (by first | (show w2.heap.size < _; omega) | (show w2.heap.size < _; simp; done) | (show w2.heap.size < _; simp; omega))).trans (by first | assumption | (go_simp; done)); have z_w4_2_0 : w3.heap.size < w4.heap.size := (by omega); have z_w4_2_1 : w3.heap.size < w4.heap.size + 1 := (by omega); have z_w4_2_2 : w3.heap.size < w4.heap.size + 1 + 1 := (by omega); have q_w4_2_0 : w4.cell? ⟨w3.heap.size, 0, none⟩ = some (.int .i64 hd.i) := (hb4.cell (p := ⟨w3.heap.size, 0, none⟩) (by first | (show w3.heap.size < _; omega) | (show w3.heap.size < _; simp; done) | (show w3.heap.size < _; simp; omega))).trans (by first | assumption | (go_simp; done)); have q_w4_2_1 : w4.cell? ⟨w3.heap.size, 1, none⟩ = some (.int .i64 hd.r) := (hb4.cell (p := ⟨w3.heap.size, 1, none⟩) (by first | (show w3.heap.size < _; omega) | (show w3.heap.size < _; simp; done) | (show w3.heap.size < _; simp; omega))).trans (by first | assumption | (go_simp; done)); have q_w4_2_2 : w4.cell? ⟨w3.heap.size, 2, none⟩ = some (.int .i64 hd.d) := (hb4.cell (p := ⟨w3.heap.size, 2, none⟩) (by first | (show w3.heap.size < _; omega) | (show w3.heap.size < _; simp; done) | (show w3.heap.size < _; simp; omega))).trans (by first | assumption | (go_simp; done)); have q_w4_2_3 : w4.cell? ⟨w3.heap.size, 3, none⟩ = some (.int .i64 hd.b) := (hb4.cell (p := ⟨w3.heap.size, 3, none⟩) (by first | (show w3.heap.size < _; omega) | (show w3.heap.size < _; simp; done) | (show w3.heap.size < _; simp; omega))).trans (by first | assumption | (go_simp; done)); have q_w4_2_4 : w4.cell? ⟨w3.heap.size, 4, none⟩ = some (.int .i64 hd.g) := (hb4.cell (p := ⟨w3.heap.size, 4, none⟩) (by first | (show w3.heap.size < _; omega) | (show w3.heap.size < _; simp; done) | (show w3.heap.size < _; simp; omega))).trans (by first | assumption | (go_simp; done))))
            refine gen_world (F := fun V5 => Half V5 t s r (Q + 1) E P a1 cut off i L x done cut off i L x done F G ∧ QB w Q E P V5 ∧
              (V5.cell? ⟨w1.heap.size, 0, none⟩ = some (.int .i64 y.i) ∧ V5.cell? ⟨w1.heap.size, 1, none⟩ = some (.int .i64 y.r) ∧ V5.cell? ⟨w1.heap.size, 2, none⟩ = some (.int .i64 y.d) ∧ V5.cell? ⟨w1.heap.size, 3, none⟩ = some (.int .i64 y.b) ∧ V5.cell? ⟨w1.heap.size, 4, none⟩ = some (.int .i64 y.g)) ∧
              (V5.cell? ⟨w2.heap.size, 0, none⟩ = some (.int .i64 y.i) ∧ V5.cell? ⟨w2.heap.size, 1, none⟩ = some (.int .i64 y.r) ∧ V5.cell? ⟨w2.heap.size, 2, none⟩ = some (.int .i64 y.d) ∧ V5.cell? ⟨w2.heap.size, 3, none⟩ = some (.int .i64 y.b) ∧ V5.cell? ⟨w2.heap.size, 4, none⟩ = some (.int .i64 y.g)) ∧
              (V5.cell? ⟨w3.heap.size, 0, none⟩ = some (.int .i64 hd.i) ∧ V5.cell? ⟨w3.heap.size, 1, none⟩ = some (.int .i64 hd.r) ∧ V5.cell? ⟨w3.heap.size, 2, none⟩ = some (.int .i64 hd.d) ∧ V5.cell? ⟨w3.heap.size, 3, none⟩ = some (.int .i64 hd.b) ∧ V5.cell? ⟨w3.heap.size, 4, none⟩ = some (.int .i64 hd.g)))
              ⟨HTWO.out.keepb (by have s0_ := hb1.size; have s1_ := hb2.size; have s2_ := hb3.size; have s3_ := hb4.size; (try simp only [World.size_alloc, World.size_setCell, World.size_drew, sz_drewN] at s0_ s1_ s2_ s3_); repeat' (first | (with_reducible exact Below.refl _ _) | (with_reducible refine bel_call ?_ ?_ hb4) | (with_reducible refine bel_call ?_ ?_ hb3) | (with_reducible refine bel_call ?_ ?_ hb2) | (with_reducible refine bel_call ?_ ?_ hb1) | (with_reducible refine Below.alloc ?_ ?_ _) | (with_reducible refine below_drewN ?_ _) | (with_reducible refine Below.drew ?_) | (with_reducible refine Below.setCell ?_ ?_ _) | omega | (simp; omega) | (simp; done))), HQ.out.keepb (by have s0_ := hb1.size; have s1_ := hb2.size; have s2_ := hb3.size; have s3_ := hb4.size; (try simp only [World.size_alloc, World.size_setCell, World.size_drew, sz_drewN] at s0_ s1_ s2_ s3_); repeat' (first | (with_reducible exact Below.refl _ _) | (with_reducible refine bel_call ?_ ?_ hb4) | (with_reducible refine bel_call ?_ ?_ hb3) | (with_reducible refine bel_call ?_ ?_ hb2) | (with_reducible refine bel_call ?_ ?_ hb1) | (with_reducible refine Below.alloc ?_ ?_ _) | (with_reducible refine below_drewN ?_ _) | (with_reducible refine Below.drew ?_) | (with_reducible refine Below.setCell ?_ ?_ _) | omega | (simp; omega) | (simp; done))), ⟨q_w4_0_0, q_w4_0_1, q_w4_0_2, q_w4_0_3, q_w4_0_4⟩, ⟨q_w4_1_0, q_w4_1_1, q_w4_1_2, q_w4_1_3, q_w4_1_4⟩, ⟨q_w4_2_0, q_w4_2_1, q_w4_2_2, q_w4_2_3, q_w4_2_4⟩⟩ ?_
            clear HTWO HQ HL1 HL2 HHD HWN hb1 hb2 hb3 hb4 q_w4_0_0 q_w4_0_1 q_w4_0_2 q_w4_0_3 q_w4_0_4 q_w4_1_0 q_w4_1_1 q_w4_1_2 q_w4_1_3 q_w4_1_4 q_w4_2_0 q_w4_2_1 q_w4_2_2 q_w4_2_3 q_w4_2_4 q_w3_0_0 q_w3_0_1 q_w3_0_2 q_w3_0_3 q_w3_0_4 q_w3_1_0 q_w3_1_1 q_w3_1_2 q_w3_1_3 q_w3_1_4 q_w2_0_0 q_w2_0_1 q_w2_0_2 q_w2_0_3 q_w2_0_4
            generalize w1.heap.size = B1 at *
            generalize w2.heap.size = B2 at *
            generalize w3.heap.size = B3 at *
            rintro V5 ⟨hTwo, hQB, ⟨l0, l1, l2, l3, l4⟩, ⟨m0, m1, m2, m3, m4⟩, ⟨n0, n1, n2', n3, n4⟩⟩
            have HTWO := Lib.hid hTwo
            have HQ := Lib.hid hQB
            subst hhd hsm
            refine reg35_all t s r B1 B2 B3 (Q + 1) E P a1 cut off i L x y yb done F G V5 hTwo.1 hTwo.2.1 HF.out.2.2.2.2.1 l0 l1 l2 l3 l4 m0 m1 m2 m3 m4 n0 n1 n2' n3 n4 ?_
            obtain ⟨-, ⟨pb, cb, hRC, hRow, -⟩, -⟩ := hTwo
            have r6 := hRC.2.2.2.2.2.2.1
            clear hRC hQB l0 l1 l2 l3 l4 m0 m1 m2 m3 m4 n0 n1 n2' n3 n4
            intros
            rename_i d
            have hend : Hid (∀ W', W' = V5.drewN d → Half W' t s r (Q + 1) E P a1 cut off i L x done cut off i L x done F G ∧ QB w Q E P W') := fun W' e => by subst e; exact ⟨HTWO.out.keepb (by repeat' (first | (with_reducible exact Below.refl _ _) | (with_reducible refine Below.alloc ?_ ?_ _) | (with_reducible refine below_drewN ?_ _) | (with_reducible refine Below.drew ?_) | (with_reducible refine Below.setCell ?_ ?_ _) | omega | (simp; omega) | (simp; done))), HQ.out.keepb (by repeat' (first | (with_reducible exact Below.refl _ _) | (with_reducible refine Below.alloc ?_ ?_ _) | (with_reducible refine below_drewN ?_ _) | (with_reducible refine Below.drew ?_) | (with_reducible refine Below.setCell ?_ ?_ _) | omega | (simp; omega) | (simp; done)))⟩
            cases L with
            | nil =>
              obtain rfl : wn = 0 := hwn.symm
              clear hwn hRow r6
              go_wp2
              go_roundw
              case rel => exact ⟨k + 1, at_ + st, cut, off, i, [], x, done, F, G, by go_num, rfl, by omega, by omega, by omega, by omega, (hend.out _ rfl).1, HF.out, (hend.out _ rfl).2⟩
              case measure => (simp [intOf] <;> omega)
            | cons z l =>
              obtain ⟨gb, ob, rfl, gbz, j0, j1, j2, j3, j4⟩ := row_head hRow
              rw [List.length_cons] at r6
              have pp : (0 : Int) < ((l.length + 1 : Nat) : Int) := by omega
              clear hRow j0 j2 j3 j4
              cases a1 with
              | true =>
                obtain rfl : wn = 0 := hwn.symm
                clear hwn
                go_wp2
                go_roundw
                case rel => exact ⟨k + 1, at_ + st, cut, off, i, z :: l, x, done, F, G, by go_num, rfl, by omega, by omega, by omega, by omega, (hend.out _ rfl).1, HF.out, (hend.out _ rfl).2⟩
                case measure => (simp [intOf] <;> omega)
              | false =>
                obtain rfl : wn = z.r := hwn.symm
                clear hwn
                go_wp2
                go_roundw
                case rel => exact ⟨k + 1, at_ + st, cut, off, i, z :: l, x, done, F, G, by go_num, rfl, by omega, by omega, by omega, by omega, (hend.out _ rfl).1, HF.out, (hend.out _ rfl).2⟩
                case measure => (simp [intOf] <;> omega)
      · have k6 : ¬ (k : Int) < 60 := by omega
        have kl : (k : Int) < n2 := by omega
        have gq3 : Q < wr.heap.size := gV2
        clear gV2
        go_upto_region 42 with fail
        refine reg42_yes t s r Q E P a1 cut off i L x done F G wr HTWO c0 c1 gq3 (fun W' hb => ?_) (fun _ _ _ _ _ h => h)
        intros
        go_wp2
        go_ret
        exact ⟨rfl, bel_call hbv hbv.size hb⟩
    · have kl : ¬ (k : Int) < n2 := by omega
      have gq3 : Q < wr.heap.size := gV2
      clear gV2
      go_upto_region 42 with fail
      refine reg42_yes t s r Q E P a1 cut off i L x done F G wr HTWO c0 c1 gq3 (fun W' hb => ?_) (fun _ _ _ _ _ h => h)
      intros
      go_wp2
      go_ret
      exact ⟨rfl, bel_call hbv hbv.size hb⟩
end Go.Proofs.Ytkmgkggkdmlkeaa
