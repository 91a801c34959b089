/- The walk of the law TaskTimely. -/
import Derived.Test.YtkmgkggkdmlkeaaAw10
import Derived.Test.YtkmgkggkdmlkeaaLs
import Derived.Test.YtkmgkggkdmlkeaaRfo
import Derived.Test.YtkmgkggkdmlkeaaFrame
namespace Go.Proofs.Ytkmgkggkdmlkeaa
open Go.RowKit
set_option linter.unusedVariables false
set_option linter.unusedSimpArgs false

theorem add_block (x : Addr) (k : Nat) : (x.add k).block = x.block := by unfold Addr.add; split <;> rfl
theorem mask4 (x : Int) : bits .and .i64 x 15 = x % 16 := i64_mask 4 (by decide) x
theorem rel_mono1 (E P n : Int) (hE : 0 < E) (hP : 0 < P) : Win.rel E P n ≤ Win.rel E P (n + 1) := by
  unfold Win.rel
  refine Int.ediv_le_ediv hE ?_
  have h : (n + 1 - 1) * P = (n - 1) * P + P := by rw [show n + 1 - 1 = (n - 1) + 1 by omega, Int.add_mul, Int.one_mul]
  omega

set_option maxRecDepth 8000 in
set_option maxHeartbeats 12800000 in
theorem walk_TaskTimely (a00 a01 a1 : Int) (a2 : Option Addr) (len2 cap2 : Nat) (z2 : List Int) (w : World) (_f00 : (Lit.int .i64 a00).wf = true) (_f01 : (Lit.int .i64 a01).wf = true) (_f1 : (Lit.int .i64 a1).wf = true) (f2 : IsRow .i64 w a2 len2 cap2 z2) :
    Calls Try.prog 5 #[.agg #[.int .i64 a00, .int .i64 a01], .int .i64 a1, .slice a2 len2 cap2] w fun e w' => e = .returned (.bool true) ∧ Below w.heap.size w w' := by
  obtain ⟨p1, p2⟩ := pOf_bd a01
  obtain ⟨e1, e2⟩ := eOf_bd a00 (pOf a01) p1
  have hm := fun w => made_any a00 a01 w
  generalize eOf a00 (pOf a01) = E at *
  generalize pOf a01 = P at *
  have HM := Lib.hid hm
  have hz : ∀ i, i < len2 → ∃ x, a2 = some x ∧ x.block < w.heap.size ∧ ∃ z, w.cell? (x.add i) = some (.int .i64 z) ∧ i < cap2 := by
    intro i hi
    rcases f2 with ⟨_, rfl, _, _⟩ | ⟨x, rfl, hl, hm, hzl, hc, _, hb⟩
    · omega
    · exact ⟨x, rfl, hb (by omega), _, hc i (by omega), by omega⟩
  have HZ := Lib.hid hz
  clear hm hz f2
  obtain ⟨F, hF, F0, F1⟩ : ∃ o, bits .and .i64 a1 1073741823 = o ∧ 0 ≤ o ∧ o ≤ 1073741823 := ⟨_, mask30 a1, by omega, by omega⟩
  go_enter Try.func5, Try.ntmps5
  go_upto_region 8 with (first
    | (go_at_call 9; (with_reducible refine (awake10 _).mono ?_); rintro e w1 ⟨rfl, hb1⟩; have s_w1 := hb1.size; (try simp only [World.size_alloc, World.size_setCell, World.size_drew, sz_drewN] at s_w1); have z_w1_0_0 : w.heap.size < w1.heap.size := (by omega); have z_w1_0_1 : w.heap.size < w1.heap.size + 1 := (by omega); have z_w1_0_2 : w.heap.size < w1.heap.size + 1 + 1 := (by omega); have q_w1_0_0 : w1.cell? ⟨w.heap.size, 0, none⟩ = some (.int .i64 a00) := (hb1.cell (p := ⟨w.heap.size, 0, none⟩) (by first | (show w.heap.size < _; omega) | (show w.heap.size < _; simp; done) | (show w.heap.size < _; simp; omega))).trans (by first | assumption | (go_simp; done)); have q_w1_0_1 : w1.cell? ⟨w.heap.size, 1, none⟩ = some (.int .i64 a01) := (hb1.cell (p := ⟨w.heap.size, 1, none⟩) (by first | (show w.heap.size < _; omega) | (show w.heap.size < _; simp; done) | (show w.heap.size < _; simp; omega))).trans (by first | assumption | (go_simp; done)))
    | (go_at_call 11; (with_reducible refine (HM.out _).mono ?_); rintro e w2 ⟨rfl, hb2⟩; have s_w2 := hb2.size; (try simp only [World.size_alloc, World.size_setCell, World.size_drew, sz_drewN] at s_w2))
    | (go_at_call 10; (with_reducible refine (tnew_yes E P F false _ e1 e2 p2 F0 (by omega)).mono ?_); rintro e w3 ⟨⟨t, s, gt, gs, gst, rfl, hT1, hS1⟩, hb3⟩; have s_w3 := hb3.size; (try simp only [World.size_alloc, World.size_setCell, World.size_drew, sz_drewN] at s_w3); have z_w3_0_0 : w2.heap.size < w3.heap.size := (by omega); have z_w3_0_1 : w2.heap.size < w3.heap.size + 1 := (by omega); have z_w3_0_2 : w2.heap.size < w3.heap.size + 1 + 1 := (by omega); have q_w3_0_0 : w3.cell? ⟨w2.heap.size, 0, none⟩ = some (.int .i64 E) := (hb3.cell (p := ⟨w2.heap.size, 0, none⟩) (by first | (show w2.heap.size < _; omega) | (show w2.heap.size < _; simp; done) | (show w2.heap.size < _; simp; omega))).trans (by first | assumption | (go_simp; done)); have q_w3_0_1 : w3.cell? ⟨w2.heap.size, 1, none⟩ = some (.int .i64 P) := (hb3.cell (p := ⟨w2.heap.size, 1, none⟩) (by first | (show w2.heap.size < _; omega) | (show w2.heap.size < _; simp; done) | (show w2.heap.size < _; simp; omega))).trans (by first | assumption | (go_simp; done))))
  have tsz := tc_size hT1
  refine gen_world (F := fun V => TC V t E P false false s (.slice none 0 0) 0 0 0 0 0 0 ∧ Sn V s E P F (0 + 1) ∧ V.cell? ⟨w2.heap.size, 0, none⟩ = some (.int .i64 E) ∧ V.cell? ⟨w2.heap.size, 1, none⟩ = some (.int .i64 P) ∧ w2.heap.size < s ∧ w.heap.size ≤ w2.heap.size ∧ t < V.heap.size ∧ Below w.heap.size w V) ⟨hT1, (by show Sn _ s E P F 1; exact hS1), q_w3_0_0, q_w3_0_1, by simp at gs; omega, by omega, tsz, (by have s0_ := hb1.size; have s1_ := hb2.size; have s2_ := hb3.size; (try simp only [World.size_alloc, World.size_setCell, World.size_drew, sz_drewN] at s0_ s1_ s2_); repeat' (first | (with_reducible exact Below.refl _ _) | (with_reducible refine bel_call ?_ ?_ hb3) | (with_reducible refine bel_call ?_ ?_ hb2) | (with_reducible refine bel_call ?_ ?_ hb1) | (with_reducible refine Below.alloc ?_ ?_ _) | (with_reducible refine below_drewN ?_ _) | (with_reducible refine Below.drew ?_) | (with_reducible refine Below.setCell ?_ ?_ _) | omega | (simp; omega) | (simp; done)))⟩ ?_
  clear hb1 hb2 hb3 s_w1 s_w2 s_w3 gs gt hT1 hS1 HM tsz q_w3_0_0 q_w3_0_1 q_w1_0_0 q_w1_0_1
  generalize w2.heap.size = Q at *
  rintro V ⟨hT, hS, c0, c1, gs, gq, tsz, hbv⟩
  have HT := Lib.hid hT
  have HS := Lib.hid hS
  clear hT hS
  obtain ⟨base, hbase⟩ : ∃ b, V.heap.size = b := ⟨_, rfl⟩
  rw [hbase] at tsz
  have hbs : w.heap.size ≤ base := by rw [← hbase]; exact hbv.size
  go_wp2
  go_loopw [11, 12] (fun s11 s12 wr => ∃ (k : Nat) (now : Int) (p : Option Addr) (cap : Nat) (xs : List Value), s11 = .int .i64 now ∧ s12 = .int .i64 k ∧ k ≤ 60 ∧ k ≤ len2 ∧ 0 ≤ now ∧ now ≤ Win.rel E P (k + 1) + F ∧
    TC wr t E P false false s (.slice p k cap) 0 0 0 0 0 0 ∧ Sn wr s E P F (k + 1) ∧ wr.ownsRow base 33 5 (.slice p k cap) k xs ∧ wr.cell? ⟨Q, 0, none⟩ = some (.int .i64 E) ∧ wr.cell? ⟨Q, 1, none⟩ = some (.int .i64 P) ∧ base ≤ wr.heap.size ∧ Below w.heap.size w wr) (fun _ s12 _ => 60 - (intOf s12).toNat)
  case atStart =>
    have hr1 : F ≤ Win.rel E P (((0 : Nat) : Int) + 1) + F := by
      have : Win.rel E P (((0 : Nat) : Int) + 1) = 0 := by unfold Win.rel; simp
      omega
    exact ⟨0, F, none, 0, [], rfl, rfl, by omega, by omega, F0, hr1, HT.out, HS.out, World.ownsRow_nil _ _ _ _, c0, c1, by omega, hbv⟩
  case round =>
    clear HT HS c0 c1 hbv hbase
    obtain ⟨k, now, p, cap, xs, rfl, rfl, hk, hk2, n0, n1, hT, hS, hO, c0, c1, hbb, hbv⟩ := hrel
    have HT := Lib.hid hT
    have HS := Lib.hid hS
    have HO := Lib.hid hO
    have hlt0 := Lib.hid hO.lt
    have hs := hbv.size
    clear hT hS hO
    by_cases hlt : k < len2 ∧ k < 60
    · obtain ⟨hl1, hl2⟩ := hlt
      obtain ⟨x, rfl, xb, z, hz, hcap⟩ := HZ.out k hl1
      have hcell : wr.cell? (x.add k) = some (.int .i64 z) := (hbv.cell (p := x.add k) (by rw [add_block]; exact xb)).trans hz
      obtain ⟨d1, d2, d3, d4, d5, d6⟩ := sn_bd E P (k + 1) e1 e2 p2 (by omega) (by omega)
      have hrm := rel_mono1 E P (k + 1) (by omega) (by omega)
      have hrb : Win.rel E P (k + 1) ≤ 62914560 := by
        have h1 : ((k : Int) + 1 - 1) * P ≤ 60 * P := Int.mul_le_mul_of_nonneg_right (by omega) (by omega)
        have h2 : Win.rel E P (k + 1) ≤ ((k : Int) + 1 - 1) * P := Int.ediv_le_self _ (Int.mul_nonneg (by omega) (by omega))
        omega
      have hof := fun w => rof_yes E P (k + 1) F w e1 e2 p2 (by omega) (by omega) F0 (by omega)
      obtain ⟨R, hR⟩ : ∃ x, Win.rel E P (k + 1) + F = x := ⟨_, rfl⟩
      obtain ⟨D, hD⟩ : ∃ x, Win.dl E P (k + 1) + F = x := ⟨_, rfl⟩
      obtain ⟨B, hB⟩ : ∃ x, Win.bit E P (k + 1) = x := ⟨_, rfl⟩
      obtain ⟨G, hG⟩ : ∃ x, shG F (Win.grp E P (k + 1)) = x := ⟨_, rfl⟩
      rw [hR, hD, hB, hG] at hof
      have R0 : 0 ≤ R := by omega
      have R1 : R ≤ 1137000000 := by omega
      have nR : now ≤ R := by omega
      have hrm' : R ≤ Win.rel E P (k + 1 + 1) + F := by omega
      have HOF := Lib.hid hof
      have HR := Lib.hid hR
      have HD := Lib.hid hD
      have HB := Lib.hid hB
      have HG := Lib.hid hG
      obtain ⟨bz, hbz, z0, z1⟩ : ∃ o, bits .and .i64 z 15 = o ∧ 0 ≤ o ∧ o ≤ 15 := ⟨_, mask4 z, by omega, by omega⟩
      clear hof hz hR hD hB hG d1 d2 d3 d4 d5 d6 n1 hrm hrb
      go_upto_region 12 with (go_at_call 18; (with_reducible refine (HOF.out _).mono ?_); rintro e w5 ⟨rfl, hb5⟩; have s5 := hb5.size)
      refine gen_world (F := fun V2 => TC V2 t E P false false s (.slice p k cap) 0 0 0 0 0 0 ∧ Sn V2 s E P F (k + 1) ∧ V2.ownsRow base 33 5 (.slice p k cap) k xs ∧ V2.cell? ⟨Q, 0, none⟩ = some (.int .i64 E) ∧ V2.cell? ⟨Q, 1, none⟩ = some (.int .i64 P) ∧ V2.cell? ⟨w5.heap.size, 0, none⟩ = some (.int .i64 (k + 1)) ∧ V2.cell? ⟨w5.heap.size, 1, none⟩ = some (.int .i64 (R)) ∧ V2.cell? ⟨w5.heap.size, 2, none⟩ = some (.int .i64 (D)) ∧ V2.cell? ⟨w5.heap.size, 3, none⟩ = some (.int .i64 (B)) ∧ V2.cell? ⟨w5.heap.size, 4, none⟩ = some (.int .i64 (G)) ∧ (∀ o, V2.frozen? ⟨w5.heap.size, o, none⟩ = false) ∧ w5.heap.size < V2.heap.size ∧ V2.cell? (x.add k) = some (.int .i64 z) ∧ wr.heap.size ≤ w5.heap.size ∧ Below w.heap.size w V2)
        ⟨(HT.out.keepb hb5).keepb (by repeat' (first | (with_reducible exact Below.refl _ _) | (with_reducible refine Below.alloc ?_ ?_ _) | (with_reducible refine below_drewN ?_ _) | (with_reducible refine Below.drew ?_) | (with_reducible refine Below.setCell ?_ ?_ _) | omega | (simp; omega) | (simp; done))), (HS.out.keepb hb5).keepb (by repeat' (first | (with_reducible exact Below.refl _ _) | (with_reducible refine Below.alloc ?_ ?_ _) | (with_reducible refine below_drewN ?_ _) | (with_reducible refine Below.drew ?_) | (with_reducible refine Below.setCell ?_ ?_ _) | omega | (simp; omega) | (simp; done))), (owns_only HO.out (only_of_below (b := wr.heap.size) hb5) (fun g hg => by have := (hlt0.out g hg).2; omega)).alloc _, ?_, ?_, ?_, ?_, ?_, ?_, ?_, ?_, ?_, ?_, s5, (bel_call hbv hs hb5).alloc (by omega) _⟩ ?_
      · exact (World.cell?_alloc_past _ _ _ (by omega)).trans ((hb5.cell (p := ⟨Q, 0, none⟩) (by show Q < _; omega)).trans c0)
      · exact (World.cell?_alloc_past _ _ _ (by omega)).trans ((hb5.cell (p := ⟨Q, 1, none⟩) (by show Q < _; omega)).trans c1)
      iterate 5 (focus (go_simp; done))
      · intro o; go_simp
      · simp
      · exact (World.cell?_alloc_lt _ _ _ (by rw [add_block]; omega)).trans ((hb5.cell (p := x.add k) (by rw [add_block]; omega)).trans hcell)
      generalize w5.heap.size = Y at *
      have HP := Lib.hid (fun g (hg : (Value.slice p k cap).ownBlock = some g) => (⟨by have := (hlt0.out g hg).1; omega, by have := (hlt0.out g hg).1; omega⟩ : g ≠ t ∧ g ≠ s))
      clear hb5 hcell c0 c1 HT HS HO hbv
      rintro V2 ⟨hT, hS, hO, v0, v1, y0, y1, y2, y3, y4, yf, ys, hcell, s5', hbv⟩
      have HT2 := Lib.hid hT
      have HS2 := Lib.hid hS
      have HO2 := Lib.hid hO
      clear hT hS hO
      have kl : (k : Int) < (len2 : Int) := by omega
      have hk1 : Hid (((k + 1 : Nat) : Int) = (k : Int) + 1) := by show _ = _; omega
      by_cases hcm : now < R - bz
      · have HMX : Hid (F + max (R - bz - (Win.rel E P (k + 1) + F)) 0 = F) := by show _ = _; rw [HR.out]; omega
        go_quiet (fail)
        go_upto_region 17 with (go_at_call 12; (with_reducible refine (arrive_one t s E P F (k + 1) (R - bz) F R D B G false p k cap xs 0 0 0 0 0 0 base _ HMX.out HR.out HD.out HB.out HG.out ?_ ?_ ?_ ?_ HP.out e1 e2 p2 ?_ ?_ F0 ?_ ?_ ?_ ?_ ?_).mono ?_); (focus (exact HT2.out.keepb (by repeat' (first | (with_reducible exact Below.refl _ _) | (with_reducible refine Below.alloc ?_ ?_ _) | (with_reducible refine below_drewN ?_ _) | (with_reducible refine Below.drew ?_) | (with_reducible refine Below.setCell ?_ ?_ _) | omega | (simp; omega) | (simp; done))))); (focus (exact HS2.out.keepb (by repeat' (first | (with_reducible exact Below.refl _ _) | (with_reducible refine Below.alloc ?_ ?_ _) | (with_reducible refine below_drewN ?_ _) | (with_reducible refine Below.drew ?_) | (with_reducible refine Below.setCell ?_ ?_ _) | omega | (simp; omega) | (simp; done))))); (focus (exact HO2.out)); (focus (omega)); (focus (omega)); (focus (omega)); (focus (omega)); (focus (omega)); (focus (omega)); (focus (omega)); (focus (first | omega | (simp; done) | (simp; omega))); rintro e w6 ⟨rfl, ⟨p6, cap6, hT6, hS6, hO6, hn6⟩, hk6⟩; have HK6 := Lib.hid hk6; have HT6 := Lib.hid hT6; have HS6 := Lib.hid hS6; have HO6 := Lib.hid hO6; have HN6 := Lib.hid hn6; have tz6 := tc_size hT6; have t56 := hT6.2.2.2.2.2.1; clear hk6 hT6 hS6 hO6 hn6)
        obtain ⟨g, rfl, hc6, gg, gsz, hcells⟩ := owns_some HO6.out (by omega)
        have hxl : xs.length = k * 5 := HO2.out.1
        have ct : ∀ j v, [Value.int .i64 (k + 1), .int .i64 R, .int .i64 D, .int .i64 B, .int .i64 G][j]? = some v → j < 5 → w6.cell? ⟨g, k * 5 + j, none⟩ = some v := by
          intro j v hv hj
          rw [hcells (k * 5 + j) (by omega), List.getElem?_append_right (by omega), hxl, show k * 5 + j - k * 5 = j by omega]
          exact hv
        have hla := fun w7 (h : Below w6.heap.size w6 w7) => last_some t g k cap6 (k + 1) R D B G w7 ((h.cell (p := ⟨t, 5, none⟩) tz6).trans t56) (Nat.lt_of_lt_of_le tz6 h.size) (by omega) ((h.cell (p := ⟨g, k * 5, none⟩) gsz).trans (ct 0 _ rfl (by omega))) ((h.cell (p := ⟨g, k * 5 + 1, none⟩) gsz).trans (ct 1 _ rfl (by omega))) ((h.cell (p := ⟨g, k * 5 + 2, none⟩) gsz).trans (ct 2 _ rfl (by omega))) ((h.cell (p := ⟨g, k * 5 + 3, none⟩) gsz).trans (ct 3 _ rfl (by omega))) ((h.cell (p := ⟨g, k * 5 + 4, none⟩) gsz).trans (ct 4 _ rfl (by omega))) (Nat.lt_of_lt_of_le gsz h.size)
        have HLA := Lib.hid hla
        have kc : ∀ c j v, c < V2.heap.size → (c ≠ t ∧ c ≠ s ∧ (Value.slice p k cap).ownBlock ≠ some c) → V2.cell? ⟨c, j, none⟩ = some v → w6.cell? ⟨c, j, none⟩ = some v := fun c j v hc hn hv => (HK6.out.cell (p := ⟨c, j, none⟩) hc (fun h => by rcases h with h | h | h; exact hn.1 h; exact hn.2.1 h; exact hn.2.2 h)).trans hv
        have nY : Y ≠ t ∧ Y ≠ s ∧ (Value.slice p k cap).ownBlock ≠ some Y := ⟨by omega, by omega, fun h => by have := (hlt0.out Y h).2; omega⟩
        have nQ : Q ≠ t ∧ Q ≠ s ∧ (Value.slice p k cap).ownBlock ≠ some Q := ⟨by omega, by omega, fun h => by have := (hlt0.out Q h).1; omega⟩
        have m0 := kc Y 0 _ ys nY y0
        have m1 := kc Y 1 _ ys nY y1
        have m2 := kc Y 2 _ ys nY y2
        have m3 := kc Y 3 _ ys nY y3
        have m4 := kc Y 4 _ ys nY y4
        have mq0 := kc Q 0 _ (by omega) nQ v0
        have mq1 := kc Q 1 _ (by omega) nQ v1
        have Y6 : Y < w6.heap.size := World.block_lt_of_cell? w6 _ m0
        have Q6 : Q < w6.heap.size := World.block_lt_of_cell? w6 _ mq0
        have hb6 : Below w.heap.size w w6 := bel_chain0 (below_drewN hbv _) (HK6.out.to_below (by have := hbv.size; simpa using this) (fun c hc h => by
          rcases h with h | h | h
          · omega
          · omega
          · have := (hlt0.out c h).1; omega))
        have s6 := HK6.out.size
        have bs6 : base ≤ w6.heap.size := by simp at s6; omega
        clear hcells hla ct kc
        go_wp2_with (go_at_call 19; (with_reducible refine (HLA.out _ ?_).mono ?_); (focus (exact (by repeat' (first | (with_reducible exact Below.refl _ _) | (with_reducible refine Below.alloc ?_ ?_ _) | (with_reducible refine below_drewN ?_ _) | (with_reducible refine Below.drew ?_) | (with_reducible refine Below.setCell ?_ ?_ _) | omega | (simp; omega) | (simp; done))))); rintro e w8 ⟨rfl, hb8⟩; have s_w8 := hb8.size; (try simp only [World.size_alloc, World.size_setCell, World.size_drew, sz_drewN] at s_w8); have z_w8_0_0 : Y < w8.heap.size := (by omega); have z_w8_0_1 : Y < w8.heap.size + 1 := (by omega); have z_w8_0_2 : Y < w8.heap.size + 1 + 1 := (by omega); have q_w8_0_0 : w8.cell? ⟨Y, 0, none⟩ = some (.int .i64 (k + 1)) := (hb8.cell (p := ⟨Y, 0, none⟩) (by first | (show Y < _; omega) | (show Y < _; simp; done) | (show Y < _; simp; omega))).trans (by first | assumption | (go_simp; done)); have q_w8_0_1 : w8.cell? ⟨Y, 1, none⟩ = some (.int .i64 R) := (hb8.cell (p := ⟨Y, 1, none⟩) (by first | (show Y < _; omega) | (show Y < _; simp; done) | (show Y < _; simp; omega))).trans (by first | assumption | (go_simp; done)); have q_w8_0_2 : w8.cell? ⟨Y, 2, none⟩ = some (.int .i64 D) := (hb8.cell (p := ⟨Y, 2, none⟩) (by first | (show Y < _; omega) | (show Y < _; simp; done) | (show Y < _; simp; omega))).trans (by first | assumption | (go_simp; done)); have q_w8_0_3 : w8.cell? ⟨Y, 3, none⟩ = some (.int .i64 B) := (hb8.cell (p := ⟨Y, 3, none⟩) (by first | (show Y < _; omega) | (show Y < _; simp; done) | (show Y < _; simp; omega))).trans (by first | assumption | (go_simp; done)); have q_w8_0_4 : w8.cell? ⟨Y, 4, none⟩ = some (.int .i64 G) := (hb8.cell (p := ⟨Y, 4, none⟩) (by first | (show Y < _; omega) | (show Y < _; simp; done) | (show Y < _; simp; omega))).trans (by first | assumption | (go_simp; done)); have z_w8_1_0 : Q < w8.heap.size := (by omega); have z_w8_1_1 : Q < w8.heap.size + 1 := (by omega); have z_w8_1_2 : Q < w8.heap.size + 1 + 1 := (by omega); have q_w8_1_0 : w8.cell? ⟨Q, 0, none⟩ = some (.int .i64 E) := (hb8.cell (p := ⟨Q, 0, none⟩) (by first | (show Q < _; omega) | (show Q < _; simp; done) | (show Q < _; simp; omega))).trans (by first | assumption | (go_simp; done)); have q_w8_1_1 : w8.cell? ⟨Q, 1, none⟩ = some (.int .i64 P) := (hb8.cell (p := ⟨Q, 1, none⟩) (by first | (show Q < _; omega) | (show Q < _; simp; done) | (show Q < _; simp; omega))).trans (by first | assumption | (go_simp; done)))
        go_roundw
        case rel => first | exact ⟨k + 1, R - bz, some ⟨g, 0, none⟩, cap6, xs ++ [.int .i64 (k + 1), .int .i64 R, .int .i64 D, .int .i64 B, .int .i64 G], by go_num, by go_num, by omega, by omega, by omega, by rw [hk1.out]; omega, (HT6.out.keepb hb8).keepb (by repeat' (first | (with_reducible exact Below.refl _ _) | (with_reducible refine Below.alloc ?_ ?_ _) | (with_reducible refine below_drewN ?_ _) | (with_reducible refine Below.drew ?_) | (with_reducible refine Below.setCell ?_ ?_ _) | omega | (simp; omega) | (simp; done))), by rw [hk1.out]; exact (HS6.out.keepb hb8).keepb (by repeat' (first | (with_reducible exact Below.refl _ _) | (with_reducible refine Below.alloc ?_ ?_ _) | (with_reducible refine below_drewN ?_ _) | (with_reducible refine Below.drew ?_) | (with_reducible refine Below.setCell ?_ ?_ _) | omega | (simp; omega) | (simp; done))), (owns_only HO6.out (only_of_below (b := w6.heap.size) hb8) (fun g' hg => by have := (HO6.out.lt g' hg).2; omega)).alloc _, (World.cell?_alloc_past _ _ _ (by omega)).trans q_w8_1_0, (World.cell?_alloc_past _ _ _ (by omega)).trans q_w8_1_1, by simp; omega, (bel_call hb6 hb6.size hb8).alloc (by omega) _⟩ | ((repeat apply Exists.intro); exact ⟨⟨k + 1, R - bz, some ⟨g, 0, none⟩, cap6, xs ++ [.int .i64 (k + 1), .int .i64 R, .int .i64 D, .int .i64 B, .int .i64 G], by go_num, by go_num, by omega, by omega, by omega, by rw [hk1.out]; omega, (HT6.out.keepb hb8).keepb (by repeat' (first | (with_reducible exact Below.refl _ _) | (with_reducible refine Below.alloc ?_ ?_ _) | (with_reducible refine below_drewN ?_ _) | (with_reducible refine Below.drew ?_) | (with_reducible refine Below.setCell ?_ ?_ _) | omega | (simp; omega) | (simp; done))), by rw [hk1.out]; exact (HS6.out.keepb hb8).keepb (by repeat' (first | (with_reducible exact Below.refl _ _) | (with_reducible refine Below.alloc ?_ ?_ _) | (with_reducible refine below_drewN ?_ _) | (with_reducible refine Below.drew ?_) | (with_reducible refine Below.setCell ?_ ?_ _) | omega | (simp; omega) | (simp; done))), (owns_only HO6.out (only_of_below (b := w6.heap.size) hb8) (fun g' hg => by have := (HO6.out.lt g' hg).2; omega)).alloc _, (World.cell?_alloc_past _ _ _ (by omega)).trans q_w8_1_0, (World.cell?_alloc_past _ _ _ (by omega)).trans q_w8_1_1, by simp; omega, (bel_call hb6 hb6.size hb8).alloc (by omega) _⟩, rfl⟩)
        case measure => simp [intOf]; omega
      · have HMX : Hid (F + max (now - (Win.rel E P (k + 1) + F)) 0 = F) := by show _ = _; rw [HR.out]; omega
        go_quiet (fail)
        go_upto_region 17 with (go_at_call 12; (with_reducible refine (arrive_one t s E P F (k + 1) now F R D B G false p k cap xs 0 0 0 0 0 0 base _ HMX.out HR.out HD.out HB.out HG.out ?_ ?_ ?_ ?_ HP.out e1 e2 p2 ?_ ?_ F0 ?_ ?_ ?_ ?_ ?_).mono ?_); (focus (exact HT2.out.keepb (by repeat' (first | (with_reducible exact Below.refl _ _) | (with_reducible refine Below.alloc ?_ ?_ _) | (with_reducible refine below_drewN ?_ _) | (with_reducible refine Below.drew ?_) | (with_reducible refine Below.setCell ?_ ?_ _) | omega | (simp; omega) | (simp; done))))); (focus (exact HS2.out.keepb (by repeat' (first | (with_reducible exact Below.refl _ _) | (with_reducible refine Below.alloc ?_ ?_ _) | (with_reducible refine below_drewN ?_ _) | (with_reducible refine Below.drew ?_) | (with_reducible refine Below.setCell ?_ ?_ _) | omega | (simp; omega) | (simp; done))))); (focus (exact HO2.out)); (focus (omega)); (focus (omega)); (focus (omega)); (focus (omega)); (focus (omega)); (focus (omega)); (focus (omega)); (focus (first | omega | (simp; done) | (simp; omega))); rintro e w6 ⟨rfl, ⟨p6, cap6, hT6, hS6, hO6, hn6⟩, hk6⟩; have HK6 := Lib.hid hk6; have HT6 := Lib.hid hT6; have HS6 := Lib.hid hS6; have HO6 := Lib.hid hO6; have HN6 := Lib.hid hn6; have tz6 := tc_size hT6; have t56 := hT6.2.2.2.2.2.1; clear hk6 hT6 hS6 hO6 hn6)
        obtain ⟨g, rfl, hc6, gg, gsz, hcells⟩ := owns_some HO6.out (by omega)
        have hxl : xs.length = k * 5 := HO2.out.1
        have ct : ∀ j v, [Value.int .i64 (k + 1), .int .i64 R, .int .i64 D, .int .i64 B, .int .i64 G][j]? = some v → j < 5 → w6.cell? ⟨g, k * 5 + j, none⟩ = some v := by
          intro j v hv hj
          rw [hcells (k * 5 + j) (by omega), List.getElem?_append_right (by omega), hxl, show k * 5 + j - k * 5 = j by omega]
          exact hv
        have hla := fun w7 (h : Below w6.heap.size w6 w7) => last_some t g k cap6 (k + 1) R D B G w7 ((h.cell (p := ⟨t, 5, none⟩) tz6).trans t56) (Nat.lt_of_lt_of_le tz6 h.size) (by omega) ((h.cell (p := ⟨g, k * 5, none⟩) gsz).trans (ct 0 _ rfl (by omega))) ((h.cell (p := ⟨g, k * 5 + 1, none⟩) gsz).trans (ct 1 _ rfl (by omega))) ((h.cell (p := ⟨g, k * 5 + 2, none⟩) gsz).trans (ct 2 _ rfl (by omega))) ((h.cell (p := ⟨g, k * 5 + 3, none⟩) gsz).trans (ct 3 _ rfl (by omega))) ((h.cell (p := ⟨g, k * 5 + 4, none⟩) gsz).trans (ct 4 _ rfl (by omega))) (Nat.lt_of_lt_of_le gsz h.size)
        have HLA := Lib.hid hla
        have kc : ∀ c j v, c < V2.heap.size → (c ≠ t ∧ c ≠ s ∧ (Value.slice p k cap).ownBlock ≠ some c) → V2.cell? ⟨c, j, none⟩ = some v → w6.cell? ⟨c, j, none⟩ = some v := fun c j v hc hn hv => (HK6.out.cell (p := ⟨c, j, none⟩) hc (fun h => by rcases h with h | h | h; exact hn.1 h; exact hn.2.1 h; exact hn.2.2 h)).trans hv
        have nY : Y ≠ t ∧ Y ≠ s ∧ (Value.slice p k cap).ownBlock ≠ some Y := ⟨by omega, by omega, fun h => by have := (hlt0.out Y h).2; omega⟩
        have nQ : Q ≠ t ∧ Q ≠ s ∧ (Value.slice p k cap).ownBlock ≠ some Q := ⟨by omega, by omega, fun h => by have := (hlt0.out Q h).1; omega⟩
        have m0 := kc Y 0 _ ys nY y0
        have m1 := kc Y 1 _ ys nY y1
        have m2 := kc Y 2 _ ys nY y2
        have m3 := kc Y 3 _ ys nY y3
        have m4 := kc Y 4 _ ys nY y4
        have mq0 := kc Q 0 _ (by omega) nQ v0
        have mq1 := kc Q 1 _ (by omega) nQ v1
        have Y6 : Y < w6.heap.size := World.block_lt_of_cell? w6 _ m0
        have Q6 : Q < w6.heap.size := World.block_lt_of_cell? w6 _ mq0
        have hb6 : Below w.heap.size w w6 := bel_chain0 (below_drewN hbv _) (HK6.out.to_below (by have := hbv.size; simpa using this) (fun c hc h => by
          rcases h with h | h | h
          · omega
          · omega
          · have := (hlt0.out c h).1; omega))
        have s6 := HK6.out.size
        have bs6 : base ≤ w6.heap.size := by simp at s6; omega
        clear hcells hla ct kc
        go_wp2_with (go_at_call 19; (with_reducible refine (HLA.out _ ?_).mono ?_); (focus (exact (by repeat' (first | (with_reducible exact Below.refl _ _) | (with_reducible refine Below.alloc ?_ ?_ _) | (with_reducible refine below_drewN ?_ _) | (with_reducible refine Below.drew ?_) | (with_reducible refine Below.setCell ?_ ?_ _) | omega | (simp; omega) | (simp; done))))); rintro e w8 ⟨rfl, hb8⟩; have s_w8 := hb8.size; (try simp only [World.size_alloc, World.size_setCell, World.size_drew, sz_drewN] at s_w8); have z_w8_0_0 : Y < w8.heap.size := (by omega); have z_w8_0_1 : Y < w8.heap.size + 1 := (by omega); have z_w8_0_2 : Y < w8.heap.size + 1 + 1 := (by omega); have q_w8_0_0 : w8.cell? ⟨Y, 0, none⟩ = some (.int .i64 (k + 1)) := (hb8.cell (p := ⟨Y, 0, none⟩) (by first | (show Y < _; omega) | (show Y < _; simp; done) | (show Y < _; simp; omega))).trans (by first | assumption | (go_simp; done)); have q_w8_0_1 : w8.cell? ⟨Y, 1, none⟩ = some (.int .i64 R) := (hb8.cell (p := ⟨Y, 1, none⟩) (by first | (show Y < _; omega) | (show Y < _; simp; done) | (show Y < _; simp; omega))).trans (by first | assumption | (go_simp; done)); have q_w8_0_2 : w8.cell? ⟨Y, 2, none⟩ = some (.int .i64 D) := (hb8.cell (p := ⟨Y, 2, none⟩) (by first | (show Y < _; omega) | (show Y < _; simp; done) | (show Y < _; simp; omega))).trans (by first | assumption | (go_simp; done)); have q_w8_0_3 : w8.cell? ⟨Y, 3, none⟩ = some (.int .i64 B) := (hb8.cell (p := ⟨Y, 3, none⟩) (by first | (show Y < _; omega) | (show Y < _; simp; done) | (show Y < _; simp; omega))).trans (by first | assumption | (go_simp; done)); have q_w8_0_4 : w8.cell? ⟨Y, 4, none⟩ = some (.int .i64 G) := (hb8.cell (p := ⟨Y, 4, none⟩) (by first | (show Y < _; omega) | (show Y < _; simp; done) | (show Y < _; simp; omega))).trans (by first | assumption | (go_simp; done)); have z_w8_1_0 : Q < w8.heap.size := (by omega); have z_w8_1_1 : Q < w8.heap.size + 1 := (by omega); have z_w8_1_2 : Q < w8.heap.size + 1 + 1 := (by omega); have q_w8_1_0 : w8.cell? ⟨Q, 0, none⟩ = some (.int .i64 E) := (hb8.cell (p := ⟨Q, 0, none⟩) (by first | (show Q < _; omega) | (show Q < _; simp; done) | (show Q < _; simp; omega))).trans (by first | assumption | (go_simp; done)); have q_w8_1_1 : w8.cell? ⟨Q, 1, none⟩ = some (.int .i64 P) := (hb8.cell (p := ⟨Q, 1, none⟩) (by first | (show Q < _; omega) | (show Q < _; simp; done) | (show Q < _; simp; omega))).trans (by first | assumption | (go_simp; done)))
        go_roundw
        case rel => first | exact ⟨k + 1, now, some ⟨g, 0, none⟩, cap6, xs ++ [.int .i64 (k + 1), .int .i64 R, .int .i64 D, .int .i64 B, .int .i64 G], by go_num, by go_num, by omega, by omega, by omega, by rw [hk1.out]; omega, (HT6.out.keepb hb8).keepb (by repeat' (first | (with_reducible exact Below.refl _ _) | (with_reducible refine Below.alloc ?_ ?_ _) | (with_reducible refine below_drewN ?_ _) | (with_reducible refine Below.drew ?_) | (with_reducible refine Below.setCell ?_ ?_ _) | omega | (simp; omega) | (simp; done))), by rw [hk1.out]; exact (HS6.out.keepb hb8).keepb (by repeat' (first | (with_reducible exact Below.refl _ _) | (with_reducible refine Below.alloc ?_ ?_ _) | (with_reducible refine below_drewN ?_ _) | (with_reducible refine Below.drew ?_) | (with_reducible refine Below.setCell ?_ ?_ _) | omega | (simp; omega) | (simp; done))), (owns_only HO6.out (only_of_below (b := w6.heap.size) hb8) (fun g' hg => by have := (HO6.out.lt g' hg).2; omega)).alloc _, (World.cell?_alloc_past _ _ _ (by omega)).trans q_w8_1_0, (World.cell?_alloc_past _ _ _ (by omega)).trans q_w8_1_1, by simp; omega, (bel_call hb6 hb6.size hb8).alloc (by omega) _⟩ | ((repeat apply Exists.intro); exact ⟨⟨k + 1, now, some ⟨g, 0, none⟩, cap6, xs ++ [.int .i64 (k + 1), .int .i64 R, .int .i64 D, .int .i64 B, .int .i64 G], by go_num, by go_num, by omega, by omega, by omega, by rw [hk1.out]; omega, (HT6.out.keepb hb8).keepb (by repeat' (first | (with_reducible exact Below.refl _ _) | (with_reducible refine Below.alloc ?_ ?_ _) | (with_reducible refine below_drewN ?_ _) | (with_reducible refine Below.drew ?_) | (with_reducible refine Below.setCell ?_ ?_ _) | omega | (simp; omega) | (simp; done))), by rw [hk1.out]; exact (HS6.out.keepb hb8).keepb (by repeat' (first | (with_reducible exact Below.refl _ _) | (with_reducible refine Below.alloc ?_ ?_ _) | (with_reducible refine below_drewN ?_ _) | (with_reducible refine Below.drew ?_) | (with_reducible refine Below.setCell ?_ ?_ _) | omega | (simp; omega) | (simp; done))), (owns_only HO6.out (only_of_below (b := w6.heap.size) hb8) (fun g' hg => by have := (HO6.out.lt g' hg).2; omega)).alloc _, (World.cell?_alloc_past _ _ _ (by omega)).trans q_w8_1_0, (World.cell?_alloc_past _ _ _ (by omega)).trans q_w8_1_1, by simp; omega, (bel_call hb6 hb6.size hb8).alloc (by omega) _⟩, rfl⟩)
        case measure => simp [intOf]; omega
    · by_cases hc : k < len2
      · have h60 : ¬ k < 60 := by omega
        clear hlt
        go_wp2
        go_ret
        exact ⟨rfl, hbv⟩
      · clear hlt
        go_wp2
        go_ret
        exact ⟨rfl, hbv⟩
end Go.Proofs.Ytkmgkggkdmlkeaa
