/- Contract of place.Check. -/
import Derived.Test.YtnjdomfhjhlamaaPm
namespace Go.Proofs.Ytnjdomfhjhlamaa
open Go.RowKit
set_option linter.unusedVariables false
set_option linter.unusedSimpArgs false

/-- n runners lie in a row: their IDs, pins, last cores. -/
def Runs (w : World) (v : Value) (n : Nat) (D Pn La : Nat → Int) : Prop :=
  ∃ p cap, v = .slice p n cap ∧ n ≤ cap ∧ (0 < n → ∃ g off, p = some ⟨g, off, none⟩ ∧ g < w.heap.size ∧ ∀ j, j < n → w.cell? ⟨g, off + j * 3, none⟩ = some (.int .i64 (D j)) ∧ w.cell? ⟨g, off + j * 3 + 1, none⟩ = some (.int .i64 (Pn j)) ∧ w.cell? ⟨g, off + j * 3 + 2, none⟩ = some (.int .i64 (La j)))
theorem Runs.keepb {w w' : World} {v : Value} {n : Nat} {D Pn La : Nat → Int} (h : Runs w v n D Pn La) (k : Below w.heap.size w w') : Runs w' v n D Pn La := by
  obtain ⟨p, cap, hv, hc, h⟩ := h
  refine ⟨p, cap, hv, hc, fun hn => ?_⟩
  obtain ⟨g, off, hp, hg, hj⟩ := h hn
  exact ⟨g, off, hp, Nat.lt_of_lt_of_le hg k.size, fun j hj2 => ⟨(k.cell (p := ⟨g, off + j * 3, none⟩) hg).trans (hj j hj2).1, (k.cell (p := ⟨g, off + j * 3 + 1, none⟩) hg).trans (hj j hj2).2.1, (k.cell (p := ⟨g, off + j * 3 + 2, none⟩) hg).trans (hj j hj2).2.2⟩⟩
/-- Runners may be. -/
def Chk (m : Int) (n : Nat) (D Pn La : Nat → Int) : Prop :=
  1 ≤ m ∧ m ≤ 1024 ∧ (n : Int) ≤ m ∧ ∀ i, i < n → (-1 ≤ Pn i ∧ Pn i < m) ∧ (-1 ≤ La i ∧ La i < m) ∧ (∀ k, k < i → D k ≠ D i) ∧ (Pn i ≠ -1 → ∀ k, k < i → Pn k ≠ Pn i)

theorem zero_cores (w : World) : (zeroValue 45).run Try.prog w = .ok (.agg (Array.replicate 1024 (.bool false))) w := by
  have h : (Try.prog.info? 45).map (·.zero) = some (some (.agg (Array.replicate 1024 (.bool false)))) := by kernel_rfl
  obtain ⟨i, hi, hz⟩ := Option.map_eq_some_iff.1 h
  simp [zeroValue, typeInfo, hi, hz]
def ChkRes (m : Int) (n : Nat) (D Pn La : Nat → Int) (e : Ending) : Prop := ∃ B, e = .returned (.bool B) ∧ (B = true ↔ Chk m n D Pn La)
theorem chk_no {m : Int} {n : Nat} {D Pn La : Nat → Int} (h : ¬ Chk m n D Pn La) : ChkRes m n D Pn La (.returned (.bool false)) := ⟨false, rfl, ⟨fun h => (by cases h), fun h' => absurd h' h⟩⟩
theorem chk_yes {m : Int} {n : Nat} {D Pn La : Nat → Int} (h : Chk m n D Pn La) : ChkRes m n D Pn La (.returned (.bool true)) := ⟨true, rfl, ⟨fun _ => h, fun _ => rfl⟩⟩

set_option maxHeartbeats 800000 in
theorem core_any (x m : Int) (w : World) : Calls Try.prog 20 #[.int .i64 x, .int .i64 m] w fun e w' => e = .returned (.bool (decide (-1 ≤ x) && decide (x < m))) ∧ Below w.heap.size w w' := by
  go_enter Try.func20, Try.ntmps20
  cases hk : decide (-1 ≤ x)
  · go_wp2
    go_ret
    exact ⟨by simp, (by repeat' (first | (with_reducible exact Below.refl _ _) | (with_reducible refine Below.alloc ?_ ?_ _) | (with_reducible refine below_drewN ?_ _) | (with_reducible refine Below.drew ?_) | (with_reducible refine Below.setCell ?_ ?_ _) | omega | (simp; omega) | (simp; done)))⟩
  · go_wp2
    go_ret
    exact ⟨by simp, (by repeat' (first | (with_reducible exact Below.refl _ _) | (with_reducible refine Below.alloc ?_ ?_ _) | (with_reducible refine below_drewN ?_ _) | (with_reducible refine Below.drew ?_) | (with_reducible refine Below.setCell ?_ ?_ _) | omega | (simp; omega) | (simp; done)))⟩

theorem core_yes (x m : Int) (w : World) (h : -1 ≤ x ∧ x < m) : Calls Try.prog 20 #[.int .i64 x, .int .i64 m] w fun e w' => e = .returned (.bool true) ∧ Below w.heap.size w w' := by
  have := core_any x m w
  rw [decide_eq_true h.1, decide_eq_true h.2] at this
  exact this
theorem core_no (x m : Int) (w : World) (h : ¬ (-1 ≤ x ∧ x < m)) : Calls Try.prog 20 #[.int .i64 x, .int .i64 m] w fun e w' => e = .returned (.bool false) ∧ Below w.heap.size w w' := by
  have := core_any x m w
  have e : (decide (-1 ≤ x) && decide (x < m)) = false := by
    rw [← Bool.not_eq_true, Bool.and_eq_true, decide_eq_true_eq, decide_eq_true_eq]; exact h
  rw [e] at this
  exact this
/-- Is c the pin of one of the first i? -/
def pinned (Pn : Nat → Int) : Nat → Int → Bool
  | 0, _ => false
  | i + 1, c => pinned Pn i c || (Pn i == c)
theorem pinned_iff (Pn : Nat → Int) (i : Nat) (c : Int) : pinned Pn i c = true ↔ ∃ k, k < i ∧ Pn k = c := by
  induction i with
  | zero => simp [pinned]
  | succ i ih =>
    simp only [pinned, Bool.or_eq_true, ih, beq_iff_eq]
    constructor
    · rintro (⟨k, h1, h2⟩ | h)
      · exact ⟨k, by omega, h2⟩
      · exact ⟨i, by omega, h⟩
    · rintro ⟨k, h1, h2⟩
      by_cases e : k = i
      · subst e; exact .inr h2
      · exact .inl ⟨k, by omega, h2⟩
def RunOK (m : Int) (D Pn La : Nat → Int) (i : Nat) : Prop := (-1 ≤ Pn i ∧ Pn i < m) ∧ (-1 ≤ La i ∧ La i < m) ∧ (∀ k, k < i → D k ≠ D i) ∧ (Pn i ≠ -1 → ∀ k, k < i → Pn k ≠ Pn i)
theorem keep_row {w w' : World} {B : Nat} {p : Addr} {u : Value} (h : w.cell? p = some u) (k : Below B w w') (hp : p.block < B) : w'.cell? p = some u := (k.cell hp).trans h
theorem cell_put_other {w : World} {q o : Nat} {p : Addr} {v : Value} (h : p.block ≠ q) : (w.setCell ⟨q, o, none⟩ v).cell? p = w.cell? p := World.cell?_of_block (w := w) (Below.heap_setCell _ _ _ _ h)

set_option maxRecDepth 8000 in
set_option maxHeartbeats 6400000 in
theorem check_any (v : Value) (n : Nat) (D Pn La : Nat → Int) (m : Int) (w : World) (hR : Runs w v n D Pn La) (hwf : ∀ j, j < n → (Lit.int .i64 (D j)).wf = true) :
    Calls Try.prog 10 #[v, .int .i64 m] w fun e w' => ChkRes m n D Pn La e ∧ Below w.heap.size w w' := by
  obtain ⟨p, cap, rfl, hcap, hr⟩ := hR
  have HR := Lib.hid hr
  clear hr
  go_enter Try.func10, Try.ntmps10
  by_cases h0 : m < 1
  · go_wp2
    go_ret
    exact ⟨chk_no (fun h => by have := h.1; omega), (by repeat' (first | (with_reducible exact Below.refl _ _) | (with_reducible refine Below.alloc ?_ ?_ _) | (with_reducible refine below_drewN ?_ _) | (with_reducible refine Below.drew ?_) | (with_reducible refine Below.setCell ?_ ?_ _) | omega | (simp; omega) | (simp; done)))⟩
  · by_cases h1 : 1024 < m
    · go_wp2
      go_ret
      exact ⟨chk_no (fun h => by have := h.2.1; omega), (by repeat' (first | (with_reducible exact Below.refl _ _) | (with_reducible refine Below.alloc ?_ ?_ _) | (with_reducible refine below_drewN ?_ _) | (with_reducible refine Below.drew ?_) | (with_reducible refine Below.setCell ?_ ?_ _) | omega | (simp; omega) | (simp; done)))⟩
    · by_cases h2 : m < (n : Int)
      · go_wp2
        go_ret
        exact ⟨chk_no (fun h => by have := h.2.2.1; omega), (by repeat' (first | (with_reducible exact Below.refl _ _) | (with_reducible refine Below.alloc ?_ ?_ _) | (with_reducible refine below_drewN ?_ _) | (with_reducible refine Below.drew ?_) | (with_reducible refine Below.setCell ?_ ?_ _) | omega | (simp; omega) | (simp; done)))⟩
      · have hmk := fun (w : World) => run_makeMap (P := Try.prog) 43 w
        have hzc := zero_cores
        go_upto_region 5 with fail
        refine gen_world (F := fun V => IdSet V w.heap.size [] ∧ (∀ c, c < 1024 → V.cell? ⟨w.heap.size + 1, c, none⟩ = some (.bool false)) ∧ (∀ o, V.frozen? ⟨w.heap.size + 1, o, none⟩ = false) ∧ w.heap.size + 1 < V.heap.size ∧ Below w.heap.size w V) ⟨(IdSet.made w).block (Below.heap_alloc _ _ _ (by simp)), fun c hc => ?_, fun o => by go_simp, by simp, (by repeat' (first | (with_reducible exact Below.refl _ _) | (with_reducible refine Below.alloc ?_ ?_ _) | (with_reducible refine below_drewN ?_ _) | (with_reducible refine Below.drew ?_) | (with_reducible refine Below.setCell ?_ ?_ _) | omega | (simp; omega) | (simp; done)))⟩ ?_
        · refine (World.cell?_alloc_at _ _ _ _ (by simp)).trans ?_
          rw [Array.getElem?_replicate, if_pos hc]
        clear hmk hzc
        obtain ⟨q, hq⟩ : ∃ q, w.heap.size + 1 = q := ⟨_, rfl⟩
        obtain ⟨b, hb⟩ : ∃ b, w.heap.size = b := ⟨_, rfl⟩
        rw [hq, hb]
        rintro V ⟨hI, hpin, hfz, hqs, hbv⟩
        go_wp2
        go_loopw [24] (fun s24 wr => ∃ (i : Nat) (ids : List Int), s24 = .int .i64 i ∧ i ≤ n ∧ ids.length = i ∧ IdSet wr b ids ∧ Hid (∀ x, x ∈ ids ↔ ∃ k, k < i ∧ D k = x) ∧ Hid (∀ c : Nat, c < 1024 → wr.cell? ⟨q, c, none⟩ = some (.bool (pinned Pn i c))) ∧ (∀ o, wr.frozen? ⟨q, o, none⟩ = false) ∧ q < wr.heap.size ∧ Hid (∀ k, k < i → RunOK m D Pn La k) ∧ Below b w wr) (fun s24 _ => 2000 - (intOf s24).toNat)
        case atStart => exact ⟨0, [], rfl, by omega, rfl, hI, fun x => by simp, fun c hc => hpin c hc, hfz, hqs, fun k hk => by omega, hbv⟩
        case round =>
          clear hI hpin hfz hqs hbv
          obtain ⟨i, ids, rfl, hi, hil, hI, hids, hpin, hfz, hqs, hok, hbv⟩ := hrel
          have hs := hbv.size
          by_cases hlt : i < n
          · obtain ⟨g, off, rfl, hg, hj⟩ := HR.out (by omega)
            obtain ⟨j0, j1, j2⟩ := hj i hlt
            have c0 := keep_row j0 hbv (by show g < b; omega)
            have c1 := keep_row j1 hbv (by show g < b; omega)
            have c2 := keep_row j2 hbv (by show g < b; omega)
            have il : (i : Int) < n := by omega
            have wk : IntKind.i64.wrap ((i : Int) + 1) = (i : Int) + 1 := wrap_in _ (by omega) (by omega)
            have hwi := hwf i hlt
            have hall : ¬ RunOK m D Pn La i → ¬ Chk m n D Pn La := fun h h' => h (h'.2.2.2 i hlt)
            have hR' : RunOK m D Pn La i ↔ (-1 ≤ Pn i ∧ Pn i < m) ∧ (-1 ≤ La i ∧ La i < m) ∧ D i ∉ ids ∧ (Pn i ≠ -1 → pinned Pn i (Pn i) = false) := by
              unfold RunOK
              refine and_congr_right (fun _ => and_congr_right (fun _ => and_congr ⟨fun h hm => ?_, fun h k hk e => h ((hids.out _).2 ⟨k, hk, e⟩)⟩ (imp_congr_right (fun _ => ⟨fun h => ?_, fun h k hk e => ?_⟩))))
              · obtain ⟨k, hk, e⟩ := (hids.out _).1 hm; exact h k hk e
              · rw [← Bool.not_eq_true, pinned_iff]; rintro ⟨k, hk, e⟩; exact h k hk e
              · have : pinned Pn i (Pn i) = true := (pinned_iff _ _ _).2 ⟨k, hk, e⟩
                rw [h] at this; cases this
            have HALL := Lib.hid hall
            have HRI := Lib.hid hR'
            clear hall hR' j0 j1 j2 hj
            generalize hd : D i = d at *
            generalize hp : Pn i = pn at *
            generalize hla : La i = la at *
            have hgb : g < b := by omega
            have hbq : b < q := by omega
            have hsb : b ≤ wr.heap.size := by omega
            clear hs hg
            go_upto_region 8 with fail
            refine gen_world (F := fun V => IdSet V b ids ∧ Hid (∀ c : Nat, c < 1024 → V.cell? ⟨q, c, none⟩ = some (.bool (pinned Pn i c))) ∧ (∀ o, V.frozen? ⟨q, o, none⟩ = false) ∧ V.cell? ⟨wr.heap.size, 0, none⟩ = some (.int .i64 d) ∧ V.cell? ⟨wr.heap.size, 1, none⟩ = some (.int .i64 pn) ∧ V.cell? ⟨wr.heap.size, 2, none⟩ = some (.int .i64 la) ∧ wr.heap.size < V.heap.size ∧ q < V.heap.size ∧ Below b w V) ⟨hI.block (Below.heap_alloc _ _ _ hI.lt), fun c hc => (World.cell?_alloc_past _ _ _ hqs).trans (hpin.out c hc), fun o => (World.frozen?_alloc_past _ _ _ hqs).trans (hfz o), by go_simp, by go_simp, by go_simp, by simp, by simp; omega, hbv.alloc hsb _⟩ ?_
            have hbZ : b < wr.heap.size := hI.lt
            clear hI hpin hfz hbv c0 c1 c2
            generalize wr.heap.size = Z at *
            rintro V2 ⟨hI, hpin, hfz, y0, y1, y2, hZ, hq2, hbv⟩
            have hs2 := hbv.size
            by_cases cp : -1 ≤ pn ∧ pn < m
            · have HCP := Lib.hid (fun w => core_yes pn m w cp)
              by_cases cl : -1 ≤ la ∧ la < m
              · have HCL := Lib.hid (fun w => core_yes la m w cl)
                have hb56 : ∀ {w5 w6 : World}, Below V2.heap.size V2 w5 → Below w5.heap.size w5 w6 → Below b w w6 := fun h5 h6 => bel_call (bel_call hbv (by omega) h5) (by have := h5.size; omega) h6
                by_cases hid : d ∈ ids
                · have hdd : decide (d ∈ ids) = true := by simpa using hid
                  have hno : ¬ Chk m n D Pn La := HALL.out (fun h => (HRI.out.1 h).2.2.1 hid)
                  go_upto_region 9 with (go_at_call 20; (first | ((with_reducible refine (HCP.out _).mono ?_); rintro e w5 ⟨rfl, hb5⟩; have s_w5 := hb5.size; (try simp only [World.size_alloc, World.size_setCell, World.size_drew, sz_drewN] at s_w5); have z_w5_0_0 : Z < w5.heap.size := (by omega); have z_w5_0_1 : Z < w5.heap.size + 1 := (by omega); have z_w5_0_2 : Z < w5.heap.size + 1 + 1 := (by omega); have q_w5_0_0 : w5.cell? ⟨Z, 0, none⟩ = some (.int .i64 d) := (hb5.cell (p := ⟨Z, 0, none⟩) (by first | (show Z < _; omega) | (show Z < _; simp; done) | (show Z < _; simp; omega))).trans (by first | assumption | (go_simp; done)); have q_w5_0_1 : w5.cell? ⟨Z, 1, none⟩ = some (.int .i64 pn) := (hb5.cell (p := ⟨Z, 1, none⟩) (by first | (show Z < _; omega) | (show Z < _; simp; done) | (show Z < _; simp; omega))).trans (by first | assumption | (go_simp; done)); have q_w5_0_2 : w5.cell? ⟨Z, 2, none⟩ = some (.int .i64 la) := (hb5.cell (p := ⟨Z, 2, none⟩) (by first | (show Z < _; omega) | (show Z < _; simp; done) | (show Z < _; simp; omega))).trans (by first | assumption | (go_simp; done))) | ((with_reducible refine (HCL.out _).mono ?_); rintro e w6 ⟨rfl, hb6⟩; have s_w6 := hb6.size; (try simp only [World.size_alloc, World.size_setCell, World.size_drew, sz_drewN] at s_w6); have z_w6_0_0 : Z < w6.heap.size := (by omega); have z_w6_0_1 : Z < w6.heap.size + 1 := (by omega); have z_w6_0_2 : Z < w6.heap.size + 1 + 1 := (by omega); have q_w6_0_0 : w6.cell? ⟨Z, 0, none⟩ = some (.int .i64 d) := (hb6.cell (p := ⟨Z, 0, none⟩) (by first | (show Z < _; omega) | (show Z < _; simp; done) | (show Z < _; simp; omega))).trans (by first | assumption | (go_simp; done)); have q_w6_0_1 : w6.cell? ⟨Z, 1, none⟩ = some (.int .i64 pn) := (hb6.cell (p := ⟨Z, 1, none⟩) (by first | (show Z < _; omega) | (show Z < _; simp; done) | (show Z < _; simp; omega))).trans (by first | assumption | (go_simp; done)); have q_w6_0_2 : w6.cell? ⟨Z, 2, none⟩ = some (.int .i64 la) := (hb6.cell (p := ⟨Z, 2, none⟩) (by first | (show Z < _; omega) | (show Z < _; simp; done) | (show Z < _; simp; omega))).trans (by first | assumption | (go_simp; done)); have hI5 := hI.block (hb5.block b hI.lt); have hI6 := hI5.block (hb6.block b hI5.lt); have hlk := hI6.look d hwi; rw [hdd] at hlk)))
                  go_wp2
                  go_ret
                  exact ⟨chk_no hno, by rw [hb]; exact hb56 hb5 hb6⟩
                · have hdd : decide (d ∈ ids) = false := by simpa using hid
                  have hids2 : Hid (∀ x, x ∈ d :: ids ↔ ∃ k, k < i + 1 ∧ D k = x) := fun x => by
                    rw [List.mem_cons, hids.out]
                    constructor
                    · rintro (h | ⟨k, h1, h2⟩)
                      · exact ⟨i, by omega, by rw [h]; exact hd⟩
                      · exact ⟨k, by omega, h2⟩
                    · rintro ⟨k, h1, h2⟩
                      by_cases e : k = i
                      · subst e; exact .inl (by rw [← h2]; exact hd)
                      · exact .inr ⟨k, by omega, h2⟩
                  by_cases hp1 : pn = -1
                  · have hok2 : Hid (∀ k, k < i + 1 → RunOK m D Pn La k) := fun k hk => by
                      by_cases e : k = i
                      · subst e; exact HRI.out.2 ⟨cp, cl, hid, fun h => absurd hp1 h⟩
                      · exact hok.out k (by omega)
                    have hpin2 : Hid (∀ c : Nat, pinned Pn (i + 1) c = pinned Pn i c) := fun c => by
                      show (pinned Pn i c || (Pn i == (c : Int))) = _
                      have : (Pn i == (c : Int)) = false := by rw [beq_eq_false_iff_ne]; omega
                      rw [this, Bool.or_false]
                    subst hp1
                    go_upto_region 10 with (go_at_call 20; (first | ((with_reducible refine (HCP.out _).mono ?_); rintro e w5 ⟨rfl, hb5⟩; have s_w5 := hb5.size; (try simp only [World.size_alloc, World.size_setCell, World.size_drew, sz_drewN] at s_w5); have z_w5_0_0 : Z < w5.heap.size := (by omega); have z_w5_0_1 : Z < w5.heap.size + 1 := (by omega); have z_w5_0_2 : Z < w5.heap.size + 1 + 1 := (by omega); have q_w5_0_0 : w5.cell? ⟨Z, 0, none⟩ = some (.int .i64 d) := (hb5.cell (p := ⟨Z, 0, none⟩) (by first | (show Z < _; omega) | (show Z < _; simp; done) | (show Z < _; simp; omega))).trans (by first | assumption | (go_simp; done)); have q_w5_0_1 : w5.cell? ⟨Z, 1, none⟩ = some (.int .i64 (-1)) := (hb5.cell (p := ⟨Z, 1, none⟩) (by first | (show Z < _; omega) | (show Z < _; simp; done) | (show Z < _; simp; omega))).trans (by first | assumption | (go_simp; done)); have q_w5_0_2 : w5.cell? ⟨Z, 2, none⟩ = some (.int .i64 la) := (hb5.cell (p := ⟨Z, 2, none⟩) (by first | (show Z < _; omega) | (show Z < _; simp; done) | (show Z < _; simp; omega))).trans (by first | assumption | (go_simp; done))) | ((with_reducible refine (HCL.out _).mono ?_); rintro e w6 ⟨rfl, hb6⟩; have s_w6 := hb6.size; (try simp only [World.size_alloc, World.size_setCell, World.size_drew, sz_drewN] at s_w6); have z_w6_0_0 : Z < w6.heap.size := (by omega); have z_w6_0_1 : Z < w6.heap.size + 1 := (by omega); have z_w6_0_2 : Z < w6.heap.size + 1 + 1 := (by omega); have q_w6_0_0 : w6.cell? ⟨Z, 0, none⟩ = some (.int .i64 d) := (hb6.cell (p := ⟨Z, 0, none⟩) (by first | (show Z < _; omega) | (show Z < _; simp; done) | (show Z < _; simp; omega))).trans (by first | assumption | (go_simp; done)); have q_w6_0_1 : w6.cell? ⟨Z, 1, none⟩ = some (.int .i64 (-1)) := (hb6.cell (p := ⟨Z, 1, none⟩) (by first | (show Z < _; omega) | (show Z < _; simp; done) | (show Z < _; simp; omega))).trans (by first | assumption | (go_simp; done)); have q_w6_0_2 : w6.cell? ⟨Z, 2, none⟩ = some (.int .i64 la) := (hb6.cell (p := ⟨Z, 2, none⟩) (by first | (show Z < _; omega) | (show Z < _; simp; done) | (show Z < _; simp; omega))).trans (by first | assumption | (go_simp; done)); have hI5 := hI.block (hb5.block b hI.lt); have hI6 := hI5.block (hb6.block b hI5.lt); have hlk := hI6.look d hwi; rw [hdd] at hlk)))
                    refine gen_world (F := fun V => IdSet V b ids ∧ Hid (∀ c : Nat, c < 1024 → V.cell? ⟨q, c, none⟩ = some (.bool (pinned Pn i c))) ∧ (∀ o, V.frozen? ⟨q, o, none⟩ = false) ∧ V.cell? ⟨Z, 0, none⟩ = some (.int .i64 d) ∧ V.cell? ⟨Z, 1, none⟩ = some (.int .i64 (-1)) ∧ Z < V.heap.size ∧ q < V.heap.size ∧ Below b w V) ⟨hI6, fun c hc => (hb6.cell (p := ⟨q, c, none⟩) (by show q < _; have := hb5.size; omega)).trans ((hb5.cell (p := ⟨q, c, none⟩) hq2).trans (hpin.out c hc)), fun o => (hb6.frozen (p := ⟨q, o, none⟩) (by show q < _; have := hb5.size; omega)).trans ((hb5.frozen (p := ⟨q, o, none⟩) hq2).trans (hfz o)), q_w6_0_0, q_w6_0_1, by omega, by omega, hb56 hb5 hb6⟩ ?_
                    clear hI hpin hfz y0 y1 y2 hZ hq2 hbv hb5 hb6 hI5 hI6 hlk hb56 q_w5_0_0 q_w5_0_1 q_w5_0_2 q_w6_0_0 q_w6_0_1 q_w6_0_2 HCP HCL hs2
                    rintro V9 ⟨hI, hpin, hfz, y0, y1, hZ, hq2, hbv⟩
                    have hs9 := hbv.size
                    obtain ⟨w7, hru, hI7, hg7⟩ := hI.put d hwi (by omega)
                    have K7 : Keeps (fun k => k = b) V9 w7 := Keeps.refl.grown hg7 (fun k hk _ => by cases hk; rfl)
                    go_upto_region 11 with fail
                    refine gen_world (F := fun V => IdSet V b (d :: ids) ∧ Hid (∀ c : Nat, c < 1024 → V.cell? ⟨q, c, none⟩ = some (.bool (pinned Pn i c))) ∧ (∀ o, V.frozen? ⟨q, o, none⟩ = false) ∧ V.cell? ⟨Z, 1, none⟩ = some (.int .i64 (-1)) ∧ q < V.heap.size ∧ Below b w V) ⟨hI7, fun c hc => (K7.cell (p := ⟨q, c, none⟩) hq2 (by show ¬ q = b; omega)).trans (hpin.out c hc), fun o => (K7.frozen (p := ⟨q, o, none⟩) hq2 (by show ¬ q = b; omega)).trans (hfz o), (K7.cell (p := ⟨Z, 1, none⟩) hZ (by show ¬ Z = b; omega)).trans y1, by have := K7.size; omega, hbv.trans (K7.to_below (by omega) (fun k hk h => by omega))⟩ ?_
                    clear hI hpin hfz y0 y1 hZ hq2 hbv hs9 hru hI7 hg7 K7
                    rintro V8 ⟨hI, hpin, hfz, y1, hq2, hbv⟩
                    go_wp2
                    go_roundw
                    case rel => first | exact ⟨i + 1, d :: ids, by go_num, by omega, by simp; omega, hI, hids2, fun c hc => (by rw [hpin2.out c]; exact hpin.out c hc), hfz, hq2, hok2, hbv⟩ | ((repeat apply Exists.intro); exact ⟨⟨i + 1, d :: ids, by go_num, by omega, by simp; omega, hI, hids2, fun c hc => (by rw [hpin2.out c]; exact hpin.out c hc), hfz, hq2, hok2, hbv⟩, rfl⟩)
                    case measure => (simp [intOf] <;> omega)
                  · obtain ⟨pk, rfl⟩ : ∃ pk : Nat, pn = pk := ⟨pn.toNat, by omega⟩
                    have pkm : pk < 1024 := by omega
                    have pki : (pk : Int) < 1024 := by omega
                    have hcq : V2.cell? ⟨q, pk, none⟩ = some (.bool (pinned Pn i pk)) := hpin.out pk pkm
                    cases hpb : pinned Pn i pk with
                    | true =>
                      rw [hpb] at hcq
                      have hno : ¬ Chk m n D Pn La := HALL.out (fun h => by have := (HRI.out.1 h).2.2.2 (by omega); rw [hpb] at this; cases this)
                      go_upto_region 9 with (go_at_call 20; (first | ((with_reducible refine (HCP.out _).mono ?_); rintro e w5 ⟨rfl, hb5⟩; have s_w5 := hb5.size; (try simp only [World.size_alloc, World.size_setCell, World.size_drew, sz_drewN] at s_w5); have z_w5_0_0 : Z < w5.heap.size := (by omega); have z_w5_0_1 : Z < w5.heap.size + 1 := (by omega); have z_w5_0_2 : Z < w5.heap.size + 1 + 1 := (by omega); have q_w5_0_0 : w5.cell? ⟨Z, 0, none⟩ = some (.int .i64 d) := (hb5.cell (p := ⟨Z, 0, none⟩) (by first | (show Z < _; omega) | (show Z < _; simp; done) | (show Z < _; simp; omega))).trans (by first | assumption | (go_simp; done)); have q_w5_0_1 : w5.cell? ⟨Z, 1, none⟩ = some (.int .i64 pk) := (hb5.cell (p := ⟨Z, 1, none⟩) (by first | (show Z < _; omega) | (show Z < _; simp; done) | (show Z < _; simp; omega))).trans (by first | assumption | (go_simp; done)); have q_w5_0_2 : w5.cell? ⟨Z, 2, none⟩ = some (.int .i64 la) := (hb5.cell (p := ⟨Z, 2, none⟩) (by first | (show Z < _; omega) | (show Z < _; simp; done) | (show Z < _; simp; omega))).trans (by first | assumption | (go_simp; done))) | ((with_reducible refine (HCL.out _).mono ?_); rintro e w6 ⟨rfl, hb6⟩; have s_w6 := hb6.size; (try simp only [World.size_alloc, World.size_setCell, World.size_drew, sz_drewN] at s_w6); have z_w6_0_0 : Z < w6.heap.size := (by omega); have z_w6_0_1 : Z < w6.heap.size + 1 := (by omega); have z_w6_0_2 : Z < w6.heap.size + 1 + 1 := (by omega); have q_w6_0_0 : w6.cell? ⟨Z, 0, none⟩ = some (.int .i64 d) := (hb6.cell (p := ⟨Z, 0, none⟩) (by first | (show Z < _; omega) | (show Z < _; simp; done) | (show Z < _; simp; omega))).trans (by first | assumption | (go_simp; done)); have q_w6_0_1 : w6.cell? ⟨Z, 1, none⟩ = some (.int .i64 pk) := (hb6.cell (p := ⟨Z, 1, none⟩) (by first | (show Z < _; omega) | (show Z < _; simp; done) | (show Z < _; simp; omega))).trans (by first | assumption | (go_simp; done)); have q_w6_0_2 : w6.cell? ⟨Z, 2, none⟩ = some (.int .i64 la) := (hb6.cell (p := ⟨Z, 2, none⟩) (by first | (show Z < _; omega) | (show Z < _; simp; done) | (show Z < _; simp; omega))).trans (by first | assumption | (go_simp; done)); have hI5 := hI.block (hb5.block b hI.lt); have hI6 := hI5.block (hb6.block b hI5.lt); have hlk := hI6.look d hwi; rw [hdd] at hlk; have hcq6 : w6.cell? ⟨q, pk, none⟩ = some (.bool true) := (hb6.cell (p := ⟨q, pk, none⟩) (by show q < _; omega)).trans ((hb5.cell (p := ⟨q, pk, none⟩) hq2).trans hcq))))
                      go_wp2
                      go_ret
                      exact ⟨chk_no hno, by rw [hb]; exact hb56 hb5 hb6⟩
                    | false =>
                      rw [hpb] at hcq
                      have hok2 : Hid (∀ k, k < i + 1 → RunOK m D Pn La k) := fun k hk => by
                        by_cases e : k = i
                        · subst e; exact HRI.out.2 ⟨cp, cl, hid, fun _ => hpb⟩
                        · exact hok.out k (by omega)
                      have hpin2 : Hid (∀ c : Nat, pinned Pn (i + 1) c = if c = pk then true else pinned Pn i c) := fun c => by
                        show (pinned Pn i c || (Pn i == (c : Int))) = _
                        rw [hp]
                        by_cases e : c = pk
                        · subst e; simp
                        · rw [if_neg e]
                          have : ((pk : Int) == (c : Int)) = false := by rw [beq_eq_false_iff_ne]; omega
                          rw [this, Bool.or_false]
                      go_upto_region 10 with (go_at_call 20; (first | ((with_reducible refine (HCP.out _).mono ?_); rintro e w5 ⟨rfl, hb5⟩; have s_w5 := hb5.size; (try simp only [World.size_alloc, World.size_setCell, World.size_drew, sz_drewN] at s_w5); have z_w5_0_0 : Z < w5.heap.size := (by omega); have z_w5_0_1 : Z < w5.heap.size + 1 := (by omega); have z_w5_0_2 : Z < w5.heap.size + 1 + 1 := (by omega); have q_w5_0_0 : w5.cell? ⟨Z, 0, none⟩ = some (.int .i64 d) := (hb5.cell (p := ⟨Z, 0, none⟩) (by first | (show Z < _; omega) | (show Z < _; simp; done) | (show Z < _; simp; omega))).trans (by first | assumption | (go_simp; done)); have q_w5_0_1 : w5.cell? ⟨Z, 1, none⟩ = some (.int .i64 pk) := (hb5.cell (p := ⟨Z, 1, none⟩) (by first | (show Z < _; omega) | (show Z < _; simp; done) | (show Z < _; simp; omega))).trans (by first | assumption | (go_simp; done)); have q_w5_0_2 : w5.cell? ⟨Z, 2, none⟩ = some (.int .i64 la) := (hb5.cell (p := ⟨Z, 2, none⟩) (by first | (show Z < _; omega) | (show Z < _; simp; done) | (show Z < _; simp; omega))).trans (by first | assumption | (go_simp; done))) | ((with_reducible refine (HCL.out _).mono ?_); rintro e w6 ⟨rfl, hb6⟩; have s_w6 := hb6.size; (try simp only [World.size_alloc, World.size_setCell, World.size_drew, sz_drewN] at s_w6); have z_w6_0_0 : Z < w6.heap.size := (by omega); have z_w6_0_1 : Z < w6.heap.size + 1 := (by omega); have z_w6_0_2 : Z < w6.heap.size + 1 + 1 := (by omega); have q_w6_0_0 : w6.cell? ⟨Z, 0, none⟩ = some (.int .i64 d) := (hb6.cell (p := ⟨Z, 0, none⟩) (by first | (show Z < _; omega) | (show Z < _; simp; done) | (show Z < _; simp; omega))).trans (by first | assumption | (go_simp; done)); have q_w6_0_1 : w6.cell? ⟨Z, 1, none⟩ = some (.int .i64 pk) := (hb6.cell (p := ⟨Z, 1, none⟩) (by first | (show Z < _; omega) | (show Z < _; simp; done) | (show Z < _; simp; omega))).trans (by first | assumption | (go_simp; done)); have q_w6_0_2 : w6.cell? ⟨Z, 2, none⟩ = some (.int .i64 la) := (hb6.cell (p := ⟨Z, 2, none⟩) (by first | (show Z < _; omega) | (show Z < _; simp; done) | (show Z < _; simp; omega))).trans (by first | assumption | (go_simp; done)); have hI5 := hI.block (hb5.block b hI.lt); have hI6 := hI5.block (hb6.block b hI5.lt); have hlk := hI6.look d hwi; rw [hdd] at hlk; have hcq6 : w6.cell? ⟨q, pk, none⟩ = some (.bool false) := (hb6.cell (p := ⟨q, pk, none⟩) (by show q < _; omega)).trans ((hb5.cell (p := ⟨q, pk, none⟩) hq2).trans hcq))))
                      clear hcq
                      refine gen_world (F := fun V => IdSet V b ids ∧ Hid (∀ c : Nat, c < 1024 → V.cell? ⟨q, c, none⟩ = some (.bool (pinned Pn i c))) ∧ (∀ o, V.frozen? ⟨q, o, none⟩ = false) ∧ V.cell? ⟨Z, 0, none⟩ = some (.int .i64 d) ∧ V.cell? ⟨Z, 1, none⟩ = some (.int .i64 pk) ∧ Z < V.heap.size ∧ q < V.heap.size ∧ Below b w V) ⟨hI6, fun c hc => (hb6.cell (p := ⟨q, c, none⟩) (by show q < _; have := hb5.size; omega)).trans ((hb5.cell (p := ⟨q, c, none⟩) hq2).trans (hpin.out c hc)), fun o => (hb6.frozen (p := ⟨q, o, none⟩) (by show q < _; have := hb5.size; omega)).trans ((hb5.frozen (p := ⟨q, o, none⟩) hq2).trans (hfz o)), q_w6_0_0, q_w6_0_1, by omega, by omega, hb56 hb5 hb6⟩ ?_
                      clear hI hpin hfz y0 y1 y2 hZ hq2 hbv hb5 hb6 hI5 hI6 hlk hb56 q_w5_0_0 q_w5_0_1 q_w5_0_2 q_w6_0_0 q_w6_0_1 q_w6_0_2 HCP HCL hs2
                      rintro V9 ⟨hI, hpin, hfz, y0, y1, hZ, hq2, hbv⟩
                      have hs9 := hbv.size
                      obtain ⟨w7, hru, hI7, hg7⟩ := hI.put d hwi (by omega)
                      have K7 : Keeps (fun k => k = b) V9 w7 := Keeps.refl.grown hg7 (fun k hk _ => by cases hk; rfl)
                      go_upto_region 11 with fail
                      refine gen_world (F := fun V => IdSet V b (d :: ids) ∧ Hid (∀ c : Nat, c < 1024 → V.cell? ⟨q, c, none⟩ = some (.bool (pinned Pn i c))) ∧ (∀ o, V.frozen? ⟨q, o, none⟩ = false) ∧ V.cell? ⟨Z, 1, none⟩ = some (.int .i64 pk) ∧ q < V.heap.size ∧ Below b w V) ⟨hI7, fun c hc => (K7.cell (p := ⟨q, c, none⟩) hq2 (by show ¬ q = b; omega)).trans (hpin.out c hc), fun o => (K7.frozen (p := ⟨q, o, none⟩) hq2 (by show ¬ q = b; omega)).trans (hfz o), (K7.cell (p := ⟨Z, 1, none⟩) hZ (by show ¬ Z = b; omega)).trans y1, by have := K7.size; omega, hbv.trans (K7.to_below (by omega) (fun k hk h => by omega))⟩ ?_
                      clear hI hpin hfz y0 y1 hZ hq2 hbv hs9 hru hI7 hg7 K7
                      rintro V8 ⟨hI, hpin, hfz, y1, hq2, hbv⟩
                      have hcq : V8.cell? ⟨q, pk, none⟩ = some (.bool (pinned Pn i pk)) := hpin.out pk pkm
                      go_wp2
                      go_roundw
                      case rel =>
                        refine ⟨i + 1, d :: ids, by go_num, by omega, by simp; omega, hI.block (Below.heap_setCell _ _ _ _ (by show b ≠ q; omega)), hids2, fun c hc => ?_, fun o => by go_simp, by simp; omega, hok2, hbv.setCell (by show b ≤ q; omega) _⟩
                        rw [hpin2.out c]
                        by_cases e : c = pk
                        · subst e; simp; go_simp
                        · rw [if_neg e]
                          exact (cell_other V8 q pk c _ e).trans (hpin.out c hc)
                      case measure => (simp [intOf] <;> omega)
              · have HCL := Lib.hid (fun w => core_no la m w cl)
                have hno : ¬ Chk m n D Pn La := HALL.out (fun h => cl (HRI.out.1 h).2.1)
                go_upto_region 9 with (go_at_call 20; (first | ((with_reducible refine (HCP.out _).mono ?_); rintro e w5 ⟨rfl, hb5⟩; have s_w5 := hb5.size; (try simp only [World.size_alloc, World.size_setCell, World.size_drew, sz_drewN] at s_w5); have z_w5_0_0 : Z < w5.heap.size := (by omega); have z_w5_0_1 : Z < w5.heap.size + 1 := (by omega); have z_w5_0_2 : Z < w5.heap.size + 1 + 1 := (by omega); have q_w5_0_0 : w5.cell? ⟨Z, 0, none⟩ = some (.int .i64 d) := (hb5.cell (p := ⟨Z, 0, none⟩) (by first | (show Z < _; omega) | (show Z < _; simp; done) | (show Z < _; simp; omega))).trans (by first | assumption | (go_simp; done)); have q_w5_0_1 : w5.cell? ⟨Z, 1, none⟩ = some (.int .i64 pn) := (hb5.cell (p := ⟨Z, 1, none⟩) (by first | (show Z < _; omega) | (show Z < _; simp; done) | (show Z < _; simp; omega))).trans (by first | assumption | (go_simp; done)); have q_w5_0_2 : w5.cell? ⟨Z, 2, none⟩ = some (.int .i64 la) := (hb5.cell (p := ⟨Z, 2, none⟩) (by first | (show Z < _; omega) | (show Z < _; simp; done) | (show Z < _; simp; omega))).trans (by first | assumption | (go_simp; done))) | ((with_reducible refine (HCL.out _).mono ?_); rintro e w6 ⟨rfl, hb6⟩)))
                go_wp2
                go_ret
                exact ⟨chk_no hno, by rw [hb]; exact bel_call (bel_call hbv (by omega) hb5) (by omega) hb6⟩
            · have HCP := Lib.hid (fun w => core_no pn m w cp)
              have hno : ¬ Chk m n D Pn La := HALL.out (fun h => cp (HRI.out.1 h).1)
              go_upto_region 9 with (go_at_call 20; (with_reducible refine (HCP.out _).mono ?_); rintro e w5 ⟨rfl, hb5⟩)
              go_wp2
              go_ret
              exact ⟨chk_no hno, by rw [hb]; exact bel_call hbv (by omega) hb5⟩
          · have hin : i = n := by omega
            have hyes : Chk m n D Pn La := ⟨by omega, by omega, by omega, fun k hk => hok.out k (by omega)⟩
            go_wp2
            go_ret
            exact ⟨chk_yes hyes, by rw [hb]; exact hbv⟩
end Go.Proofs.Ytnjdomfhjhlamaa
