/- Contract of regattalaw15.made: runners by numbers. -/
import Derived.Test.YtnjdomfhjhlamaaPStays
import Derived.Test.YtnjdomfhjhlamaaOpen
import Derived.Laws.MakeOwn
namespace Go.Proofs.Ytnjdomfhjhlamaa
open Go.RowKit
set_option linter.unusedVariables false
set_option linter.unusedSimpArgs false

/-- Runner j's number for a pin; last core. -/
def mp (X : Nat → Int) (M : Nat) (j : Nat) : Int := ((X j).tmod (3 * M) + 3 * M).tmod (3 * M)
def mla (Y : Nat → Int) (M : Nat) (j : Nat) : Int := ((Y j).tmod (M + 1) + M + 1).tmod (M + 1) - 1
/-- Cores used by those ahead of i. -/
def mus (X : Nat → Int) (M : Nat) : Nat → Int → Bool
  | 0, _ => false
  | i + 1, c => mus X M i c || (decide (mp X M i < M) && mp X M i == c)
def mpn (X : Nat → Int) (M : Nat) (j : Nat) : Int := if mp X M j < M ∧ mus X M j (mp X M j) = false then mp X M j else -1
theorem mp_bd (X : Nat → Int) (M j : Nat) (h : 1 ≤ M) : ∃ k : Nat, mp X M j = k ∧ k < 3 * M := by
  obtain ⟨k, a, b⟩ := rest_nat (X j) (3 * M) (by omega)
  exact ⟨k, a, by omega⟩
theorem mla_bd (Y : Nat → Int) (M j : Nat) (h : 1 ≤ M) : -1 ≤ mla Y M j ∧ mla Y M j < M := by
  obtain ⟨k, a, b⟩ := rest_nat (Y j) (M + 1) (by omega)
  unfold mla
  rw [show (Y j).tmod (M + 1) + M + 1 = (Y j).tmod (M + 1) + (M + 1) by omega, a]
  omega
theorem mus_iff (X : Nat → Int) (M i : Nat) (c : Int) : mus X M i c = true ↔ ∃ k, k < i ∧ mp X M k < M ∧ mp X M k = c := by
  induction i with
  | zero => simp [mus]
  | succ i ih =>
    simp only [mus, Bool.or_eq_true, ih, Bool.and_eq_true, decide_eq_true_eq, beq_iff_eq]
    constructor
    · rintro (⟨k, h1, h2⟩ | h)
      · exact ⟨k, by omega, h2⟩
      · exact ⟨i, by omega, h⟩
    · rintro ⟨k, h1, h2⟩
      by_cases e : k = i
      · subst e; exact .inr h2
      · exact .inl ⟨k, by omega, h2⟩
theorem made_chk (X Y : Nat → Int) (M n : Nat) (h1 : 1 ≤ M) (h2 : M ≤ 1024) (hn : n ≤ M) : Chk M n (fun j => (j : Int)) (mpn X M) (mla Y M) := by
  refine ⟨by omega, by omega, by omega, fun i hi => ⟨?_, mla_bd Y M i h1, fun k hk => by show (k : Int) ≠ i; omega, fun hp k hk => ?_⟩⟩
  · obtain ⟨k, a, b⟩ := mp_bd X M i h1
    unfold mpn
    split
    · rename_i h; rw [a] at h ⊢; omega
    · omega
  · unfold mpn at hp ⊢
    split at hp
    · rename_i h
      rw [if_pos h]
      split
      · rename_i h'
        intro e
        have := (mus_iff X M i (mp X M i)).2 ⟨k, hk, h'.1, e⟩
        rw [h.2] at this
        cases this
      · obtain ⟨q, a, b⟩ := mp_bd X M i h1
        rw [a]; omega
    · exact absurd rfl hp

theorem bits_bool : ∃ i, Try.prog.info? 4 = some i ∧ i.bytes = 1 ∧ i.size = 1 ∧ i.zero = some (.bool false) := by
  have h : (Try.prog.info? 4).map (fun i => (i.bytes, i.size, i.zero)) = some (1, 1, some (.bool false)) := by kernel_rfl
  obtain ⟨i, hi, hb⟩ := Option.map_eq_some_iff.1 h
  injection hb with h1 h2
  injection h2 with h2 h3
  exact ⟨i, hi, h1, h2, h3⟩
theorem mk_bools (n : Nat) (h : n ≤ 1000) : ∃ M : Array Value, M.size = n ∧ (∀ j, j < n → M[j]? = some (.bool false)) ∧ ∀ w, (Instr.makeSlice 47 (.int .i64 n) (.int .i64 n)).run Try.prog w = .ok (.slice (some ⟨w.heap.size, 0, none⟩) n n) (w.alloc (.cells M 4)) := by
  obtain ⟨i, hi, hb, hs, hz⟩ := bits_bool
  refine ⟨madeCells #[.bool false] n, by simp [madeCells], fun j hj => by simp [madeCells, hj, Nat.mod_one], fun w => ?_⟩
  have := run_make (P := Try.prog) w 47 4 i (.bool false) Try.underlying47 hi hz .i64 .i64 n n (by omega) (Int.le_refl _) (by rw [hb]; omega) (by omega)
  rw [hs] at this
  simp only [Int.toNat_natCast, Nat.mul_one] at this
  exact this

/-- The cores that are used, as they lie. -/
def UC (w : World) (u M : Nat) (f : Int → Bool) : Prop := u < w.heap.size ∧ ∀ c : Nat, c < M → w.cell? ⟨u, c, none⟩ = some (.bool (f c)) ∧ w.frozen? ⟨u, c, none⟩ = false
theorem UC.block {w w' : World} {u M : Nat} {f : Int → Bool} (h : UC w u M f) (hs : w.heap.size ≤ w'.heap.size) (k : w'.heap[u]? = w.heap[u]?) : UC w' u M f :=
  ⟨Nat.lt_of_lt_of_le h.1 hs, fun c hc => ⟨(World.cell?_of_block (w := w) (a := ⟨u, c, none⟩) k).trans (h.2 c hc).1, (World.frozen?_of_block (w := w) (a := ⟨u, c, none⟩) k).trans (h.2 c hc).2⟩⟩

set_option maxRecDepth 8000 in
set_option maxHeartbeats 12800000 in
theorem made_any (v : Value) (n M : Nat) (Z : Nat → Int) (w : World) (hF : Flat w v n 2 Z) (h1 : 1 ≤ M) (h2 : M ≤ 1000) :
    Calls Try.prog 11 #[v, .int .i64 (M : Int)] w fun e w' => (∃ r, e = .returned r ∧ RowAt w' w.heap.size 3 r (min n M) (rv (fun j => (j : Int)) (mpn (fun j => Z (j * 2)) M) (mla (fun j => Z (j * 2 + 1)) M) (min n M))) ∧ Below w.heap.size w w' := by
  obtain ⟨p, cap, rfl, hcap, hmax, hr⟩ := hF
  have hm64 : cap ≤ 9223372036854775807 := hmax
  have HF := Lib.hid hr
  clear hr
  obtain ⟨i0, hi0, hz0, hz1, hz2⟩ := info_runner
  have hmM : Hid (min n M ≤ M ∧ min n M ≤ n) := ⟨Nat.min_le_right _ _, Nat.min_le_left _ _⟩
  go_enter Try.func11, Try.ntmps11
  obtain ⟨A, hAs, hA, hmk⟩ := mk_bools M h2
  go_upto_region 3 with fail
  refine gen_world (F := fun V => UC V w.heap.size M (mus (fun j => Z (j * 2)) M 0) ∧ Below w.heap.size w V ∧ w.heap.size < V.heap.size) ⟨⟨by simp, fun c hc => ⟨by rw [World.cell?_alloc_at _ _ _ _ rfl, hA c hc]; rfl, by go_simp⟩⟩, (by repeat' (first | (with_reducible exact Below.refl _ _) | (with_reducible refine Below.alloc ?_ ?_ _) | (with_reducible refine below_drewN ?_ _) | (with_reducible refine Below.drew ?_) | (with_reducible refine Below.setCell ?_ ?_ _) | omega | (simp; omega) | (simp; done))), by simp⟩ ?_
  generalize hU : w.heap.size = U at *
  rintro V ⟨hUC, hbv, hUV⟩
  clear hmk hA hAs
  have hUc := Lib.hid hUC
  clear hUC
  go_wp2
  go_loopw [5, 7] (fun s5 s7 wr => ∃ i : Nat, s7 = .int .i64 i ∧ i ≤ min n M ∧ RowAt wr (U + 1) 3 s5 i (rv (fun j => (j : Int)) (mpn (fun j => Z (j * 2)) M) (mla (fun j => Z (j * 2 + 1)) M) i) ∧ UC wr U M (mus (fun j => Z (j * 2)) M i) ∧ Below U w wr ∧ U < wr.heap.size) (fun _ s7 _ => 2000 - (intOf s7).toNat)
  case atStart => exact ⟨0, rfl, by omega, RowAt.nil _ _ _, hUc.out, hbv, hUV⟩
  case round =>
    clear hbv hUV hUc
    obtain ⟨i, rfl, hi, hrow, hUC, hbv, hUV⟩ := hrel
    by_cases hlt : i < min n M
    · obtain ⟨g, off, rfl, hg, hj⟩ := HF.out (by omega)
      have hgw : g < wr.heap.size := (by have := hbv.size; omega)
      have iln : (i : Int) < n := by omega
      have ilm : (i : Int) < M := by omega
      have x1 : wr.cell? ⟨g, off + i * 2 + 1, none⟩ = some (.int .i64 (Z (i * 2 + 1))) := (hbv.cell (p := ⟨g, off + i * 2 + 1, none⟩) (by exact hg)).trans (hj (i * 2 + 1) (by omega)).1
      have x0 : wr.cell? ⟨g, off + i * 2, none⟩ = some (.int .i64 (Z (i * 2))) := (hbv.cell (p := ⟨g, off + i * 2, none⟩) (by exact hg)).trans (hj (i * 2) (by omega)).1
      obtain ⟨q, hq, hq1⟩ := rest_nat (Z (i * 2 + 1)) (M + 1) (by omega)
      obtain ⟨pk, hpk, hpk1⟩ := rest_nat (Z (i * 2)) (3 * M) (by omega)
      obtain ⟨b1, b2⟩ := rest_bd (Z (i * 2 + 1)) (M + 1) (by omega)
      obtain ⟨b3, b4⟩ := rest_bd (Z (i * 2)) (3 * M) (by omega)
      have hla : Hid (mla (fun j => Z (j * 2 + 1)) M i = (q : Int) - 1) := by
        show _ = _
        unfold mla
        rw [← hq]
        show ((Z (i * 2 + 1)).tmod (M + 1) + M + 1).tmod (M + 1) - 1 = _
        rw [show (Z (i * 2 + 1)).tmod (M + 1) + M + 1 = (Z (i * 2 + 1)).tmod (M + 1) + (M + 1) by omega]
      have hmp : Hid (mp (fun j => Z (j * 2)) M i = (pk : Int)) := by
        show _ = _
        unfold mp
        rw [← hpk]
      have hq' : ((Z (i * 2 + 1)).tmod (M + 1) + M + 1).tmod (M + 1) = q := by rw [show (Z (i * 2 + 1)).tmod (M + 1) + M + 1 = (Z (i * 2 + 1)).tmod (M + 1) + (M + 1) by omega]; exact hq
      have z1 : ¬ (M : Int) + 1 = 0 := by omega
      have z2 : ¬ (3 : Int) * M = 0 := by omega
      have q0 : IntKind.i64.wrap ((i : Int) + 1) = (i : Int) + 1 := wrap_in _ (by omega) (by omega)
      have q1 : IntKind.i64.wrap ((M : Int) + 1) = (M : Int) + 1 := wrap_in _ (by omega) (by omega)
      have q2 : IntKind.i64.wrap ((Z (i * 2 + 1)).tmod (M + 1)) = (Z (i * 2 + 1)).tmod (M + 1) := wrap_in _ (by omega) (by omega)
      have q3 : IntKind.i64.wrap ((Z (i * 2 + 1)).tmod (M + 1) + M) = (Z (i * 2 + 1)).tmod (M + 1) + M := wrap_in _ (by omega) (by omega)
      have q4 : IntKind.i64.wrap ((Z (i * 2 + 1)).tmod (M + 1) + M + 1) = (Z (i * 2 + 1)).tmod (M + 1) + M + 1 := wrap_in _ (by omega) (by omega)
      have q5 : IntKind.i64.wrap (q : Int) = q := wrap_in _ (by omega) (by omega)
      have q6 : IntKind.i64.wrap ((q : Int) - 1) = (q : Int) - 1 := wrap_in _ (by omega) (by omega)
      have p1 : IntKind.i64.wrap ((3 : Int) * M) = (3 : Int) * M := wrap_in _ (by omega) (by omega)
      have p2 : IntKind.i64.wrap ((Z (i * 2)).tmod (3 * M)) = (Z (i * 2)).tmod (3 * M) := wrap_in _ (by omega) (by omega)
      have p3 : IntKind.i64.wrap ((Z (i * 2)).tmod (3 * M) + 3 * M) = (Z (i * 2)).tmod (3 * M) + 3 * M := wrap_in _ (by omega) (by omega)
      have p4 : IntKind.i64.wrap (pk : Int) = pk := wrap_in _ (by omega) (by omega)
      clear hq hj b1 b2 b3 b4 hi
      have hor : (pk < M ∧ mus (fun j => Z (j * 2)) M i pk = false) ∨ (pk < M ∧ mus (fun j => Z (j * 2)) M i pk = true) ∨ ¬ pk < M := by
        by_cases h : pk < M
        · cases hu : mus (fun j => Z (j * 2)) M i pk
          · exact .inl ⟨h, rfl⟩
          · exact .inr (.inl ⟨h, rfl⟩)
        · exact .inr (.inr h)
      go_upto_region 8 with fail
      clear hq' z1 z2 q1 q2 q3 q4 q5 q6 p1 p2 p3 p4 x0 x1 hpk
      have hbs : U ≤ wr.heap.size := by omega
      have hmS : ∀ c : Int, mus (fun j => Z (j * 2)) M (i + 1) c = (mus (fun j => Z (j * 2)) M i c || (decide ((pk : Int) < M) && (pk : Int) == c)) := fun c => by rw [← hmp.out]; rfl
      have HMS := Lib.hid hmS
      have HUC := Lib.hid hUC
      have HOB := Lib.hid (fun k hk => hrow.lt k hk)
      have HROW := Lib.hid hrow
      clear hmS hUC hrow
      have frz : ∀ o, (wr.alloc (Obj.cells #[.int .i64 i, .int .i64 (-1), .int .i64 ((q : Int) - 1)] 25)).frozen? ⟨wr.heap.size, o, none⟩ = false := fun o => by go_simp
      rcases hor with ⟨hp, hu⟩ | ⟨hp, hu⟩ | hp
      · have hpl : (pk : Int) < M := by omega
        obtain ⟨uc, uf⟩ := HUC.out.2 pk hp
        rw [hu] at uc
        obtain ⟨pn, hpn⟩ : ∃ pn : Int, (pk : Int) = pn := ⟨_, rfl⟩
        have HPN : Hid (mpn (fun j => Z (j * 2)) M i = pn) := by
          show _ = _
          unfold mpn
          rw [hmp.out, if_pos ⟨hpl, hu⟩, hpn]
        have HU := Lib.hid hu
        clear hu
        have HN := Lib.hid hpn
        clear hpn
        go_upto_region 11 with fail
        refine gen_world (F := fun V => RowAt V (U + 1) 3 u5 i (rv (fun j => (j : Int)) (mpn (fun j => Z (j * 2)) M) (mla (fun j => Z (j * 2 + 1)) M) i) ∧ UC V U M (mus (fun j => Z (j * 2)) M (i + 1)) ∧ Below U w V ∧ V.heap.size = wr.heap.size + 1 ∧ V.cell? ⟨wr.heap.size, 0, none⟩ = some (.int .i64 i) ∧ V.cell? ⟨wr.heap.size, 1, none⟩ = some (.int .i64 pn) ∧ V.cell? ⟨wr.heap.size, 2, none⟩ = some (.int .i64 ((q : Int) - 1))) ⟨?_, ?_, ?_, ?_, ?_, ?_, ?_⟩ ?_
        · exact (HROW.out.block (by simp) (fun k hk => Below.heap_setCell _ _ _ _ (by have := (HOB.out k hk).1; show k ≠ U; omega))).alloc _
        · refine UC.block (w := wr.setCell ⟨U, pk, none⟩ (.bool true)) ⟨by simpa using hUV, fun c hc => ?_⟩ (by simp) (Below.heap_alloc _ _ _ (by simpa using hUV))
          by_cases e : c = pk
          · subst e
            refine ⟨?_, by rw [World.frozen?_setCell]; exact uf⟩
            rw [HMS.out, HU.out]
            simp only [hpl, decide_true, beq_self_eq_true, Bool.and_self, Bool.or_true]
            go_simp
          · refine ⟨?_, by rw [World.frozen?_setCell]; exact (HUC.out.2 c hc).2⟩
            rw [HMS.out, show ((pk : Int) == (c : Int)) = false by rw [beq_eq_false_iff_ne]; omega, Bool.and_false, Bool.or_false, ← (HUC.out.2 c hc).1]
            exact World.cell?_setCell_other _ _ _ _ (by intro h; injection h with h1 h2; omega)
        · exact (hbv.setCell (by show U ≤ U; omega) _).alloc (by simpa using hbs) _
        · simp
        · go_simp
        · rw [← HN.out]; go_simp
        · go_simp
        rintro V ⟨hrow, hUC2, hbv2, hVs, y0, y1, y2⟩
        have hVU : U + 1 ≤ V.heap.size := by omega
        have hVR : wr.heap.size < V.heap.size := by omega
        clear uc uf HN hVs
        go_wp2_with (at_builtin; refine wpList_row_lies _ rfl _ _ 23 rfl (U + 1) 25 i0 _ 3 24 Try.underlying23 hi0 hz0 hz1 hz2 rfl (by decide) _ _ _ rfl (hrow.alloc _) ⟨V.heap.size, 0, none⟩ 1 1 [.int .i64 i, .int .i64 pn, .int .i64 ((q : Int) - 1)] rfl rfl ?c1 ?c2 ?c2b ?c3 ?c4 ?c5 ?_)
        case c1 =>
          intro j u hj
          match j, hj with
          | 0, hj => simp at hj; subst hj; simp [Addr.add]
          | 1, hj => simp at hj; subst hj; simp [Addr.add]
          | 2, hj => simp at hj; subst hj; simp [Addr.add]
          | j + 3, hj => simp at hj
        case c2 => intro u hu; simp at hu; rcases hu with rfl | rfl | rfl <;> rfl
        case c2b => omega
        case c3 => unfold maxLen; omega
        case c4 => omega
        case c5 => simp; omega
        · intro gg oo cap2 w5 hrow2 hgrow _ _
          have r2 : Below U w w5 := (hbv2.alloc (by omega) _).grown hgrow (by simp; omega) (fun j hj => by have := (hrow.lt j hj).1; omega)
          have s5 := hgrow.size
          simp at s5
          have hUC5 : UC w5 U M (mus (fun j => Z (j * 2)) M (i + 1)) := (hUC2.block (w' := V.alloc _) (by simp) (Below.heap_alloc _ _ _ (by omega))).block hgrow.size (hgrow.block U (by simp; omega) (fun e => by have := (hrow.lt U e.symm).1; omega))
          have hrow3 : RowAt w5 (U + 1) 3 (.slice (some ⟨gg, oo, none⟩) (i + 1) cap2) (i + 1) (rv (fun j => (j : Int)) (mpn (fun j => Z (j * 2)) M) (mla (fun j => Z (j * 2 + 1)) M) (i + 1)) := by
            show RowAt _ _ _ _ _ (rv _ _ _ i ++ [.int .i64 (i : Int), .int .i64 (mpn _ M i), .int .i64 (mla _ M i)])
            rw [HPN.out, hla.out]
            exact hrow2
          clear hrow2 hgrow hrow y0 y1 y2 hUC2
          go_wp2
          go_roundw
          case rel => exact ⟨i + 1, by go_num, by omega, hrow3, hUC5, r2, by omega⟩
          case measure => (simp [intOf] <;> omega)
      · have hpl : (pk : Int) < M := by omega
        obtain ⟨uc, uf⟩ := HUC.out.2 pk hp
        rw [hu] at uc
        obtain ⟨pn, hpn⟩ : ∃ pn : Int, (-1 : Int) = pn := ⟨_, rfl⟩
        have HPN : Hid (mpn (fun j => Z (j * 2)) M i = pn) := by
          show _ = _
          unfold mpn
          rw [hmp.out, if_neg (fun h => by rw [hu] at h; cases h.2), hpn]
        have HU := Lib.hid hu
        clear hu
        have HN := Lib.hid hpn
        clear hpn
        go_upto_region 11 with fail
        refine gen_world (F := fun V => RowAt V (U + 1) 3 u5 i (rv (fun j => (j : Int)) (mpn (fun j => Z (j * 2)) M) (mla (fun j => Z (j * 2 + 1)) M) i) ∧ UC V U M (mus (fun j => Z (j * 2)) M (i + 1)) ∧ Below U w V ∧ V.heap.size = wr.heap.size + 1 ∧ V.cell? ⟨wr.heap.size, 0, none⟩ = some (.int .i64 i) ∧ V.cell? ⟨wr.heap.size, 1, none⟩ = some (.int .i64 pn) ∧ V.cell? ⟨wr.heap.size, 2, none⟩ = some (.int .i64 ((q : Int) - 1))) ⟨?_, ?_, ?_, ?_, ?_, ?_, ?_⟩ ?_
        · exact HROW.out.alloc _
        · refine UC.block (w := wr) ⟨hUV, fun c hc => ⟨?_, (HUC.out.2 c hc).2⟩⟩ (by simp) (Below.heap_alloc _ _ _ hUV)
          rw [HMS.out, (HUC.out.2 c hc).1]
          by_cases e : c = pk
          · subst e; rw [HU.out]; rfl
          · rw [show ((pk : Int) == (c : Int)) = false by rw [beq_eq_false_iff_ne]; omega, Bool.and_false, Bool.or_false]
        · exact hbv.alloc hbs _
        · simp
        · go_simp
        · rw [← HN.out]; go_simp
        · go_simp
        rintro V ⟨hrow, hUC2, hbv2, hVs, y0, y1, y2⟩
        have hVU : U + 1 ≤ V.heap.size := by omega
        have hVR : wr.heap.size < V.heap.size := by omega
        clear uc uf HN hVs
        go_wp2_with (at_builtin; refine wpList_row_lies _ rfl _ _ 23 rfl (U + 1) 25 i0 _ 3 24 Try.underlying23 hi0 hz0 hz1 hz2 rfl (by decide) _ _ _ rfl (hrow.alloc _) ⟨V.heap.size, 0, none⟩ 1 1 [.int .i64 i, .int .i64 pn, .int .i64 ((q : Int) - 1)] rfl rfl ?c1 ?c2 ?c2b ?c3 ?c4 ?c5 ?_)
        case c1 =>
          intro j u hj
          match j, hj with
          | 0, hj => simp at hj; subst hj; simp [Addr.add]
          | 1, hj => simp at hj; subst hj; simp [Addr.add]
          | 2, hj => simp at hj; subst hj; simp [Addr.add]
          | j + 3, hj => simp at hj
        case c2 => intro u hu; simp at hu; rcases hu with rfl | rfl | rfl <;> rfl
        case c2b => omega
        case c3 => unfold maxLen; omega
        case c4 => omega
        case c5 => simp; omega
        · intro gg oo cap2 w5 hrow2 hgrow _ _
          have r2 : Below U w w5 := (hbv2.alloc (by omega) _).grown hgrow (by simp; omega) (fun j hj => by have := (hrow.lt j hj).1; omega)
          have s5 := hgrow.size
          simp at s5
          have hUC5 : UC w5 U M (mus (fun j => Z (j * 2)) M (i + 1)) := (hUC2.block (w' := V.alloc _) (by simp) (Below.heap_alloc _ _ _ (by omega))).block hgrow.size (hgrow.block U (by simp; omega) (fun e => by have := (hrow.lt U e.symm).1; omega))
          have hrow3 : RowAt w5 (U + 1) 3 (.slice (some ⟨gg, oo, none⟩) (i + 1) cap2) (i + 1) (rv (fun j => (j : Int)) (mpn (fun j => Z (j * 2)) M) (mla (fun j => Z (j * 2 + 1)) M) (i + 1)) := by
            show RowAt _ _ _ _ _ (rv _ _ _ i ++ [.int .i64 (i : Int), .int .i64 (mpn _ M i), .int .i64 (mla _ M i)])
            rw [HPN.out, hla.out]
            exact hrow2
          clear hrow2 hgrow hrow y0 y1 y2 hUC2
          go_wp2
          go_roundw
          case rel => exact ⟨i + 1, by go_num, by omega, hrow3, hUC5, r2, by omega⟩
          case measure => (simp [intOf] <;> omega)
      · have hpl : ¬ (pk : Int) < M := by omega
        obtain ⟨pn, hpn⟩ : ∃ pn : Int, (-1 : Int) = pn := ⟨_, rfl⟩
        have HPN : Hid (mpn (fun j => Z (j * 2)) M i = pn) := by
          show _ = _
          unfold mpn
          rw [hmp.out, if_neg (fun h => hpl h.1), hpn]
        have HN := Lib.hid hpn
        clear hpn
        go_upto_region 11 with fail
        refine gen_world (F := fun V => RowAt V (U + 1) 3 u5 i (rv (fun j => (j : Int)) (mpn (fun j => Z (j * 2)) M) (mla (fun j => Z (j * 2 + 1)) M) i) ∧ UC V U M (mus (fun j => Z (j * 2)) M (i + 1)) ∧ Below U w V ∧ V.heap.size = wr.heap.size + 1 ∧ V.cell? ⟨wr.heap.size, 0, none⟩ = some (.int .i64 i) ∧ V.cell? ⟨wr.heap.size, 1, none⟩ = some (.int .i64 pn) ∧ V.cell? ⟨wr.heap.size, 2, none⟩ = some (.int .i64 ((q : Int) - 1))) ⟨?_, ?_, ?_, ?_, ?_, ?_, ?_⟩ ?_
        · exact HROW.out.alloc _
        · refine UC.block (w := wr) ⟨hUV, fun c hc => ⟨?_, (HUC.out.2 c hc).2⟩⟩ (by simp) (Below.heap_alloc _ _ _ hUV)
          rw [HMS.out, (HUC.out.2 c hc).1, show decide ((pk : Int) < M) = false by simpa using hpl, Bool.false_and, Bool.or_false]
        · exact hbv.alloc hbs _
        · simp
        · go_simp
        · rw [← HN.out]; go_simp
        · go_simp
        rintro V ⟨hrow, hUC2, hbv2, hVs, y0, y1, y2⟩
        have hVU : U + 1 ≤ V.heap.size := by omega
        have hVR : wr.heap.size < V.heap.size := by omega
        clear HN hVs
        go_wp2_with (at_builtin; refine wpList_row_lies _ rfl _ _ 23 rfl (U + 1) 25 i0 _ 3 24 Try.underlying23 hi0 hz0 hz1 hz2 rfl (by decide) _ _ _ rfl (hrow.alloc _) ⟨V.heap.size, 0, none⟩ 1 1 [.int .i64 i, .int .i64 pn, .int .i64 ((q : Int) - 1)] rfl rfl ?c1 ?c2 ?c2b ?c3 ?c4 ?c5 ?_)
        case c2 => exact ⟨rfl, rfl, rfl⟩
        case c3 => (try unfold maxLen); omega
        case c4 => omega
        case c5 => (try simp); omega
        · intro gg oo cap2 w5 hrow2 hgrow _ _
          have r2 : Below U w w5 := (hbv2.alloc (by omega) _).grown hgrow (by simp; omega) (fun j hj => by have := (hrow.lt j hj).1; omega)
          have s5 := hgrow.size
          simp at s5
          have hUC5 : UC w5 U M (mus (fun j => Z (j * 2)) M (i + 1)) := (hUC2.block (w' := V.alloc _) (by simp) (Below.heap_alloc _ _ _ (by omega))).block hgrow.size (hgrow.block U (by simp; omega) (fun e => by have := (hrow.lt U e.symm).1; omega))
          have hrow3 : RowAt w5 (U + 1) 3 (.slice (some ⟨gg, oo, none⟩) (i + 1) cap2) (i + 1) (rv (fun j => (j : Int)) (mpn (fun j => Z (j * 2)) M) (mla (fun j => Z (j * 2 + 1)) M) (i + 1)) := by
            show RowAt _ _ _ _ _ (rv _ _ _ i ++ [.int .i64 (i : Int), .int .i64 (mpn _ M i), .int .i64 (mla _ M i)])
            rw [HPN.out, hla.out]
            exact hrow2
          clear hrow2 hgrow hrow y0 y1 y2 hUC2
          go_wp2
          go_roundw
          case rel => exact ⟨i + 1, by go_num, by omega, hrow3, hUC5, r2, by omega⟩
          case measure => (simp [intOf] <;> omega)
    · have hile : i = min n M := by omega
      have HR := Lib.hid hrow
      clear hrow hUC
      by_cases hn : i < n
      · have iln : (i : Int) < n := by omega
        have ilm : ¬ (i : Int) < M := by omega
        go_wp2
        go_ret
        rw [hile] at HR
        subst hU
        exact ⟨⟨_, rfl, HR.out.mono (by omega)⟩, hbv⟩
      · have iln : ¬ (i : Int) < n := by omega
        go_wp2
        go_ret
        rw [hile] at HR
        subst hU
        exact ⟨⟨_, rfl, HR.out.mono (by omega)⟩, hbv⟩
end Go.Proofs.Ytnjdomfhjhlamaa
