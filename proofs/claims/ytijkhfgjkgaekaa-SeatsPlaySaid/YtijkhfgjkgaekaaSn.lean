/- Contracts of the seats: New. -/
import Derived.Test.YtijkhfgjkgaekaaSe
import Derived.Laws.MakeOwn
namespace Go.Proofs.Ytijkhfgjkgaekaa
open Go.RowKit Go.Conc
set_option linter.unusedVariables false
set_option linter.unusedSimpArgs false

set_option maxRecDepth 8000 in
set_option maxHeartbeats 1600000 in
theorem snew_no (n : Int) (w : World) (h : n < 1 ∨ 64 < n) :
    Calls Try.prog 8 #[.int .i64 n] w fun e w' => e = .returned (.pointer none) ∧ Below w.heap.size w w' := by
  go_enter Try.func8, Try.ntmps8
  by_cases h1 : n < 1
  · go_wp2
    go_ret
    exact ⟨rfl, (by repeat' (first | (with_reducible exact Below.refl _ _) | (with_reducible refine Below.alloc ?_ ?_ _) | (with_reducible refine below_drewN ?_ _) | (with_reducible refine Below.drew ?_) | (with_reducible refine Below.setCell ?_ ?_ _) | omega | (simp; omega) | (simp; done)))⟩
  · have h2 : 64 < n := by omega
    go_wp2
    go_ret
    exact ⟨rfl, (by repeat' (first | (with_reducible exact Below.refl _ _) | (with_reducible refine Below.alloc ?_ ?_ _) | (with_reducible refine below_drewN ?_ _) | (with_reducible refine Below.drew ?_) | (with_reducible refine Below.setCell ?_ ?_ _) | omega | (simp; omega) | (simp; done)))⟩

theorem bytes_int : ∃ i, Try.prog.info? 3 = some i ∧ i.bytes = 8 := by
  have h : (Try.prog.info? 3).map (·.bytes) = some 8 := by kernel_rfl
  obtain ⟨i, hi, hb⟩ := Option.map_eq_some_iff.1 h
  exact ⟨i, hi, hb⟩
theorem mk_chan (n : Nat) (h : n ≤ 64) (w : World) : (Instr.makeChan 40 (.int .i64 n)).run Try.prog w = .ok (.chan (some w.heap.size)) (w.alloc (.chan n #[] false 0 0 false)) := by
  obtain ⟨i, hi, hb⟩ := bytes_int
  exact run_makeChan (P := Try.prog) (w := w) Try.underlying40 hi .i64 n (by omega) (by rw [hb]; omega)

theorem sgen {P : Program} {c : Code} {Q : Exit → Act → World → Prop} {a : Act} {w : World} (F : World → Prop) (h : F w) (h2 : ∀ W, F W → NWp P c Q a W) : NWp P c Q a w := h2 w h
theorem bits_bool : ∃ i, Try.prog.info? 4 = some i ∧ i.bytes = 1 ∧ i.size = 1 ∧ i.zero = some (.bool false) := by
  have h : (Try.prog.info? 4).map (fun i => (i.bytes, i.size, i.zero)) = some (1, 1, some (.bool false)) := by kernel_rfl
  obtain ⟨i, hi, hb⟩ := Option.map_eq_some_iff.1 h
  injection hb with h1 h2
  injection h2 with h2 h3
  exact ⟨i, hi, h1, h2, h3⟩
theorem mk_slice (n : Nat) (h : n ≤ 64) : ∃ M : Array Value, (∀ j, j < n → M[j]? = some (.bool false)) ∧ ∀ w, (Instr.makeSlice 41 (.int .i64 n) (.int .i64 n)).run Try.prog w = .ok (.slice (some ⟨w.heap.size, 0, none⟩) n n) (w.alloc (.cells M 4)) := by
  obtain ⟨i, hi, hb, hs, hz⟩ := bits_bool
  refine ⟨madeCells #[.bool false] n, fun j hj => by simp [madeCells, hj, Nat.mod_one], fun w => ?_⟩
  have := run_make (P := Try.prog) w 41 4 i (.bool false) Try.underlying41 hi hz .i64 .i64 n n (by omega) (Int.le_refl _) (by rw [hb]; omega) (by omega)
  rw [hs] at this
  simp only [Int.toNat_natCast, Nat.mul_one] at this
  exact this

set_option maxRecDepth 8000 in
set_option maxHeartbeats 3200000 in
theorem snew_yes (n : Nat) (w : World) (n1 : 1 ≤ n) (n2 : n ≤ 64) :
    Calls Try.prog 8 #[.int .i64 n] w fun e w' => ∃ q c d, e = .returned (.pointer (some ⟨q, 0, none⟩)) ∧ SC w' q c d n (List.range n) (fun _ => false) ∧ w.heap.size ≤ q ∧ w.heap.size ≤ c ∧ w.heap.size ≤ d ∧ Below w.heap.size w w' := by
  have hmc := mk_chan n n2
  obtain ⟨M, hM, hms⟩ := mk_slice n n2
  have g1 : ¬ (n : Int) < 1 := by omega
  have g2 : ¬ 64 < (n : Int) := by omega
  (refine calls_of_nwp Try.func8 rfl ?_; simp only [Try.ntmps8, List.size_toArray, List.length_cons, List.length_nil, Nat.reduceAdd, Nat.reduceSub, Array.replicate_succ, Array.replicate_zero, List.push_toArray, List.append_toArray, List.nil_append, List.cons_append])
  refine NWp.seq_k fun K1 hK1 => NWp.of_wp ?_
  go_wp2
  refine NWp.seq_k fun K2 hK2 => NWp.of_wp ?_
  go_wp2
  refine NWp.seq_k fun K3 hK3 => NWp.of_wp ?_
  go_region
  refine hK3 _ _ ?_
  refine sgen (F := fun V => SC V (w.heap.size + 1 + 1) w.heap.size (w.heap.size + 1) n [] (fun _ => false) ∧ w.heap.size ≤ w.heap.size + 1 + 1 ∧ w.heap.size ≤ w.heap.size ∧ w.heap.size ≤ w.heap.size + 1 ∧ Below w.heap.size w V) ⟨⟨by go_simp, by go_simp, ⟨0, 0, ?_⟩, fun j hj => ?_, fun o => ?_, by omega, by omega, by omega, by simp, by simp, n2⟩, by omega, by omega, by omega, (by repeat' (first | (with_reducible exact Below.refl _ _) | (with_reducible refine Below.alloc ?_ ?_ _) | (with_reducible refine below_drewN ?_ _) | (with_reducible refine Below.drew ?_) | (with_reducible refine Below.setCell ?_ ?_ _) | omega | (simp; omega) | (simp; done)))⟩ ?_
  · exact (Below.heap_alloc _ _ _ (by simp; omega)).trans ((Below.heap_alloc _ _ _ (by simp)).trans (heap_alloc_new _ _))
  · have := hM j hj; go_simp
  · go_simp
  clear hmc hms hM hK3
  generalize w.heap.size + 1 + 1 = q
  generalize w.heap.size + 1 = d
  generalize w.heap.size = c
  rotate_left
  refine hK3 _ _ ?_
  refine sgen (F := fun V => SC V (w.heap.size + 1 + 1) (w.heap.size + 1) w.heap.size n [] (fun _ => false) ∧ w.heap.size ≤ w.heap.size + 1 + 1 ∧ w.heap.size ≤ w.heap.size + 1 ∧ w.heap.size ≤ w.heap.size ∧ Below w.heap.size w V) ⟨⟨by go_simp, by go_simp, ⟨0, 0, ?_⟩, fun j hj => ?_, fun o => ?_, by omega, by omega, by omega, by simp, by simp; omega, n2⟩, by omega, by omega, by omega, (by repeat' (first | (with_reducible exact Below.refl _ _) | (with_reducible refine Below.alloc ?_ ?_ _) | (with_reducible refine below_drewN ?_ _) | (with_reducible refine Below.drew ?_) | (with_reducible refine Below.setCell ?_ ?_ _) | omega | (simp; omega) | (simp; done)))⟩ ?_
  · exact (Below.heap_alloc _ _ _ (by simp)).trans (by have := heap_alloc_new (w.alloc (.cells M 4)) (.chan n #[] false 0 0 false); simpa using this)
  · have := hM j hj; go_simp
  · go_simp
  clear hmc hms hM hK3
  generalize w.heap.size + 1 + 1 = q
  generalize w.heap.size + 1 = c
  generalize w.heap.size = d
  rotate_left
  all_goals
    rintro V ⟨hS, b1, b2, b3, hb⟩
    refine NWp.seq_k fun K4 hK4 => ?_
    refine NWp.seq_k fun K5 hK5 => NWp.of_wp ?_
    go_wp2
    refine NWp.block ?_
    refine NWp.loop (fun a V => ∃ (k : Nat) (u4 u19 u20 u21 u22 u23 u24 u25 u26 : Value), a = ⟨#[Value.int .i64 n, undef, Value.pointer none, Value.pointer (some ⟨q, 0, none⟩), u4, Value.int .i64 n, Value.bool (decide ((n : Int) < 1)), Value.bool (decide ((n : Int) < 1)),
              Value.int .i64 n, Value.bool (decide (64 < (n : Int))), Value.bool (decide ((n : Int) < 1) || decide (64 < (n : Int))), Value.int .i64 n, Value.chan (some c), Value.int .i64 n,
              Value.slice (some ⟨d, 0, none⟩) n n, Value.agg #[Value.chan (some c), Value.slice (some ⟨d, 0, none⟩) n n], Value.pointer (some ⟨q, 0, none⟩), Value.int .i64 n, Value.int .i64 k, u19, u20, u21, u22, u23, u24, u25, u26, undef], []⟩ ∧
              k ≤ n ∧ SC V q c d n (List.range k) (fun _ => false) ∧ Below (min c d) w V) (fun a _ => 64 - (intOf (a.tmps.getD 18 undef)).toNat) ?_ ?_
    · exact ⟨0, _, _, _, _, _, _, _, _, _, rfl, by omega, hS, hb.mono (by omega)⟩
    · rintro a V2 ⟨k, u4, u19, u20, u21, u22, u23, u24, u25, u26, rfl, hk, hS2, hb2⟩
      clear hS hb
      refine NWp.seq_k fun K6 hK6 => NWp.of_wp ?_
      by_cases hkn : k < n
      · have hkl : (k : Int) < n := by omega
        go_wp2
        refine NWp.seq_k fun K7 hK7 => NWp.of_wp ?_
        go_wp2
        refine NWp.seq_k fun K8 hK8 => NWp.block (NWp.seq_k fun K9 hK9 => NWp.of_wp ?_)
        go_wp2
        obtain ⟨h0, h1, ⟨s, r, hc⟩, hm, hfz, m1, m2, m3, hq, hd, hn⟩ := hS2
        have hcl := chan_lt hc
        (refine NWp.region ?_; simp only [List.size_toArray, List.length_cons, List.length_nil, Nat.reduceAdd, List.range, List.range.loop])
        (refine NOps.val0 (v := ?_) rfl (by rfl) ?_ ?_; rotate_left; (focus (go_simp; (try with_reducible rfl); done)); (try simp only [List.getElem_toArray, List.getElem_cons_succ, List.getElem_cons_zero, Act.put, List.setIfInBounds_toArray, List.set_cons_zero, List.set_cons_succ]))
        (refine NOps.val0 (v := ?_) rfl (by rfl) ?_ ?_; rotate_left; (focus (go_simp; (try with_reducible rfl); done)); (try simp only [List.getElem_toArray, List.getElem_cons_succ, List.getElem_cons_zero, Act.put, List.setIfInBounds_toArray, List.set_cons_zero, List.set_cons_succ]))
        (refine NOps.val0 (v := ?_) rfl (by rfl) ?_ ?_; rotate_left; (focus (go_simp; (try with_reducible rfl); done)); (try simp only [List.getElem_toArray, List.getElem_cons_succ, List.getElem_cons_zero, Act.put, List.setIfInBounds_toArray, List.set_cons_zero, List.set_cons_succ]))
        (refine NOps.val0 (v := ?_) rfl (by rfl) ?_ ?_; rotate_left; (focus (go_simp; (try with_reducible rfl); done)); (try simp only [List.getElem_toArray, List.getElem_cons_succ, List.getElem_cons_zero, Act.put, List.setIfInBounds_toArray, List.set_cons_zero, List.set_cons_succ]))
        (refine NOps.val0 (v := ?_) rfl (by rfl) ?_ ?_; rotate_left; (focus (go_simp; (try with_reducible rfl); done)); (try simp only [List.getElem_toArray, List.getElem_cons_succ, List.getElem_cons_zero, Act.put, List.setIfInBounds_toArray, List.set_cons_zero, List.set_cons_succ]))
        refine NOps.send (c := c) (z := .tuple #[]) (v := .int .i64 k) rfl (by rfl) (by simp [execOp, scase, Act.eval]) hc (by simpa using hkn) ?_
        refine NOps.nil ?_
        refine hK8 _ _ (NWp.of_wp ?_)
        (try simp only [List.getElem_toArray, List.getElem_cons_succ, List.getElem_cons_zero, Act.put, List.setIfInBounds_toArray, List.set_cons_zero, List.set_cons_succ])
        have wk : IntKind.i64.wrap ((k : Int) + 1) = (k : Int) + 1 := wrap_in _ (by omega) (by omega)
        go_wp2
        refine ⟨⟨k + 1, by simp, by omega, ⟨(chan_cell _ _ _ _ _ _ _ _ (p := ⟨q, 0, none⟩) m1).trans h0, (chan_cell _ _ _ _ _ _ _ _ (p := ⟨q, 1, none⟩) m1).trans h1, ⟨s + 1, r, by rw [chan_here _ _ _ _ _ _ _ _ hcl]; simp [seatV, List.range_succ]⟩, fun j hj => (chan_cell _ _ _ _ _ _ _ _ (p := ⟨d, j, none⟩) (Ne.symm m3)).trans (hm j hj), fun o => (chan_frozen _ _ _ _ _ _ _ _ (p := ⟨d, o, none⟩) (Ne.symm m3)).trans (hfz o), m1, m2, m3, by rw [chan_size]; exact hq, by rw [chan_size]; exact hd, hn⟩, by refine below_setChan (hb2.mono ?_) ?_ _ _ _ _ _ _ <;> omega⟩, ?_⟩
        simp [intOf]; omega
      · have hkl : ¬ (k : Int) < n := by omega
        have ekn : k = n := by omega
        go_wp2
        refine NWp.seq_k fun K7 hK7 => NWp.of_wp ?_
        go_wp2
        refine NWp.of_wp ?_
        go_wp2
        go_ret
        subst ekn
        exact ⟨q, rfl, c, d, hS2, b1, b2, b3, hb2.mono (by omega)⟩
end Go.Proofs.Ytijkhfgjkgaekaa
