/- Contracts of the seats: there, Give, Take. -/
import Derived.Test.YtijkhfgjkgaekaaSb
namespace Go.Proofs.Ytijkhfgjkgaekaa
open Go.RowKit Go.Conc
set_option linter.unusedVariables false
set_option linter.unusedSimpArgs false

/-- A seat's number as a value. -/
def seatV (x : Nat) : Value := .int .i64 (x : Int)
/-- Seats: their struct's block q, the channel's c, the marks' d; those that are free, in order; which are taken. -/
def SC (w : World) (q c d n : Nat) (free : List Nat) (taken : Nat → Bool) : Prop :=
  w.cell? ⟨q, 0, none⟩ = some (.chan (some c)) ∧ w.cell? ⟨q, 1, none⟩ = some (.slice (some ⟨d, 0, none⟩) n n) ∧ (∃ s r, w.heap[c]? = some (.chan n (free.map seatV).toArray false s r false)) ∧
  (∀ j, j < n → w.cell? ⟨d, j, none⟩ = some (.bool (taken j))) ∧ (∀ o, w.frozen? ⟨d, o, none⟩ = false) ∧ q ≠ c ∧ q ≠ d ∧ c ≠ d ∧ q < w.heap.size ∧ d < w.heap.size ∧ n ≤ 64

set_option maxHeartbeats 1600000 in
theorem there_any (q d n : Nat) (k : Int) (w : World) (h1 : w.cell? ⟨q, 1, none⟩ = some (.slice (some ⟨d, 0, none⟩) n n)) :
    Calls Try.prog 20 #[.pointer (some ⟨q, 0, none⟩), .int .i64 k] w fun e w' => e = .returned (.bool (decide (0 ≤ k) && decide (k < n))) ∧ Below w.heap.size w w' := by
  go_enter Try.func20, Try.ntmps20
  cases hk : decide (0 ≤ k)
  · go_wp2
    go_ret
    exact ⟨by simp, (by repeat' (first | (with_reducible exact Below.refl _ _) | (with_reducible refine Below.alloc ?_ ?_ _) | (with_reducible refine below_drewN ?_ _) | (with_reducible refine Below.drew ?_) | (with_reducible refine Below.setCell ?_ ?_ _) | omega | (simp; omega) | (simp; done)))⟩
  · go_wp2
    go_ret
    exact ⟨by simp, (by repeat' (first | (with_reducible exact Below.refl _ _) | (with_reducible refine Below.alloc ?_ ?_ _) | (with_reducible refine below_drewN ?_ _) | (with_reducible refine Below.drew ?_) | (with_reducible refine Below.setCell ?_ ?_ _) | omega | (simp; omega) | (simp; done)))⟩

theorem gen_nwp {P : Program} {c : Code} {Q : Exit → Act → World → Prop} {a : Act} {w : World} (F : World → Prop) (h : F w) (h2 : ∀ W, F W → NWp P c Q a W) : NWp P c Q a w := h2 w h
theorem chan_lt {w : World} {c cap s r : Nat} {buf : Array Value} {cl tm : Bool} (h : w.heap[c]? = some (.chan cap buf cl s r tm)) : c < w.heap.size := (Array.getElem?_eq_some_iff.1 h).1

set_option maxRecDepth 8000 in
set_option maxHeartbeats 3200000 in
theorem give_yes (q c d n k : Nat) (free : List Nat) (taken : Nat → Bool) (w : World) (h : SC w q c d n free taken) (hk : k < n) (ht : taken k = true) (hf : free.length < n) :
    Calls Try.prog 10 #[.pointer (some ⟨q, 0, none⟩), .int .i64 k] w fun e w' => e = .returned (.int .i64 0) ∧ SC w' q c d n (free ++ [k]) (fun j => if j = k then false else taken j) ∧ Keeps (fun b => b = c ∨ b = d) w w' := by
  obtain ⟨h0, h1, ⟨s, r, hc⟩, hm, hfz, n1, n2, n3, hq, hd, hn⟩ := h
  have kn : decide ((k : Int) < n) = true := by simp; omega
  have k0 : decide (0 ≤ (k : Int)) = true := by simp
  have ht' : ∀ w1, Below w.heap.size w w1 → Calls Try.prog 20 #[.pointer (some ⟨q, 0, none⟩), .int .i64 k] w1 fun e w' => e = .returned (.bool true) ∧ Below w1.heap.size w1 w' := fun w1 hb => by
    have := there_any q d n k w1 ((hb.cell (p := ⟨q, 1, none⟩) hq).trans h1)
    rw [k0, kn] at this
    exact this
  have HT := Lib.hid ht'
  have hmk := hm k hk
  rw [ht] at hmk
  have hkl : (k : Int) < n := by omega
  clear ht'
  (refine calls_of_nwp Try.func10 rfl ?_; simp only [Try.ntmps10, List.size_toArray, List.length_cons, List.length_nil, Nat.reduceAdd, Nat.reduceSub, Array.replicate_succ, Array.replicate_zero, List.push_toArray, List.append_toArray, List.nil_append, List.cons_append])
  refine NWp.seq_k fun K1 hK1 => NWp.of_wp ?_
  go_wp2
  refine NWp.seq_k fun K2 hK2 => NWp.of_wp ?_
  go_wp2_with (go_at_call 20; (with_reducible refine (HT.out _ ?_).mono ?_); (focus (exact (by repeat' (first | (with_reducible exact Below.refl _ _) | (with_reducible refine Below.alloc ?_ ?_ _) | (with_reducible refine below_drewN ?_ _) | (with_reducible refine Below.drew ?_) | (with_reducible refine Below.setCell ?_ ?_ _) | omega | (simp; omega) | (simp; done))))); rintro e w1 ⟨rfl, hb1⟩; have s_w1 := hb1.size; (try simp only [World.size_alloc, World.size_setCell, World.size_drew, sz_drewN] at s_w1); have z_w1_0_0 : q < w1.heap.size := (by omega); have z_w1_0_1 : q < w1.heap.size + 1 := (by omega); have z_w1_0_2 : q < w1.heap.size + 1 + 1 := (by omega); have q_w1_0_0 : w1.cell? ⟨q, 0, none⟩ = some (.chan (some c)) := (hb1.cell (p := ⟨q, 0, none⟩) (by first | (show q < _; omega) | (show q < _; simp; done) | (show q < _; simp; omega))).trans (by first | assumption | (go_simp; done)); have q_w1_0_1 : w1.cell? ⟨q, 1, none⟩ = some (.slice (some ⟨d, 0, none⟩) n n) := (hb1.cell (p := ⟨q, 1, none⟩) (by first | (show q < _; omega) | (show q < _; simp; done) | (show q < _; simp; omega))).trans (by first | assumption | (go_simp; done)); have m1 : w1.cell? ⟨d, k, none⟩ = some (.bool true) := (hb1.cell (p := ⟨d, k, none⟩) hd).trans hmk)
  have f1 : ∀ o, w1.frozen? ⟨d, o, none⟩ = false := fun o => (hb1.frozen (p := ⟨d, o, none⟩) hd).trans (hfz o)
  have hd1 : d < w1.heap.size := by omega
  refine NWp.seq_k fun K3 hK3 => NWp.of_wp ?_
  go_wp2
  have hcl := chan_lt hc
  have hc1 : w1.heap[c]? = _ := (hb1.block c hcl).trans hc
  refine gen_nwp (F := fun V => V.cell? ⟨q, 0, none⟩ = some (.chan (some c)) ∧ V.cell? ⟨q, 1, none⟩ = some (.slice (some ⟨d, 0, none⟩) n n) ∧ V.heap[c]? = some (.chan n (free.map seatV).toArray false s r false) ∧ (∀ j, j < n → V.cell? ⟨d, j, none⟩ = some (.bool (if j = k then false else taken j))) ∧ (∀ o, V.frozen? ⟨d, o, none⟩ = false) ∧ q < V.heap.size ∧ d < V.heap.size ∧ Keeps (fun b => b = c ∨ b = d) w V) ⟨by go_simp, by go_simp, ?_, ?_, ?_, ?_, ?_, ?_⟩ ?_
  · exact (Below.heap_setCell _ _ _ _ (by show c ≠ d; exact n3)).trans hc1
  · intro j hj
    by_cases e : j = k
    · subst e; simp; go_simp
    · rw [if_neg e]
      exact (cell_other w1 d k j _ e).trans ((hb1.cell (p := ⟨d, j, none⟩) hd).trans (hm j hj))
  · intro o; go_simp
  · simp; omega
  · simp; omega
  · exact (Keeps.refl.below hb1).setCell (fun _ => .inr rfl) _
  clear hb1 HT hmk m1 f1 hd1 hc1 q_w1_0_0 q_w1_0_1 hm hfz h0 h1 hc hcl ht
  rintro V ⟨c0, c1, cc, cm, cf, hqV, hdV, hkv⟩
  have hcl := chan_lt cc
  refine NWp.seq_k fun K4 hK4 => ?_
  (refine NWp.region ?_; simp only [List.size_toArray, List.length_cons, List.length_nil, Nat.reduceAdd, List.range, List.range.loop])
  (refine NOps.val0 (v := ?_) rfl (by rfl) ?_ ?_; rotate_left; (focus (go_simp; (try with_reducible rfl); done)); (try simp only [List.getElem_toArray, List.getElem_cons_succ, List.getElem_cons_zero, Act.put, List.setIfInBounds_toArray, List.set_cons_zero, List.set_cons_succ]))
  (refine NOps.val0 (v := ?_) rfl (by rfl) ?_ ?_; rotate_left; (focus (go_simp; (try with_reducible rfl); done)); (try simp only [List.getElem_toArray, List.getElem_cons_succ, List.getElem_cons_zero, Act.put, List.setIfInBounds_toArray, List.set_cons_zero, List.set_cons_succ]))
  (refine NOps.val0 (v := ?_) rfl (by rfl) ?_ ?_; rotate_left; (focus (go_simp; (try with_reducible rfl); done)); (try simp only [List.getElem_toArray, List.getElem_cons_succ, List.getElem_cons_zero, Act.put, List.setIfInBounds_toArray, List.set_cons_zero, List.set_cons_succ]))
  (refine NOps.val0 (v := ?_) rfl (by rfl) ?_ ?_; rotate_left; (focus (go_simp; (try with_reducible rfl); done)); (try simp only [List.getElem_toArray, List.getElem_cons_succ, List.getElem_cons_zero, Act.put, List.setIfInBounds_toArray, List.set_cons_zero, List.set_cons_succ]))
  (refine NOps.val0 (v := ?_) rfl (by rfl) ?_ ?_; rotate_left; (focus (go_simp; (try with_reducible rfl); done)); (try simp only [List.getElem_toArray, List.getElem_cons_succ, List.getElem_cons_zero, Act.put, List.setIfInBounds_toArray, List.set_cons_zero, List.set_cons_succ]))
  refine NOps.send (c := c) (z := .tuple #[]) (v := .int .i64 k) rfl (by rfl) (by simp [execOp, scase, Act.eval]) cc (by simpa using hf) ?_
  refine NOps.nil ?_
  refine hK4 _ _ ?_
  refine NWp.of_wp ?_
  (try simp only [List.getElem_toArray, List.getElem_cons_succ, List.getElem_cons_zero, Act.put, List.setIfInBounds_toArray, List.set_cons_zero, List.set_cons_succ])
  go_wp2
  go_ret
  exact ⟨rfl, ⟨(chan_cell _ _ _ _ _ _ _ _ (p := ⟨q, 0, none⟩) n1).trans c0, (chan_cell _ _ _ _ _ _ _ _ (p := ⟨q, 1, none⟩) n1).trans c1, ⟨s + 1, r, by rw [chan_here _ _ _ _ _ _ _ _ hcl]; simp [seatV]⟩, fun j hj => (chan_cell _ _ _ _ _ _ _ _ (p := ⟨d, j, none⟩) (Ne.symm n3)).trans (cm j hj), fun o => (chan_frozen _ _ _ _ _ _ _ _ (p := ⟨d, o, none⟩) (Ne.symm n3)).trans (cf o), n1, n2, n3, by rw [chan_size]; exact hqV, by rw [chan_size]; exact hdV, hn⟩, hkv.chan (fun _ => .inl rfl) _ _ _ _ _ _⟩

set_option maxRecDepth 8000 in
set_option maxHeartbeats 3200000 in
theorem give_no (q c d n k : Nat) (free : List Nat) (taken : Nat → Bool) (w : World) (h : SC w q c d n free taken) (hk : k < n) (ht : taken k = false) :
    Calls Try.prog 10 #[.pointer (some ⟨q, 0, none⟩), .int .i64 k] w fun e w' => e = .returned (.int .i64 12) ∧ Below w.heap.size w w' := by
  obtain ⟨h0, h1, ⟨s, r, hc⟩, hm, hfz, n1, n2, n3, hq, hd, hn⟩ := h
  have kn : decide ((k : Int) < n) = true := by simp; omega
  have k0 : decide (0 ≤ (k : Int)) = true := by simp
  have ht' : ∀ w1, Below w.heap.size w w1 → Calls Try.prog 20 #[.pointer (some ⟨q, 0, none⟩), .int .i64 k] w1 fun e w' => e = .returned (.bool true) ∧ Below w1.heap.size w1 w' := fun w1 hb => by
    have := there_any q d n k w1 ((hb.cell (p := ⟨q, 1, none⟩) hq).trans h1)
    rw [k0, kn] at this
    exact this
  have HT := Lib.hid ht'
  have hmk := hm k hk
  rw [ht] at hmk
  have hkl : (k : Int) < n := by omega
  clear ht'
  go_enter Try.func10, Try.ntmps10
  go_wp2_with (go_at_call 20; (with_reducible refine (HT.out _ ?_).mono ?_); (focus (exact (by repeat' (first | (with_reducible exact Below.refl _ _) | (with_reducible refine Below.alloc ?_ ?_ _) | (with_reducible refine below_drewN ?_ _) | (with_reducible refine Below.drew ?_) | (with_reducible refine Below.setCell ?_ ?_ _) | omega | (simp; omega) | (simp; done))))); rintro e w1 ⟨rfl, hb1⟩; have s_w1 := hb1.size; (try simp only [World.size_alloc, World.size_setCell, World.size_drew, sz_drewN] at s_w1); have z_w1_0_0 : q < w1.heap.size := (by omega); have z_w1_0_1 : q < w1.heap.size + 1 := (by omega); have z_w1_0_2 : q < w1.heap.size + 1 + 1 := (by omega); have q_w1_0_0 : w1.cell? ⟨q, 0, none⟩ = some (.chan (some c)) := (hb1.cell (p := ⟨q, 0, none⟩) (by first | (show q < _; omega) | (show q < _; simp; done) | (show q < _; simp; omega))).trans (by first | assumption | (go_simp; done)); have q_w1_0_1 : w1.cell? ⟨q, 1, none⟩ = some (.slice (some ⟨d, 0, none⟩) n n) := (hb1.cell (p := ⟨q, 1, none⟩) (by first | (show q < _; omega) | (show q < _; simp; done) | (show q < _; simp; omega))).trans (by first | assumption | (go_simp; done)); have m1 : w1.cell? ⟨d, k, none⟩ = some (.bool false) := (hb1.cell (p := ⟨d, k, none⟩) hd).trans hmk)
  go_ret
  exact ⟨rfl, (by have s0_ := hb1.size; (try simp only [World.size_alloc, World.size_setCell, World.size_drew, sz_drewN] at s0_); repeat' (first | (with_reducible exact Below.refl _ _) | (with_reducible refine bel_call ?_ ?_ hb1) | (with_reducible refine Below.alloc ?_ ?_ _) | (with_reducible refine below_drewN ?_ _) | (with_reducible refine Below.drew ?_) | (with_reducible refine Below.setCell ?_ ?_ _) | omega | (simp; omega) | (simp; done)))⟩

set_option maxRecDepth 8000 in
set_option maxHeartbeats 3200000 in
theorem give_arg (q c d n : Nat) (k : Int) (free : List Nat) (taken : Nat → Bool) (w : World) (h : SC w q c d n free taken) (hk : k < 0 ∨ (n : Int) ≤ k) :
    Calls Try.prog 10 #[.pointer (some ⟨q, 0, none⟩), .int .i64 k] w fun e w' => e = .returned (.int .i64 1) ∧ Below w.heap.size w w' := by
  obtain ⟨h0, h1, ⟨s, r, hc⟩, hm, hfz, n1, n2, n3, hq, hd, hn⟩ := h
  have kn : (decide (0 ≤ k) && decide (k < n)) = false := by
    rcases hk with h | h
    · rw [show decide (0 ≤ k) = false by simp; omega]; rfl
    · rw [show decide (k < n) = false by simp; omega, Bool.and_false]
  have ht' : ∀ w1, Below w.heap.size w w1 → Calls Try.prog 20 #[.pointer (some ⟨q, 0, none⟩), .int .i64 k] w1 fun e w' => e = .returned (.bool false) ∧ Below w1.heap.size w1 w' := fun w1 hb => by
    have := there_any q d n k w1 ((hb.cell (p := ⟨q, 1, none⟩) hq).trans h1)
    rw [kn] at this
    exact this
  have HT := Lib.hid ht'
  clear ht'
  go_enter Try.func10, Try.ntmps10
  go_wp2_with (go_at_call 20; (with_reducible refine (HT.out _ ?_).mono ?_); (focus (exact (by repeat' (first | (with_reducible exact Below.refl _ _) | (with_reducible refine Below.alloc ?_ ?_ _) | (with_reducible refine below_drewN ?_ _) | (with_reducible refine Below.drew ?_) | (with_reducible refine Below.setCell ?_ ?_ _) | omega | (simp; omega) | (simp; done))))); rintro e w1 ⟨rfl, hb1⟩)
  go_ret
  exact ⟨rfl, (by have s0_ := hb1.size; (try simp only [World.size_alloc, World.size_setCell, World.size_drew, sz_drewN] at s0_); repeat' (first | (with_reducible exact Below.refl _ _) | (with_reducible refine bel_call ?_ ?_ hb1) | (with_reducible refine Below.alloc ?_ ?_ _) | (with_reducible refine below_drewN ?_ _) | (with_reducible refine Below.drew ?_) | (with_reducible refine Below.setCell ?_ ?_ _) | omega | (simp; omega) | (simp; done)))⟩

set_option maxRecDepth 8000 in
set_option maxHeartbeats 3200000 in
theorem take_none (q c d n : Nat) (taken : Nat → Bool) (w : World) (h : SC w q c d n [] taken) :
    Calls Try.prog 9 #[.pointer (some ⟨q, 0, none⟩)] w fun e w' => e = .returned (.tuple #[.int .i64 0, .int .i64 15]) ∧ Below w.heap.size w w' := by
  obtain ⟨h0, h1, ⟨s, r, hc⟩, hm, hfz, n1, n2, n3, hq, hd, hn⟩ := h
  (refine calls_of_nwp Try.func9 rfl ?_; simp only [Try.ntmps9, List.size_toArray, List.length_cons, List.length_nil, Nat.reduceAdd, Nat.reduceSub, Array.replicate_succ, Array.replicate_zero, List.push_toArray, List.append_toArray, List.nil_append, List.cons_append])
  refine NWp.seq_k fun K1 hK1 => NWp.of_wp ?_
  go_wp2
  refine NWp.seq_k fun K2 hK2 => NWp.of_wp ?_
  go_wp2
  refine NWp.seq_k fun K3 hK3 => NWp.of_wp ?_
  go_wp2
  refine NWp.seq_k fun K4 hK4 => ?_
  (refine NWp.region ?_; simp only [List.size_toArray, List.length_cons, List.length_nil, Nat.reduceAdd, List.range, List.range.loop])
  refine NOps.none (c := c) (z := .int .i64 0) rfl (by rfl) (by simp [go_sem, execOp, rcase, Act.eval]) hc ?_
  (try simp only [List.getElem_toArray, List.getElem_cons_succ, List.getElem_cons_zero, Act.put, List.setIfInBounds_toArray, List.set_cons_zero, List.set_cons_succ])
  (refine NOps.val0 (v := ?_) rfl (by rfl) ?_ ?_; rotate_left; (focus (go_simp; (try with_reducible rfl); done)); (try simp only [List.getElem_toArray, List.getElem_cons_succ, List.getElem_cons_zero, Act.put, List.setIfInBounds_toArray, List.set_cons_zero, List.set_cons_succ]))
  (refine NOps.val0 (v := ?_) rfl (by rfl) ?_ ?_; rotate_left; (focus (go_simp; (try with_reducible rfl); done)); (try simp only [List.getElem_toArray, List.getElem_cons_succ, List.getElem_cons_zero, Act.put, List.setIfInBounds_toArray, List.set_cons_zero, List.set_cons_succ]))
  refine NOps.nil ?_
  refine hK4 _ _ (NWp.of_wp ?_)
  (try simp only [List.getElem_toArray, List.getElem_cons_succ, List.getElem_cons_zero, Act.put, List.setIfInBounds_toArray, List.set_cons_zero, List.set_cons_succ])
  go_wp2
  exact bodyPost_ret (v := .tuple #[.int .i64 0, .int .i64 15]) (by simp only [results, Try.results9]; go_simp) rfl ⟨rfl, Below.refl _ _⟩

set_option maxRecDepth 8000 in
set_option maxHeartbeats 3200000 in
theorem take_some (q c d n x : Nat) (rest : List Nat) (taken : Nat → Bool) (w : World) (h : SC w q c d n (x :: rest) taken) (hx : x < n) :
    Calls Try.prog 9 #[.pointer (some ⟨q, 0, none⟩)] w fun e w' => e = .returned (.tuple #[.int .i64 x, .int .i64 0]) ∧ SC w' q c d n rest (fun j => if j = x then true else taken j) ∧ Keeps (fun b => b = c ∨ b = d) w w' := by
  obtain ⟨h0, h1, ⟨s, r, hc⟩, hm, hfz, n1, n2, n3, hq, hd, hn⟩ := h
  (refine calls_of_nwp Try.func9 rfl ?_; simp only [Try.ntmps9, List.size_toArray, List.length_cons, List.length_nil, Nat.reduceAdd, Nat.reduceSub, Array.replicate_succ, Array.replicate_zero, List.push_toArray, List.append_toArray, List.nil_append, List.cons_append])
  refine NWp.seq_k fun K1 hK1 => NWp.of_wp ?_
  go_wp2
  refine NWp.seq_k fun K2 hK2 => NWp.of_wp ?_
  go_wp2
  refine NWp.seq_k fun K3 hK3 => NWp.of_wp ?_
  go_wp2
  refine NWp.seq_k fun K4 hK4 => ?_
  (refine NWp.region ?_; simp only [List.size_toArray, List.length_cons, List.length_nil, Nat.reduceAdd, List.range, List.range.loop])
  refine NOps.pick (c := c) (z := .int .i64 0) rfl (by rfl) (by simp [go_sem, execOp, rcase, Act.eval]) hc (by simp) ?_
  (try simp only [List.getElem_toArray, List.getElem_cons_succ, List.getElem_cons_zero, Act.put, List.setIfInBounds_toArray, List.set_cons_zero, List.set_cons_succ])
  (refine NOps.val0 (v := ?_) rfl (by rfl) ?_ ?_; rotate_left; (focus (go_simp; (try with_reducible rfl); done)); (try simp only [List.getElem_toArray, List.getElem_cons_succ, List.getElem_cons_zero, Act.put, List.setIfInBounds_toArray, List.set_cons_zero, List.set_cons_succ]))
  (refine NOps.val0 (v := ?_) rfl (by rfl) ?_ ?_; rotate_left; (focus (go_simp; (try with_reducible rfl); done)); (try simp only [List.getElem_toArray, List.getElem_cons_succ, List.getElem_cons_zero, Act.put, List.setIfInBounds_toArray, List.set_cons_zero, List.set_cons_succ]))
  refine NOps.nil ?_
  refine hK4 _ _ ?_
  have hcl := chan_lt hc
  refine gen_nwp (F := fun V => V.cell? ⟨q, 0, none⟩ = some (.chan (some c)) ∧ V.cell? ⟨q, 1, none⟩ = some (.slice (some ⟨d, 0, none⟩) n n) ∧ V.heap[c]? = some (.chan n (rest.map seatV).toArray false s (r + 1) false) ∧ (∀ j, j < n → V.cell? ⟨d, j, none⟩ = some (.bool (taken j))) ∧ (∀ o, V.frozen? ⟨d, o, none⟩ = false) ∧ q < V.heap.size ∧ d < V.heap.size ∧ Keeps (fun b => b = c ∨ b = d) w V) ⟨(chan_cell _ _ _ _ _ _ _ _ (p := ⟨q, 0, none⟩) n1).trans h0, (chan_cell _ _ _ _ _ _ _ _ (p := ⟨q, 1, none⟩) n1).trans h1, by rw [chan_here _ _ _ _ _ _ _ _ hcl]; simp; exact List.take_of_length_le (by simp), fun j hj => (chan_cell _ _ _ _ _ _ _ _ (p := ⟨d, j, none⟩) (Ne.symm n3)).trans (hm j hj), fun o => (chan_frozen _ _ _ _ _ _ _ _ (p := ⟨d, o, none⟩) (Ne.symm n3)).trans (hfz o), by rw [chan_size]; exact hq, by rw [chan_size]; exact hd, Keeps.refl.chan (fun _ => .inl rfl) _ _ _ _ _ _⟩ ?_
  clear hm hfz h0 h1 hc hcl
  rintro V ⟨c0, c1, cc, cm, cf, hqV, hdV, hkv⟩
  have hxl : (x : Int) < n := by omega
  have cmx := cm x hx
  refine NWp.of_wp ?_
  (try simp only [List.getElem_toArray, List.getElem_cons_succ, List.getElem_cons_zero, Act.put, List.setIfInBounds_toArray, List.set_cons_zero, List.set_cons_succ])
  try simp only [seatV, List.map_cons, Array.getD_eq_getD_getElem?, List.getElem?_toArray, List.getElem?_cons_zero, Option.getD_some]
  go_wp2
  refine bodyPost_ret (v := .tuple #[.int .i64 x, .int .i64 0]) (by simp only [results, Try.results9]; go_simp) rfl ?_
  refine ⟨rfl, ⟨by go_simp, by go_simp, ⟨s, r + 1, (Below.heap_setCell _ _ _ _ (by show c ≠ d; exact n3)).trans cc⟩, ?_, fun o => by go_simp, n1, n2, n3, by simp; omega, by simp; omega, hn⟩, hkv.setCell (fun _ => .inr rfl) _⟩
  intro j hj
  show _ = some (Value.bool (if j = x then true else taken j))
  by_cases e : j = x
  · subst e; simp; go_simp
  · rw [if_neg e]
    exact (cell_other V d x j _ e).trans (cm j hj)
end Go.Proofs.Ytijkhfgjkgaekaa
