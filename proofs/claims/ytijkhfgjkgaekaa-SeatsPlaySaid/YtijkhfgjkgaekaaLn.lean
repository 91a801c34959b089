/- A walk of code that sends and receives on channels of its own, in one goroutine: 'Code.wp' for ordinary calls alone, and its rules. No function of the program is named. -/
import Derived.Test.YtijkhfgjkgaekaaRows
import Derived.Conc.LoneCalls
import Derived.Conc.LoneSelect
import Derived.WalkKit
namespace Go.Proofs.Ytijkhfgjkgaekaa
open Go.RowKit Go.Conc
set_option linter.unusedVariables false
set_option linter.unusedSimpArgs false

/-- From this code the machine of one comes to an exit of which Q holds, in the frame of an ordinary call. -/
def NWp (P : Program) (c : Code) (Q : Exit → Act → World → Prop) (a : Act) (w : World) : Prop :=
  ∀ (b : Frame) (k : List Item) (cs : List Frame), b.kind = .normal → ∃ e a' w', Q e a' w' ∧ Arrives P (lone (b.at a (.code c :: k)) cs w) b k cs e a' w'
/-- The same of a region's operations that are left. -/
def NOps (P : Program) (ops : Array Oper) (Q : Exit → Act → World → Prop) (l : List Nat) (a : Act) (w : World) : Prop :=
  ∀ (b : Frame) (k : List Item) (cs : List Frame), b.kind = .normal → ∃ e a' w', Q e a' w' ∧ Arrives P (lone (b.at a (.inRegion ops l :: k)) cs w) b k cs e a' w'

section
variable {P : Program} {Q : Exit → Act → World → Prop} {a : Act} {w : World} {ops : Array Oper}

theorem NWp.of_wp {c : Code} (h : c.wp P Q a w) : NWp P c Q a w := fun b k cs _ => h b k cs
theorem NWp.seq {x y : Code} (h : NWp P x (Exit.then (NWp P y Q) Q) a w) : NWp P (.seq x y) Q a w := by
  intro b k cs hb
  obtain ⟨e, a1, w1, hq, hr⟩ := h b (.code y :: k) cs hb
  cases e with
  | normal =>
    obtain ⟨e2, a2, w2, hq2, hr2⟩ := hq b k cs hb
    exact ⟨e2, a2, w2, hq2, .of_steps (.head step_seq hr) hr2⟩
  | _ => exact ⟨_, a1, w1, hq, .of_steps (.one step_seq) (.pass (x := .code y) rfl (fun _ _ => .inl (by simp)) hr)⟩
theorem NWp.seq_k {x y : Code} (h : ∀ K : Act → World → Prop, (∀ a w, NWp P y Q a w → K a w) → NWp P x (Exit.then K Q) a w) : NWp P (.seq x y) Q a w := .seq (h _ fun _ _ h => h)
theorem NWp.cond {c : Operand} {x y : Code} {t : Bool} (hc : a.eval c = .bool t) (h : NWp P (if t then x else y) Q a w) : NWp P (.cond c x y) Q a w :=
  fun b k cs hb => let ⟨e, a', w', q, r⟩ := h b k cs hb; ⟨e, a', w', q, .of_steps (.one (step_cond hc)) r⟩
theorem NWp.block {id : Nat} {c : Code} (h : NWp P c (Exit.inBlock id Q) a w) : NWp P (.block id c) Q a w := by
  intro b k cs hb
  obtain ⟨e, a1, w1, hq, hr⟩ := h b (.inBlock id :: k) cs hb
  cases e with
  | normal => exact ⟨.normal, a1, w1, hq, .head step_block (Steps.trans hr (.one step_inBlock))⟩
  | exit i2 =>
    by_cases hid : i2 = id
    · simp only [Exit.inBlock, hid, if_true] at hq
      exact ⟨.normal, a1, w1, hq, .head step_block (hr k (by simp [exitTo, hid]))⟩
    · simp only [Exit.inBlock, hid, if_false] at hq
      refine ⟨.exit i2, a1, w1, hq, fun k' hk => .head step_block (hr k' ?_)⟩
      have : (id == i2) = false := by simp; exact fun h => hid h.symm
      simp [exitTo, this, hk]
  | goto l => exact ⟨_, a1, w1, hq, fun k' hk => .head step_block (hr k' (by simp [gotoIn, hk]))⟩
  | ret => exact ⟨_, a1, w1, hq, .of_steps (.one step_block) hr⟩
  | panic ch => exact ⟨_, a1, w1, hq, .of_steps (.one step_block) hr⟩
  | outgrown => exact ⟨_, a1, w1, hq, .of_steps (b := b) (k := k) (cs := cs) (e := .outgrown) (.one step_block) hr⟩
theorem NWp.loop {c : Code} (I : Act → World → Prop) (m : Act → World → Nat) (h0 : I a w)
    (round : ∀ a w, I a w → NWp P c (Exit.then (fun a' w' => I a' w' ∧ m a' w' < m a w) Q) a w) : NWp P (.loop c) Q a w := by
  intro b k cs hb
  have key : ∀ n a w, m a w = n → I a w → ∃ e a' w', Q e a' w' ∧ Arrives P (lone (b.at a (.code c :: .inLoop c :: k)) cs w) b k cs e a' w' := by
    intro n
    induction n using Nat.strongRecOn with
    | _ n ih =>
      intro a w hn hI
      obtain ⟨e, a1, w1, hq, hr⟩ := round a w hI b (.inLoop c :: k) cs hb
      cases e with
      | normal =>
        obtain ⟨hI1, hlt⟩ := hq
        obtain ⟨e2, a2, w2, hq2, hr2⟩ := ih (m a1 w1) (hn ▸ hlt) a1 w1 rfl hI1
        exact ⟨e2, a2, w2, hq2, .of_steps (Steps.trans hr (.one step_inLoop)) hr2⟩
      | _ => exact ⟨_, a1, w1, hq, .pass (x := .inLoop c) rfl (fun _ _ => .inl (by simp)) hr⟩
  obtain ⟨e, a', w', hq, hr⟩ := key _ a w rfl h0
  exact ⟨e, a', w', hq, .of_steps (.one step_loop) hr⟩
theorem NWp.region {id : Nat} (h : NOps P ops Q (List.range ops.size) a w) : NWp P (.region id ops false) Q a w :=
  fun b k cs hb => let ⟨e, a', w', q, r⟩ := h b k cs hb; ⟨e, a', w', q, .of_steps (.one step_region) r⟩

theorem NOps.nil (h : Q .normal a w) : NOps P ops Q [] a w := fun _ _ _ _ => ⟨.normal, a, w, h, .one step_region_end⟩
/-- One operation that yields a value. -/
theorem NOps.val {i : Nat} {rest : List Nat} {o : Oper} {v : Value} {w' : World} (ho : ops[i]? = some o) (hw : Region.wanted o (yielded ops a.tmps) = true) (hr : (execOp a.eval o).run P w = .ok (.value v) w')
    (h : NOps P ops Q rest (a.put o.dst v) w') : NOps P ops Q (i :: rest) a w := by
  intro b k cs hb
  obtain ⟨e, a2, w2, hq, harr⟩ := h b k cs hb
  have hfin : (b.at a (.inRegion ops (i :: rest) :: k)).finish v = b.at (a.put o.dst v) (.inRegion ops rest :: k) := by rw [Frame.finish_at, ho]; rfl
  refine ⟨e, a2, w2, hq, .of_steps (.one (step_lone_go ?_)) harr⟩
  rw [stepG_op ho hw, ← hfin]; simp [stepG.apply, hr]
theorem NOps.val0 {i : Nat} {rest : List Nat} {o : Oper} {v : Value} (ho : ops[i]? = some o) (hw : Region.wanted o (yielded ops a.tmps) = true) (hr : (execOp a.eval o).run P w = .ok (.value v) w)
    (h : NOps P ops Q rest (a.put o.dst v) w) : NOps P ops Q (i :: rest) a w := .val ho hw hr h
/-- A step of the machine's own. -/
theorem NOps.comm {i : Nat} {rest : List Nat} {o : Oper} {v : Value} {w' : World} (ho : ops[i]? = some o)
    (hs : ∀ (b : Frame) (k : List Item) (cs : List Frame), b.kind = .normal → step P (solo (G (b.at a (.inRegion ops (i :: rest) :: k)) cs) w) = .next (solo (G ((b.at a (.inRegion ops (i :: rest) :: k)).finish v) cs) w'))
    (h : NOps P ops Q rest (a.put o.dst v) w') : NOps P ops Q (i :: rest) a w := by
  intro b k cs hb
  obtain ⟨e, a2, w2, hq, harr⟩ := h b k cs hb
  have hfin : (b.at a (.inRegion ops (i :: rest) :: k)).finish v = b.at (a.put o.dst v) (.inRegion ops rest :: k) := by rw [Frame.finish_at, ho]; rfl
  exact ⟨e, a2, w2, hq, .of_steps (.one (by rw [← hfin]; exact hs b k cs hb)) harr⟩

variable {i c cap s r : Nat} {rest : List Nat} {o : Oper} {buf : Array Value} {z v : Value} {tm : Bool}
/-- A send into a buffer with room. -/
theorem NOps.send (ho : ops[i]? = some o) (hw : Region.wanted o (yielded ops a.tmps) = true) (hr : (execOp a.eval o).run P w = .ok (.comm #[scase c v z] true .send) w)
    (hc : w.heap[c]? = some (.chan cap buf false s r tm)) (hroom : buf.size < cap) (h : NOps P ops Q rest (a.put o.dst undef) (w.setChan c cap (buf.push v) false (s + 1) r tm)) : NOps P ops Q (i :: rest) a w :=
  .comm ho (fun b k cs hb => step_lone_send_room (stepG_comm ho hw (by rw [hb]; decide) hr) hc hroom) h
/-- A select of one receive, ready. -/
theorem NOps.pick (ho : ops[i]? = some o) (hw : Region.wanted o (yielded ops a.tmps) = true) (hr : (execOp a.eval o).run P w = .ok (.comm #[rcase c z] false .select) w)
    (hc : w.heap[c]? = some (.chan cap buf false s r tm)) (hsome : 0 < buf.size) (h : NOps P ops Q rest (a.put o.dst (.tuple #[goInt 0, .bool true, buf.getD 0 undef])) (w.setChan c cap (buf.extract 1 buf.size) false s (r + 1) tm)) : NOps P ops Q (i :: rest) a w :=
  .comm ho (fun b k cs hb => step_lone_select_recv_buf (stepG_comm ho hw (by rw [hb]; decide) hr) hc hsome) h
/-- A select of one receive with a default, nothing ready. -/
theorem NOps.none (ho : ops[i]? = some o) (hw : Region.wanted o (yielded ops a.tmps) = true) (hr : (execOp a.eval o).run P w = .ok (.comm #[rcase c z] false .select) w)
    (hc : w.heap[c]? = some (.chan cap #[] false s r tm)) (h : NOps P ops Q rest (a.put o.dst (.tuple #[goInt (-1), .bool false, z])) w) : NOps P ops Q (i :: rest) a w :=
  .comm ho (fun b k cs hb => step_lone_select_default (stepG_comm ho hw (by rw [hb]; decide) hr) hc) h

theorem calls_of_nwp {f : FuncId} {fn : Func} {c : Code} {args : Array Value} {R : Ending → World → Prop} (hf : P.funcs[f]? = some fn) (hb : fn.body = some c)
    (h : NWp P c (bodyPost P fn R) { tmps := args ++ Array.replicate (fn.ntmps - args.size) undef, defers := [] } w) : Calls P f args w R := by
  intro cs
  let b : Frame := { (default : Frame) with fn := f, kind := .normal }
  have henter : Frame.enter P f args .normal = b.at { tmps := args ++ Array.replicate (fn.ntmps - args.size) undef, defers := [] } [.code c] := by
    simp [Frame.enter, Frame.at, hf, hb, b]
  obtain ⟨e, a', w', hq, harr⟩ := h b [] cs rfl
  rw [← henter] at harr
  cases e with
  | normal => obtain ⟨hd, v, hr, hR⟩ := hq; exact ⟨.returned v, w', _, hR, Steps.trans harr (.one step_end), rfl, rfl, hd, rfl, fn, hf, hr⟩
  | ret => obtain ⟨hd, v, hr, hR⟩ := hq; obtain ⟨todo, hs⟩ := harr; exact ⟨.returned v, w', _, hR, hs, rfl, rfl, hd, rfl, fn, hf, hr⟩
  | panic chain => obtain ⟨hd, hR⟩ := hq; obtain ⟨todo, hs⟩ := harr; exact ⟨.panicked chain, w', _, hR, hs, rfl, rfl, hd, fn, hf⟩
  | exit id => exact hq.elim
  | goto l => exact hq.elim
  | outgrown => exact ⟨.outgrown, w', b, hq, harr.resolve_left (by simp [b]), rfl, trivial⟩
end
end Go.Proofs.Ytijkhfgjkgaekaa
