/- The task's contracts over plain state: PT tells a task's blocks by numbers and a list of subtasks. -/
import Derived.Test.YtkmgkggkdmlkeaaSb10
import Derived.Test.YtkmgkggkdmlkeaaLr
import Derived.Test.YtkmgkggkdmlkeaaWv
namespace Go.Proofs.Ytkmgkggkdmlkeaa
open Go.RowKit
set_option linter.unusedVariables false
set_option linter.unusedSimpArgs false

/-- The task at t, its stepper at s; all its blocks are in F. -/
def PT (w : World) (t s : Nat) (F : Nat → Prop) (base : Nat) (E P : Int) (early cut : Bool) (off i : Int) (L : List Sb) (x : Sb) (done : Int) : Prop :=
  ∃ p cap, TC w t E P early cut s (.slice p L.length cap) x.i x.r x.d x.b x.g done ∧ Sn w s E P off i ∧ RowAt w base 5 (.slice p L.length cap) L.length (flat L) ∧ t ≠ s ∧
    (∀ g, (Value.slice p L.length cap).ownBlock = some g → g ≠ t ∧ g ≠ s ∧ F g) ∧ F t ∧ F s ∧ (∀ k, F k → base ≤ k ∧ k < w.heap.size)

theorem Keeps.toOnlyNot {F : Nat → Prop} {w w' : World} (h : Keeps F w w') : ∀ {g : Nat}, g < w.heap.size → ¬ F g → w'.heap[g]? = w.heap[g]? := fun h1 h2 => h.block _ h1 h2
theorem Keeps.mono {F G : Nat → Prop} {w w' : World} (h : Keeps F w w') (hs : ∀ k, F k → G k) : Keeps G w w' := ⟨h.os, h.tape, h.output, h.size, fun k hk hn => h.block k hk (fun hf => hn (hs k hf))⟩
theorem Keeps.of_below {F : Nat → Prop} {w w' : World} (h : Below w.heap.size w w') : Keeps F w w' := ⟨h.os, h.tape, h.output, h.size, fun k hk _ => h.block k hk⟩
theorem Keeps.of_only {F : Nat → Prop} {b : Nat} {w w' : World} (h : Only b w w') (hb : F b) : Keeps F w w' := ⟨h.os, h.tape, h.output, h.size, fun k hk hn => h.block k hk (fun e => hn (e ▸ hb))⟩
theorem Keeps.trans' {F G : Nat → Prop} {a w w' : World} (h : Keeps F a w) (k : Keeps G w w') (hg : ∀ k, G k → F k ∨ a.heap.size ≤ k) : Keeps F a w' :=
  ⟨k.os.trans h.os, k.tape.trans h.tape, k.output.trans h.output, Nat.le_trans h.size k.size, fun j hj hn => (k.block j (Nat.lt_of_lt_of_le hj h.size) (fun hg' => by rcases hg j hg' with h1 | h1; exact hn h1; omega)).trans (h.block j hj hn)⟩
/-- What nobody of F is turned by stays, seen as Only of some block that is nowhere. -/
theorem tc_block {w w' : World} {t : Nat} {E P : Int} {early cut : Bool} {s : Nat} {v : Value} {r0 r1 r2 r3 r4 done : Int} (h : TC w t E P early cut s v r0 r1 r2 r3 r4 done) (hs : w.heap.size ≤ w'.heap.size) (e : w'.heap[t]? = w.heap[t]?) : TC w' t E P early cut s v r0 r1 r2 r3 r4 done := by
  obtain ⟨h0, h1, h2, h3, h4, h5, h6, h7, h8, h9, h10, h11, hf, hz⟩ := h
  have hk : ∀ o, w'.cell? ⟨t, o, none⟩ = w.cell? ⟨t, o, none⟩ := fun o => World.cell?_of_block (w := w) (a := ⟨t, o, none⟩) e
  exact ⟨(hk _).trans h0, (hk _).trans h1, (hk _).trans h2, (hk _).trans h3, (hk _).trans h4, (hk _).trans h5, (hk _).trans h6, (hk _).trans h7, (hk _).trans h8, (hk _).trans h9, (hk _).trans h10, (hk _).trans h11,
    fun o => (World.frozen?_of_block (w := w) (a := ⟨t, o, none⟩) e).trans (hf o), Nat.lt_of_lt_of_le hz hs⟩
theorem sn_block {w w' : World} {b : Nat} {E P off n : Int} (h : Sn w b E P off n) (hs : w.heap.size ≤ w'.heap.size) (e : w'.heap[b]? = w.heap[b]?) : Sn w' b E P off n := by
  have hk : ∀ o, w'.cell? ⟨b, o, none⟩ = w.cell? ⟨b, o, none⟩ := fun o => World.cell?_of_block (w := w) (a := ⟨b, o, none⟩) e
  have hf : ∀ o, w'.frozen? ⟨b, o, none⟩ = w.frozen? ⟨b, o, none⟩ := fun o => World.frozen?_of_block (w := w) (a := ⟨b, o, none⟩) e
  have hz := st_size h
  unfold Sn St at h ⊢
  simp only [hk, hf]
  obtain ⟨h1, h2, h3, h4, h5, h6, h7, h8, h9, h10, h11, h12, h13, h14, h15, h16, h17, h18, h19, h20, h21⟩ := h
  exact ⟨h1, h2, h3, h4, h5, h6, h7, h8, h9, h10, h11, h12, h13, h14, h15, h16, h17, h18, h19, h20, by omega⟩
section
variable {w w' : World} {t s : Nat} {F G : Nat → Prop} {base : Nat} {E P : Int} {early cut : Bool} {off i : Int} {L : List Sb} {x : Sb} {done : Int}
theorem PT.keep (h : PT w t s F base E P early cut off i L x done) (k : Keeps G w w') (hd : ∀ k, F k → ¬ G k) : PT w' t s F base E P early cut off i L x done := by
  obtain ⟨p, cap, hT, hS, hR, hts, hp, ft, fs, hF⟩ := h
  have kb : ∀ g, F g → w'.heap[g]? = w.heap[g]? := fun g hg => k.block g (hF g hg).2 (hd g hg)
  exact ⟨p, cap, tc_block hT k.size (kb t ft), sn_block hS k.size (kb s fs), hR.block k.size (fun g hg => kb g (hp g hg).2.2), hts, hp, ft, fs, fun j hj => ⟨(hF j hj).1, Nat.lt_of_lt_of_le (hF j hj).2 k.size⟩⟩
theorem PT.keepb (h : PT w t s F base E P early cut off i L x done) (k : Below w.heap.size w w') : PT w' t s F base E P early cut off i L x done :=
  h.keep (G := fun _ => False) (Keeps.of_below k) (fun _ _ h => h)
theorem PT.bd (h : PT w t s F base E P early cut off i L x done) : ∀ k, F k → base ≤ k ∧ k < w.heap.size := by
  obtain ⟨p, cap, hT, hS, hR, hts, hp, ft, fs, hF⟩ := h; exact hF
theorem PT.tlt (h : PT w t s F base E P early cut off i L x done) : t < w.heap.size := by
  obtain ⟨p, cap, hT, _⟩ := h; exact tc_size hT
end
/-- The footprint behind a step: as before, and new blocks. -/
def Grow (F : Nat → Prop) (w w' : World) : Nat → Prop := fun k => F k ∨ (w.heap.size ≤ k ∧ k < w'.heap.size)
theorem grow_disj {F G : Nat → Prop} {w w' : World} (hd : ∀ k, F k → ¬ G k) (hG : ∀ k, G k → k < w.heap.size) : ∀ k, Grow F w w' k → ¬ G k := fun k h hg => by
  rcases h with h | h
  · exact hd k h hg
  · have := hG k hg; omega
section
variable {w : World} {t s : Nat} {F : Nat → Prop} {base : Nat} {E P : Int} {early cut : Bool} {off i : Int} {L : List Sb} {x : Sb} {done : Int}
theorem waits_pt (h : PT w t s F base E P early cut off i L x done) : Calls Try.prog 13 #[.pointer (some ⟨t, 0, none⟩)] w fun e w' => e = .returned (.int .i64 L.length) ∧ Below w.heap.size w w' := by
  obtain ⟨p, cap, hT, _⟩ := h
  exact waits_any t p L.length cap w hT.2.2.2.2.2.1
theorem done_pt (h : PT w t s F base E P early cut off i L x done) : Calls Try.prog 17 #[.pointer (some ⟨t, 0, none⟩)] w fun e w' => e = .returned (.int .i64 done) ∧ Below w.heap.size w w' := by
  obtain ⟨p, cap, hT, _⟩ := h
  exact done_any t done w hT.2.2.2.2.2.2.2.2.2.2.2.1
theorem weight_pt (h : PT w t s F base E P early cut off i L x done) : Calls Try.prog 31 #[.pointer (some ⟨t, 0, none⟩)] w fun e w' => e = .returned (.agg #[.int .i64 E, .int .i64 P]) ∧ Below w.heap.size w w' := by
  obtain ⟨p, cap, hT, _⟩ := h
  exact weight_any t E P w hT.1 hT.2.1 (tc_size hT)
/-- The first that waits, and whether there is one. -/
def headS : List Sb → Sb
  | [] => Sb.zero
  | x :: _ => x
def someS : List Sb → Bool
  | [] => false
  | _ :: _ => true
theorem head_pt (h : PT w t s F base E P early cut off i L x done) : Calls Try.prog 29 #[.pointer (some ⟨t, 0, none⟩)] w fun e w' => e = .returned (.tuple #[(headS L).agg, .bool (someS L)]) ∧ Below w.heap.size w w' := by
  obtain ⟨p, cap, hT, hS, hR, hts, hp, ft, fs, hF⟩ := h
  have tz := tc_size hT
  have c5 := hT.2.2.2.2.2.1
  cases L with
  | nil => exact head_empty t p cap w c5 tz
  | cons y l =>
    obtain ⟨g, o, rfl, gb, gs, hcap, hcl, hsp⟩ := hR.some (Nat.succ_pos _)
    have e : ∀ r, r < 5 → w.cell? ⟨g, o + r, none⟩ = y.vals[r]? := fun r hr => by
      rw [hcl r (by simp [List.length]; omega), flat, List.getElem?_append_left (by simp [Sb.vals]; omega)]
    exact head_some t g o (l.length + 1) cap y.i y.r y.d y.b y.g w c5 tz (by omega) (e 0 (by omega)) (e 1 (by omega)) (e 2 (by omega)) (e 3 (by omega)) (e 4 (by omega)) gs
theorem run_pt_none (h : PT w t s F base E P early cut off i [] x done) : Calls Try.prog 14 #[.pointer (some ⟨t, 0, none⟩)] w fun e w' => e = .returned (.tuple #[Sb.zero.agg, .bool false]) ∧ Below w.heap.size w w' := by
  obtain ⟨p, cap, hT, hS, hR, hts, hp, ft, fs, hF⟩ := h
  exact run_empty t p cap w hT.2.2.2.2.2.1 (tc_size hT)
theorem run_pt_some (y : Sb) (l : List Sb) (h : PT w t s F base E P early cut off i (y :: l) x done) (hl : l.length + 1 ≤ 64) (d0 : 0 ≤ done) (d1 : done ≤ 1000000000) :
    Calls Try.prog 14 #[.pointer (some ⟨t, 0, none⟩)] w fun e w' => e = .returned (.tuple #[y.agg, .bool true]) ∧ PT w' t s F base E P early cut off i l y (done + 1) ∧ Keeps F w w' := by
  obtain ⟨p, cap, hT, hS, hR, hts, hp, ft, fs, hF⟩ := h
  refine (run_row t cap (l.length + 1) s base p E P early cut x.i x.r x.d x.b x.g done y.i y.r y.d y.b y.g (flat l) w hT hR (by omega) hl (fun g hg => (hp g hg).1) d0 d1).mono ?_
  rintro e w1 ⟨rfl, ⟨q, c, hT1, hR1, hq⟩, ho⟩
  exact ⟨rfl, ⟨q, c, hT1, hS.keep ho (Ne.symm hts), hR1, hts, fun g hg => hp g (hq g hg), ft, fs, fun k hk => ⟨(hF k hk).1, Nat.lt_of_lt_of_le (hF k hk).2 ho.size⟩⟩, Keeps.of_only ho ft⟩
theorem last_pt_some (y : Sb) (hy : L[L.length - 1]? = some y) (h : PT w t s F base E P early cut off i L x done) (hl : L.length ≤ 64) :
    Calls Try.prog 19 #[.pointer (some ⟨t, 0, none⟩)] w fun e w' => e = .returned (.tuple #[y.agg, .bool true]) ∧ Below w.heap.size w w' := by
  obtain ⟨p, cap, hT, hS, hR, hts, hp, ft, fs, hF⟩ := h
  have hpos : 0 < L.length := by have := (List.getElem?_eq_some_iff.1 hy).1; omega
  obtain ⟨n, hn⟩ : ∃ n, L.length = n + 1 := ⟨L.length - 1, by omega⟩
  have c5 := hT.2.2.2.2.2.1
  rw [hn] at c5 hR
  exact last_row t n cap base p y.i y.r y.d y.b y.g (flat L) w c5 (tc_size hT) (by omega) hR (fun r hr => by rw [flat_get L n r y (by rw [← hy, hn]; rfl) hr]; rfl)
theorem arrive_pt_ok (now : Int) (n : Nat) (h : PT w t s F base E P early false off i L x done) (e1 : 1 ≤ E) (e2 : E ≤ P) (e3 : P ≤ 1048576) (i1 : 1 ≤ i) (i2 : i ≤ 1000000000) (o0 : 0 ≤ off) (o1 : off ≤ 1152921504606846976) (a0 : 0 ≤ now) (a1 : now ≤ 1099511627776) (n1 : 1 ≤ n) (hn : L.length + n ≤ 64) (hb : base ≤ w.heap.size) :
    Calls Try.prog 12 #[.pointer (some ⟨t, 0, none⟩), .int .i64 now, .int .i64 n] w fun e w' => e = .returned (.int .i64 0) ∧ PT w' t s (Grow F w w') base E P early false (aoff E P now off i n) (i + n) (L ++ sbs E P now off i n) x done ∧ Keeps F w w' := by
  obtain ⟨p, cap, hT, hS, hR, hts, hp, ft, fs, hF⟩ := h
  refine (arrive_row2 t s E P off i now early p L.length cap (flat L) x.i x.r x.d x.b x.g done n base w hT hS hR hts (fun g hg => ⟨(hp g hg).1, (hp g hg).2.1⟩) e1 e2 e3 i1 i2 o0 o1 a0 a1 n1 hn hb).mono ?_
  rintro e w1 ⟨rfl, ⟨p', cap', hT1, hS1, hR1, hp1⟩, hk⟩
  have hK : Keeps F w w1 := hk.mono (fun k hk => by
    rcases hk with rfl | rfl | hk
    · exact ft
    · exact fs
    · exact (hp k hk).2.2)
  have hlen : (L ++ sbs E P now off i n).length = L.length + n := by rw [List.length_append, sbs_len]
  rw [asub_flat, ← flat_app] at hR1
  refine ⟨rfl, ⟨p', cap', ?_, hS1, ?_, hts, ?_, .inl ft, .inl fs, ?_⟩, hK⟩
  · rw [hlen]; exact hT1
  · rw [hlen]; exact hR1
  · intro g hg
    rw [hlen] at hg
    refine ⟨(hp1 g hg).1, (hp1 g hg).2.1, ?_⟩
    have hg2 := (hR1.lt g hg).2
    by_cases hlt : g < w.heap.size
    · exact .inl (hp g ((hp1 g hg).2.2 hlt)).2.2
    · exact .inr ⟨by omega, hg2⟩
  · intro k hk
    rcases hk with hk | hk
    · exact ⟨(hF k hk).1, Nat.lt_of_lt_of_le (hF k hk).2 hK.size⟩
    · exact ⟨by omega, hk.2⟩
end
end Go.Proofs.Ytkmgkggkdmlkeaa
