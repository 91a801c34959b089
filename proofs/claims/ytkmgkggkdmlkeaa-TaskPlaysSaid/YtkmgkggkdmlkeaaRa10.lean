/- The document's task: its block, contracts of New, Ready, Run, Last. -/
import Derived.Test.YtkmgkggkdmlkeaaPt10
import Derived.Test.YtkmgkggkdmlkeaaRfo
import Derived.StillTailTactics
import Derived.Deep.DeepCutAuto
import Derived.Deep.RegionWith
import Derived.BigQuiet
namespace Go.Proofs.Ytkmgkggkdmlkeaa
open Go.RowKit
set_option linter.unusedVariables false
set_option linter.unusedSimpArgs false

/-- The document's task's block: a weight, early, cut, the offset, how many came, those that wait, the one that ran last, how many did. -/
def RC (w : World) (t : Nat) (E P : Int) (early cut : Bool) (off came : Int) (v : Value) (r0 r1 r2 r3 r4 done : Int) : Prop :=
  w.cell? ⟨t, 0, none⟩ = some (.int .i64 E) ∧ w.cell? ⟨t, 1, none⟩ = some (.int .i64 P) ∧ w.cell? ⟨t, 2, none⟩ = some (.bool early) ∧ w.cell? ⟨t, 3, none⟩ = some (.bool cut) ∧ w.cell? ⟨t, 4, none⟩ = some (.int .i64 off) ∧ w.cell? ⟨t, 5, none⟩ = some (.int .i64 came) ∧ w.cell? ⟨t, 6, none⟩ = some v ∧
  w.cell? ⟨t, 7, none⟩ = some (.int .i64 r0) ∧ w.cell? ⟨t, 8, none⟩ = some (.int .i64 r1) ∧ w.cell? ⟨t, 9, none⟩ = some (.int .i64 r2) ∧ w.cell? ⟨t, 10, none⟩ = some (.int .i64 r3) ∧ w.cell? ⟨t, 11, none⟩ = some (.int .i64 r4) ∧ w.cell? ⟨t, 12, none⟩ = some (.int .i64 done) ∧
  (∀ o, w.frozen? ⟨t, o, none⟩ = false) ∧ t < w.heap.size
theorem rc_block {w w' : World} {t : Nat} {E P : Int} {early cut : Bool} {off came : Int} {v : Value} {r0 r1 r2 r3 r4 done : Int} (h : RC w t E P early cut off came v r0 r1 r2 r3 r4 done) (hs : w.heap.size ≤ w'.heap.size) (e : w'.heap[t]? = w.heap[t]?) : RC w' t E P early cut off came v r0 r1 r2 r3 r4 done := by
  obtain ⟨h0, h1, h2, h3, h4, h5, h6, h7, h8, h9, h10, h11, h12, hf, hz⟩ := h
  have hk : ∀ o, w'.cell? ⟨t, o, none⟩ = w.cell? ⟨t, o, none⟩ := fun o => World.cell?_of_block (w := w) (a := ⟨t, o, none⟩) e
  exact ⟨(hk _).trans h0, (hk _).trans h1, (hk _).trans h2, (hk _).trans h3, (hk _).trans h4, (hk _).trans h5, (hk _).trans h6, (hk _).trans h7, (hk _).trans h8, (hk _).trans h9, (hk _).trans h10, (hk _).trans h11, (hk _).trans h12,
    fun o => (World.frozen?_of_block (w := w) (a := ⟨t, o, none⟩) e).trans (hf o), Nat.lt_of_lt_of_le hz hs⟩
theorem rc_size {w : World} {t : Nat} {E P : Int} {early cut : Bool} {off came : Int} {v : Value} {r0 r1 r2 r3 r4 done : Int} (h : RC w t E P early cut off came v r0 r1 r2 r3 r4 done) : t < w.heap.size := h.2.2.2.2.2.2.2.2.2.2.2.2.2.2
theorem RC.keep {w w' : World} {t c : Nat} {E P : Int} {early cut : Bool} {off came : Int} {v : Value} {r0 r1 r2 r3 r4 done : Int} (h : RC w t E P early cut off came v r0 r1 r2 r3 r4 done) (k : Only c w w') (hc : t ≠ c) : RC w' t E P early cut off came v r0 r1 r2 r3 r4 done :=
  rc_block h k.size (k.block t (rc_size h) hc)
theorem RC.keepb {w w' : World} {t : Nat} {E P : Int} {early cut : Bool} {off came : Int} {v : Value} {r0 r1 r2 r3 r4 done : Int} (h : RC w t E P early cut off came v r0 r1 r2 r3 r4 done) (k : Below w.heap.size w w') : RC w' t E P early cut off came v r0 r1 r2 r3 r4 done :=
  rc_block h k.size (k.block t (rc_size h))
/-- The document's task at r, all its blocks in G. -/
def PR (w : World) (r : Nat) (G : Nat → Prop) (base : Nat) (E P : Int) (early cut : Bool) (off came : Int) (L : List Sb) (x : Sb) (done : Int) : Prop :=
  ∃ p cap, RC w r E P early cut off came (.slice p L.length cap) x.i x.r x.d x.b x.g done ∧ RowAt w base 5 (.slice p L.length cap) L.length (flat L) ∧
    (∀ g, (Value.slice p L.length cap).ownBlock = some g → g ≠ r ∧ G g) ∧ G r ∧ (∀ k, G k → base ≤ k ∧ k < w.heap.size)
section
variable {w w' : World} {r : Nat} {F G : Nat → Prop} {base : Nat} {E P : Int} {early cut : Bool} {off came : Int} {L : List Sb} {x : Sb} {done : Int}
theorem PR.keep (h : PR w r F base E P early cut off came L x done) (k : Keeps G w w') (hd : ∀ k, F k → ¬ G k) : PR w' r F base E P early cut off came L x done := by
  obtain ⟨p, cap, hT, hR, hp, ft, hF⟩ := h
  have kb : ∀ g, F g → w'.heap[g]? = w.heap[g]? := fun g hg => k.block g (hF g hg).2 (hd g hg)
  exact ⟨p, cap, rc_block hT k.size (kb r ft), hR.block k.size (fun g hg => kb g (hp g hg).2), hp, ft, fun j hj => ⟨(hF j hj).1, Nat.lt_of_lt_of_le (hF j hj).2 k.size⟩⟩
theorem PR.keepb (h : PR w r F base E P early cut off came L x done) (k : Below w.heap.size w w') : PR w' r F base E P early cut off came L x done :=
  h.keep (G := fun _ => False) (Keeps.of_below k) (fun _ _ h => h)
theorem PR.bd (h : PR w r F base E P early cut off came L x done) : ∀ k, F k → base ≤ k ∧ k < w.heap.size := by
  obtain ⟨p, cap, hT, hR, hp, ft, hF⟩ := h; exact hF
end

set_option maxHeartbeats 800000 in
theorem rnew_any (E P a : Int) (early : Bool) (w : World) : Calls Try.prog 22 #[.agg #[.int .i64 E, .int .i64 P], .int .i64 a, .bool early] w fun e w' => e = .returned (.pointer (some ⟨w.heap.size + 1, 0, none⟩)) ∧ RC w' (w.heap.size + 1) E P early false a 0 (.slice none 0 0) 0 0 0 0 0 0 ∧ Below w.heap.size w w' := by
  go_enter Try.func22, Try.ntmps22
  go_wp2
  go_ret
  refine ⟨rfl, ⟨?_, ?_, ?_, ?_, ?_, ?_, ?_, ?_, ?_, ?_, ?_, ?_, ?_, ?_, ?_⟩, (by repeat' (first | (with_reducible exact Below.refl _ _) | (with_reducible refine Below.alloc ?_ ?_ _) | (with_reducible refine below_drewN ?_ _) | (with_reducible refine Below.drew ?_) | (with_reducible refine Below.setCell ?_ ?_ _) | omega | (simp; omega) | (simp; done)))⟩
  iterate 13 (focus (go_simp; done))
  · intro o; go_simp
  · simp

/-- What is ready. -/
def readyS (early : Bool) (now : Int) : List Sb → Sb
  | [] => Sb.zero
  | x :: _ => if early = false ∧ now < x.r then Sb.zero else x
def readyB (early : Bool) (now : Int) : List Sb → Bool
  | [] => false
  | x :: _ => if early = false ∧ now < x.r then false else true

set_option maxHeartbeats 1600000 in
theorem rready_none (r : Nat) (now : Int) (p : Option Addr) (cap : Nat) (w : World) (h6 : w.cell? ⟨r, 6, none⟩ = some (.slice p 0 cap)) (hr : r < w.heap.size) :
    Calls Try.prog 25 #[.pointer (some ⟨r, 0, none⟩), .int .i64 now] w fun e w' => e = .returned (.tuple #[Sb.zero.agg, .bool false]) ∧ Below w.heap.size w w' := by
  go_enter Try.func25, Try.ntmps25
  go_wp2
  exact bodyPost_ret (v := .tuple #[.agg #[.int .i64 0, .int .i64 0, .int .i64 0, .int .i64 0, .int .i64 0], .bool false]) (by simp only [results, Try.results25]; go_simp) rfl ⟨rfl, (by repeat' (first | (with_reducible exact Below.refl _ _) | (with_reducible refine Below.alloc ?_ ?_ _) | (with_reducible refine below_drewN ?_ _) | (with_reducible refine Below.drew ?_) | (with_reducible refine Below.setCell ?_ ?_ _) | omega | (simp; omega) | (simp; done)))⟩
set_option maxHeartbeats 1600000 in
theorem rready_late (r g o len cap : Nat) (now x1 : Int) (w : World) (h2 : w.cell? ⟨r, 2, none⟩ = some (.bool false)) (h6 : w.cell? ⟨r, 6, none⟩ = some (.slice (some ⟨g, o, none⟩) (len + 1) cap)) (hr : r < w.heap.size) (hl : len ≤ 64)
    (c1 : w.cell? ⟨g, o + 1, none⟩ = some (.int .i64 x1)) (hg : g < w.heap.size) (hx : now < x1) :
    Calls Try.prog 25 #[.pointer (some ⟨r, 0, none⟩), .int .i64 now] w fun e w' => e = .returned (.tuple #[Sb.zero.agg, .bool false]) ∧ Below w.heap.size w w' := by
  have n1 : (((len + 1 : Nat) : Int) == 0) = false := by rw [beq_eq_false_iff_ne]; omega
  go_enter Try.func25, Try.ntmps25
  go_wp2
  exact bodyPost_ret (v := .tuple #[.agg #[.int .i64 0, .int .i64 0, .int .i64 0, .int .i64 0, .int .i64 0], .bool false]) (by simp only [results, Try.results25]; go_simp) rfl ⟨rfl, (by repeat' (first | (with_reducible exact Below.refl _ _) | (with_reducible refine Below.alloc ?_ ?_ _) | (with_reducible refine below_drewN ?_ _) | (with_reducible refine Below.drew ?_) | (with_reducible refine Below.setCell ?_ ?_ _) | omega | (simp; omega) | (simp; done)))⟩
set_option maxHeartbeats 1600000 in
theorem rready_early (r g o len cap : Nat) (now : Int) (x0 x1 x2 x3 x4 : Int) (w : World) (h2 : w.cell? ⟨r, 2, none⟩ = some (.bool true)) (h6 : w.cell? ⟨r, 6, none⟩ = some (.slice (some ⟨g, o, none⟩) (len + 1) cap)) (hr : r < w.heap.size) (hl : len ≤ 64)
    (c0 : w.cell? ⟨g, o, none⟩ = some (.int .i64 x0)) (c1 : w.cell? ⟨g, o + 1, none⟩ = some (.int .i64 x1)) (c2 : w.cell? ⟨g, o + 2, none⟩ = some (.int .i64 x2)) (c3 : w.cell? ⟨g, o + 3, none⟩ = some (.int .i64 x3)) (c4 : w.cell? ⟨g, o + 4, none⟩ = some (.int .i64 x4)) (hg : g < w.heap.size) :
    Calls Try.prog 25 #[.pointer (some ⟨r, 0, none⟩), .int .i64 now] w fun e w' => e = .returned (.tuple #[.agg #[.int .i64 x0, .int .i64 x1, .int .i64 x2, .int .i64 x3, .int .i64 x4], .bool true]) ∧ Below w.heap.size w w' := by
  have n1 : (((len + 1 : Nat) : Int) == 0) = false := by rw [beq_eq_false_iff_ne]; omega
  go_enter Try.func25, Try.ntmps25
  go_wp2
  exact bodyPost_ret (v := .tuple #[.agg #[.int .i64 x0, .int .i64 x1, .int .i64 x2, .int .i64 x3, .int .i64 x4], .bool true]) (by simp only [results, Try.results25]; go_simp) rfl ⟨rfl, (by repeat' (first | (with_reducible exact Below.refl _ _) | (with_reducible refine Below.alloc ?_ ?_ _) | (with_reducible refine below_drewN ?_ _) | (with_reducible refine Below.drew ?_) | (with_reducible refine Below.setCell ?_ ?_ _) | omega | (simp; omega) | (simp; done)))⟩
set_option maxHeartbeats 1600000 in
theorem rready_now (r g o len cap : Nat) (now : Int) (x0 x1 x2 x3 x4 : Int) (w : World) (h2 : w.cell? ⟨r, 2, none⟩ = some (.bool false)) (h6 : w.cell? ⟨r, 6, none⟩ = some (.slice (some ⟨g, o, none⟩) (len + 1) cap)) (hr : r < w.heap.size) (hl : len ≤ 64)
    (c0 : w.cell? ⟨g, o, none⟩ = some (.int .i64 x0)) (c1 : w.cell? ⟨g, o + 1, none⟩ = some (.int .i64 x1)) (c2 : w.cell? ⟨g, o + 2, none⟩ = some (.int .i64 x2)) (c3 : w.cell? ⟨g, o + 3, none⟩ = some (.int .i64 x3)) (c4 : w.cell? ⟨g, o + 4, none⟩ = some (.int .i64 x4)) (hg : g < w.heap.size) (hx : ¬ now < x1) :
    Calls Try.prog 25 #[.pointer (some ⟨r, 0, none⟩), .int .i64 now] w fun e w' => e = .returned (.tuple #[.agg #[.int .i64 x0, .int .i64 x1, .int .i64 x2, .int .i64 x3, .int .i64 x4], .bool true]) ∧ Below w.heap.size w w' := by
  have n1 : (((len + 1 : Nat) : Int) == 0) = false := by rw [beq_eq_false_iff_ne]; omega
  go_enter Try.func25, Try.ntmps25
  go_wp2
  exact bodyPost_ret (v := .tuple #[.agg #[.int .i64 x0, .int .i64 x1, .int .i64 x2, .int .i64 x3, .int .i64 x4], .bool true]) (by simp only [results, Try.results25]; go_simp) rfl ⟨rfl, (by repeat' (first | (with_reducible exact Below.refl _ _) | (with_reducible refine Below.alloc ?_ ?_ _) | (with_reducible refine below_drewN ?_ _) | (with_reducible refine Below.drew ?_) | (with_reducible refine Below.setCell ?_ ?_ _) | omega | (simp; omega) | (simp; done)))⟩

/-- The cells of the first element. -/
theorem row_head {w : World} {base : Nat} {p : Option Addr} {cap : Nat} {y : Sb} {l : List Sb} (hR : RowAt w base 5 (.slice p (y :: l).length cap) (y :: l).length (flat (y :: l))) :
    ∃ g o, p = some ⟨g, o, none⟩ ∧ g < w.heap.size ∧ w.cell? ⟨g, o, none⟩ = some (.int .i64 y.i) ∧ w.cell? ⟨g, o + 1, none⟩ = some (.int .i64 y.r) ∧ w.cell? ⟨g, o + 2, none⟩ = some (.int .i64 y.d) ∧ w.cell? ⟨g, o + 3, none⟩ = some (.int .i64 y.b) ∧ w.cell? ⟨g, o + 4, none⟩ = some (.int .i64 y.g) := by
  obtain ⟨g, o, rfl, gb, gs, hcap, hcl, hsp⟩ := hR.some (Nat.succ_pos _)
  have e : ∀ r, r < 5 → w.cell? ⟨g, o + r, none⟩ = y.vals[r]? := fun r hr => by
    rw [hcl r (by simp [List.length]; omega), flat, List.getElem?_append_left (by simp [Sb.vals]; omega)]
  exact ⟨g, o, rfl, gs, e 0 (by omega), e 1 (by omega), e 2 (by omega), e 3 (by omega), e 4 (by omega)⟩
theorem rready_pr {w : World} {r : Nat} {G : Nat → Prop} {base : Nat} {E P : Int} {early cut : Bool} {off came : Int} {L : List Sb} {x : Sb} {done : Int} (now : Int) (h : PR w r G base E P early cut off came L x done) (hl : L.length ≤ 64) :
    Calls Try.prog 25 #[.pointer (some ⟨r, 0, none⟩), .int .i64 now] w fun e w' => e = .returned (.tuple #[(readyS early now L).agg, .bool (readyB early now L)]) ∧ Below w.heap.size w w' := by
  obtain ⟨p, cap, hT, hR, hp, ft, hF⟩ := h
  have tz := rc_size hT
  have h2 := hT.2.2.1
  have h6 := hT.2.2.2.2.2.2.1
  cases L with
  | nil => exact rready_none r now p cap w h6 tz
  | cons y l =>
    obtain ⟨g, o, rfl, gs, c0, c1, c2, c3, c4⟩ := row_head hR
    rw [List.length_cons] at h6 hl
    cases early with
    | true => exact rready_early r g o l.length cap now y.i y.r y.d y.b y.g w h2 h6 tz (by omega) c0 c1 c2 c3 c4 gs
    | false =>
      by_cases hx : now < y.r
      · refine (rready_late r g o l.length cap now y.r w h2 h6 tz (by omega) c1 gs hx).mono fun e w' h => ⟨?_, h.2⟩
        rw [h.1]; simp [readyS, readyB, hx]
      · refine (rready_now r g o l.length cap now y.i y.r y.d y.b y.g w h2 h6 tz (by omega) c0 c1 c2 c3 c4 gs hx).mono fun e w' h => ⟨?_, h.2⟩
        rw [h.1]; simp [readyS, readyB, hx, Sb.agg]

set_option maxHeartbeats 1600000 in
theorem rrun_none (r : Nat) (p : Option Addr) (cap : Nat) (w : World) (h6 : w.cell? ⟨r, 6, none⟩ = some (.slice p 0 cap)) (hr : r < w.heap.size) :
    Calls Try.prog 23 #[.pointer (some ⟨r, 0, none⟩)] w fun e w' => e = .returned (.tuple #[Sb.zero.agg, .bool false]) ∧ Below w.heap.size w w' := by
  go_enter Try.func23, Try.ntmps23
  go_wp2
  exact bodyPost_ret (v := .tuple #[.agg #[.int .i64 0, .int .i64 0, .int .i64 0, .int .i64 0, .int .i64 0], .bool false]) (by simp only [results, Try.results23]; go_simp) rfl ⟨rfl, (by repeat' (first | (with_reducible exact Below.refl _ _) | (with_reducible refine Below.alloc ?_ ?_ _) | (with_reducible refine below_drewN ?_ _) | (with_reducible refine Below.drew ?_) | (with_reducible refine Below.setCell ?_ ?_ _) | omega | (simp; omega) | (simp; done)))⟩

set_option maxHeartbeats 3200000 in
theorem rrun_more (r g o cap len : Nat) (E P : Int) (early cut : Bool) (off came r0 r1 r2 r3 r4 done : Int) (x0 x1 x2 x3 x4 : Int) (w : World) (hT : RC w r E P early cut off came (.slice (some ⟨g, o, none⟩) len cap) r0 r1 r2 r3 r4 done) (hl : 1 ≤ len) (hl' : len ≤ 64) (hcap : len ≤ cap) (hc2 : 2 ≤ cap) (hgt : g ≠ r) (d0 : 0 ≤ done) (d1 : done ≤ 1000000000)
    (c0 : w.cell? ⟨g, o, none⟩ = some (.int .i64 x0)) (c1 : w.cell? ⟨g, o + 1, none⟩ = some (.int .i64 x1)) (c2 : w.cell? ⟨g, o + 2, none⟩ = some (.int .i64 x2)) (c3 : w.cell? ⟨g, o + 3, none⟩ = some (.int .i64 x3)) (c4 : w.cell? ⟨g, o + 4, none⟩ = some (.int .i64 x4)) (hg : g < w.heap.size) :
    Calls Try.prog 23 #[.pointer (some ⟨r, 0, none⟩)] w fun e w' => e = .returned (.tuple #[.agg #[.int .i64 x0, .int .i64 x1, .int .i64 x2, .int .i64 x3, .int .i64 x4], .bool true]) ∧ RC w' r E P early cut off came (.slice (some ⟨g, o + 5, none⟩) (len - 1) (cap - 1)) x0 x1 x2 x3 x4 (done + 1) ∧ Only r w w' := by
  have tsz := rc_size hT
  have HT := Lib.hid hT
  have h6 := hT.2.2.2.2.2.2.1
  have n1 : ((len : Int) == 0) = false := by rw [beq_eq_false_iff_ne]; omega
  clear hT
  go_enter Try.func23, Try.ntmps23
  go_upto_region 3 with fail
  refine gen_world (F := fun V => RC V r E P early cut off came (.slice (some ⟨g, o, none⟩) len cap) r0 r1 r2 r3 r4 done ∧ V.cell? ⟨w.heap.size, 0, none⟩ = some (.int .i64 (0)) ∧ V.cell? ⟨w.heap.size, 1, none⟩ = some (.int .i64 (0)) ∧ V.cell? ⟨w.heap.size, 2, none⟩ = some (.int .i64 (0)) ∧ V.cell? ⟨w.heap.size, 3, none⟩ = some (.int .i64 (0)) ∧ V.cell? ⟨w.heap.size, 4, none⟩ = some (.int .i64 (0)) ∧ (∀ o, V.frozen? ⟨w.heap.size, o, none⟩ = false) ∧ w.heap.size < V.heap.size ∧ V.cell? ⟨g, o, none⟩ = some (.int .i64 x0) ∧ V.cell? ⟨g, o + 1, none⟩ = some (.int .i64 x1) ∧ V.cell? ⟨g, o + 2, none⟩ = some (.int .i64 x2) ∧ V.cell? ⟨g, o + 3, none⟩ = some (.int .i64 x3) ∧ V.cell? ⟨g, o + 4, none⟩ = some (.int .i64 x4) ∧ Only r w V) ⟨HT.out.keepb (by repeat' (first | (with_reducible exact Below.refl _ _) | (with_reducible refine Below.alloc ?_ ?_ _) | (with_reducible refine below_drewN ?_ _) | (with_reducible refine Below.drew ?_) | (with_reducible refine Below.setCell ?_ ?_ _) | omega | (simp; omega) | (simp; done))), ?_, ?_, ?_, ?_, ?_, ?_, ?_, ?_, ?_, ?_, ?_, ?_, (by repeat' (first | (with_reducible exact Only.refl _ _) | (with_reducible refine Only.alloc ?_ _) | (with_reducible refine only_drewN ?_ _) | (with_reducible refine Only.drew ?_) | (with_reducible refine Only.setCell ?_ ?_ _) | (exact Or.inl rfl) | (right; first | omega | (simp; done) | (simp; omega)) | omega | (simp; omega) | (simp; done)))⟩ ?_
  iterate 5 (focus (go_simp; done))
  · intro o; go_simp
  · simp
  iterate 5 (focus (go_simp; done))
  clear HT c0 c1 c2 c3 c4 h6
  rintro V ⟨hT, l0, l1, l2, l3, l4, lf, ls, c0, c1, c2, c3, c4, vo⟩
  obtain ⟨h0, h1, h2, h3, h4, h5, h6, h7, h8, h9, h10, h11, h12, hf, hs⟩ := hT
  have VO := Lib.hid vo
  clear vo
  go_upto_region 6 with fail
  refine gen_world (F := fun V2 => RC V2 r E P early cut off came (.slice (some ⟨g, o + 5, none⟩) (len - 1) (cap - 1)) x0 x1 x2 x3 x4 (done + 1) ∧ V2.cell? ⟨w.heap.size, 0, none⟩ = some (.int .i64 (0)) ∧ V2.cell? ⟨w.heap.size, 1, none⟩ = some (.int .i64 (0)) ∧ V2.cell? ⟨w.heap.size, 2, none⟩ = some (.int .i64 (0)) ∧ V2.cell? ⟨w.heap.size, 3, none⟩ = some (.int .i64 (0)) ∧ V2.cell? ⟨w.heap.size, 4, none⟩ = some (.int .i64 (0)) ∧ (∀ o, V2.frozen? ⟨w.heap.size, o, none⟩ = false) ∧ w.heap.size < V2.heap.size ∧ Only r w V2) ⟨⟨?_, ?_, ?_, ?_, ?_, ?_, ?_, ?_, ?_, ?_, ?_, ?_, ?_, ?_, ?_⟩, ?_, ?_, ?_, ?_, ?_, ?_, ?_, ?_⟩ ?_
  iterate 13 (focus (go_simp; done))
  · intro o; go_simp
  · simp; omega
  iterate 5 (focus (go_simp; done))
  · intro o; go_simp
  · simp; omega
  · exact Only.trans VO.out (by repeat' (first | (with_reducible exact Only.refl _ _) | (with_reducible refine Only.alloc ?_ _) | (with_reducible refine only_drewN ?_ _) | (with_reducible refine Only.drew ?_) | (with_reducible refine Only.setCell ?_ ?_ _) | (exact Or.inl rfl) | (right; first | omega | (simp; done) | (simp; omega)) | omega | (simp; omega) | (simp; done)))
  clear l0 l1 l2 l3 l4 lf ls h0 h1 h2 h3 h4 h5 h6 h7 h8 h9 h10 h11 h12 hf hs VO c0 c1 c2 c3 c4
  rintro V2 ⟨hT, l0, l1, l2, l3, l4, lf, ls, vo⟩
  have HT2 := Lib.hid hT
  have VO := Lib.hid vo
  have d7 := hT.2.2.2.2.2.2.2.1
  have d8 := hT.2.2.2.2.2.2.2.2.1
  have d9 := hT.2.2.2.2.2.2.2.2.2.1
  have d10 := hT.2.2.2.2.2.2.2.2.2.2.1
  have d11 := hT.2.2.2.2.2.2.2.2.2.2.2.1
  clear hT vo
  go_wp2
  exact bodyPost_ret (v := .tuple #[.agg #[.int .i64 x0, .int .i64 x1, .int .i64 x2, .int .i64 x3, .int .i64 x4], .bool true]) (by simp only [results, Try.results23]; go_simp) rfl ⟨rfl, HT2.out.keep (c := w.heap.size) (by repeat' (first | (with_reducible exact Only.refl _ _) | (with_reducible refine Only.alloc ?_ _) | (with_reducible refine only_drewN ?_ _) | (with_reducible refine Only.drew ?_) | (with_reducible refine Only.setCell ?_ ?_ _) | (exact Or.inl rfl) | (right; first | omega | (simp; done) | (simp; omega)) | omega | (simp; omega) | (simp; done))) (by omega), only_above VO.out (Nat.le_refl _)⟩

set_option maxHeartbeats 3200000 in
theorem rrun_last (r g o : Nat) (E P : Int) (early cut : Bool) (off came r0 r1 r2 r3 r4 done : Int) (x0 x1 x2 x3 x4 : Int) (w : World) (hT : RC w r E P early cut off came (.slice (some ⟨g, o, none⟩) 1 1) r0 r1 r2 r3 r4 done) (hgt : g ≠ r) (d0 : 0 ≤ done) (d1 : done ≤ 1000000000)
    (c0 : w.cell? ⟨g, o, none⟩ = some (.int .i64 x0)) (c1 : w.cell? ⟨g, o + 1, none⟩ = some (.int .i64 x1)) (c2 : w.cell? ⟨g, o + 2, none⟩ = some (.int .i64 x2)) (c3 : w.cell? ⟨g, o + 3, none⟩ = some (.int .i64 x3)) (c4 : w.cell? ⟨g, o + 4, none⟩ = some (.int .i64 x4)) (hg : g < w.heap.size) :
    Calls Try.prog 23 #[.pointer (some ⟨r, 0, none⟩)] w fun e w' => e = .returned (.tuple #[.agg #[.int .i64 x0, .int .i64 x1, .int .i64 x2, .int .i64 x3, .int .i64 x4], .bool true]) ∧ RC w' r E P early cut off came (.slice (some ⟨g, o, none⟩) 0 0) x0 x1 x2 x3 x4 (done + 1) ∧ Only r w w' := by
  have tsz := rc_size hT
  have HT := Lib.hid hT
  have h6 := hT.2.2.2.2.2.2.1
  clear hT
  go_enter Try.func23, Try.ntmps23
  go_upto_region 3 with fail
  refine gen_world (F := fun V => RC V r E P early cut off came (.slice (some ⟨g, o, none⟩) 1 1) r0 r1 r2 r3 r4 done ∧ V.cell? ⟨w.heap.size, 0, none⟩ = some (.int .i64 (0)) ∧ V.cell? ⟨w.heap.size, 1, none⟩ = some (.int .i64 (0)) ∧ V.cell? ⟨w.heap.size, 2, none⟩ = some (.int .i64 (0)) ∧ V.cell? ⟨w.heap.size, 3, none⟩ = some (.int .i64 (0)) ∧ V.cell? ⟨w.heap.size, 4, none⟩ = some (.int .i64 (0)) ∧ (∀ o, V.frozen? ⟨w.heap.size, o, none⟩ = false) ∧ w.heap.size < V.heap.size ∧ V.cell? ⟨g, o, none⟩ = some (.int .i64 x0) ∧ V.cell? ⟨g, o + 1, none⟩ = some (.int .i64 x1) ∧ V.cell? ⟨g, o + 2, none⟩ = some (.int .i64 x2) ∧ V.cell? ⟨g, o + 3, none⟩ = some (.int .i64 x3) ∧ V.cell? ⟨g, o + 4, none⟩ = some (.int .i64 x4) ∧ Only r w V) ⟨HT.out.keepb (by repeat' (first | (with_reducible exact Below.refl _ _) | (with_reducible refine Below.alloc ?_ ?_ _) | (with_reducible refine below_drewN ?_ _) | (with_reducible refine Below.drew ?_) | (with_reducible refine Below.setCell ?_ ?_ _) | omega | (simp; omega) | (simp; done))), ?_, ?_, ?_, ?_, ?_, ?_, ?_, ?_, ?_, ?_, ?_, ?_, (by repeat' (first | (with_reducible exact Only.refl _ _) | (with_reducible refine Only.alloc ?_ _) | (with_reducible refine only_drewN ?_ _) | (with_reducible refine Only.drew ?_) | (with_reducible refine Only.setCell ?_ ?_ _) | (exact Or.inl rfl) | (right; first | omega | (simp; done) | (simp; omega)) | omega | (simp; omega) | (simp; done)))⟩ ?_
  iterate 5 (focus (go_simp; done))
  · intro o; go_simp
  · simp
  iterate 5 (focus (go_simp; done))
  clear HT c0 c1 c2 c3 c4 h6
  rintro V ⟨hT, l0, l1, l2, l3, l4, lf, ls, c0, c1, c2, c3, c4, vo⟩
  obtain ⟨h0, h1, h2, h3, h4, h5, h6, h7, h8, h9, h10, h11, h12, hf, hs⟩ := hT
  have VO := Lib.hid vo
  clear vo
  go_upto_region 6 with fail
  refine gen_world (F := fun V2 => RC V2 r E P early cut off came (.slice (some ⟨g, o, none⟩) 0 0) x0 x1 x2 x3 x4 (done + 1) ∧ V2.cell? ⟨w.heap.size, 0, none⟩ = some (.int .i64 (0)) ∧ V2.cell? ⟨w.heap.size, 1, none⟩ = some (.int .i64 (0)) ∧ V2.cell? ⟨w.heap.size, 2, none⟩ = some (.int .i64 (0)) ∧ V2.cell? ⟨w.heap.size, 3, none⟩ = some (.int .i64 (0)) ∧ V2.cell? ⟨w.heap.size, 4, none⟩ = some (.int .i64 (0)) ∧ (∀ o, V2.frozen? ⟨w.heap.size, o, none⟩ = false) ∧ w.heap.size < V2.heap.size ∧ Only r w V2) ⟨⟨?_, ?_, ?_, ?_, ?_, ?_, ?_, ?_, ?_, ?_, ?_, ?_, ?_, ?_, ?_⟩, ?_, ?_, ?_, ?_, ?_, ?_, ?_, ?_⟩ ?_
  iterate 13 (focus (go_simp; done))
  · intro o; go_simp
  · simp; omega
  iterate 5 (focus (go_simp; done))
  · intro o; go_simp
  · simp; omega
  · exact Only.trans VO.out (by repeat' (first | (with_reducible exact Only.refl _ _) | (with_reducible refine Only.alloc ?_ _) | (with_reducible refine only_drewN ?_ _) | (with_reducible refine Only.drew ?_) | (with_reducible refine Only.setCell ?_ ?_ _) | (exact Or.inl rfl) | (right; first | omega | (simp; done) | (simp; omega)) | omega | (simp; omega) | (simp; done)))
  clear l0 l1 l2 l3 l4 lf ls h0 h1 h2 h3 h4 h5 h6 h7 h8 h9 h10 h11 h12 hf hs VO c0 c1 c2 c3 c4
  rintro V2 ⟨hT, l0, l1, l2, l3, l4, lf, ls, vo⟩
  have HT2 := Lib.hid hT
  have VO := Lib.hid vo
  have d7 := hT.2.2.2.2.2.2.2.1
  have d8 := hT.2.2.2.2.2.2.2.2.1
  have d9 := hT.2.2.2.2.2.2.2.2.2.1
  have d10 := hT.2.2.2.2.2.2.2.2.2.2.1
  have d11 := hT.2.2.2.2.2.2.2.2.2.2.2.1
  clear hT vo
  go_wp2
  exact bodyPost_ret (v := .tuple #[.agg #[.int .i64 x0, .int .i64 x1, .int .i64 x2, .int .i64 x3, .int .i64 x4], .bool true]) (by simp only [results, Try.results23]; go_simp) rfl ⟨rfl, HT2.out.keep (c := w.heap.size) (by repeat' (first | (with_reducible exact Only.refl _ _) | (with_reducible refine Only.alloc ?_ _) | (with_reducible refine only_drewN ?_ _) | (with_reducible refine Only.drew ?_) | (with_reducible refine Only.setCell ?_ ?_ _) | (exact Or.inl rfl) | (right; first | omega | (simp; done) | (simp; omega)) | omega | (simp; omega) | (simp; done))) (by omega), only_above VO.out (Nat.le_refl _)⟩

set_option maxHeartbeats 1600000 in
theorem rlast_none (r : Nat) (p : Option Addr) (cap : Nat) (r0 r1 r2 r3 r4 done : Int) (w : World) (h6 : w.cell? ⟨r, 6, none⟩ = some (.slice p 0 cap)) (h7 : w.cell? ⟨r, 7, none⟩ = some (.int .i64 r0)) (h8 : w.cell? ⟨r, 8, none⟩ = some (.int .i64 r1)) (h9 : w.cell? ⟨r, 9, none⟩ = some (.int .i64 r2)) (h10 : w.cell? ⟨r, 10, none⟩ = some (.int .i64 r3)) (h11 : w.cell? ⟨r, 11, none⟩ = some (.int .i64 r4)) (h12 : w.cell? ⟨r, 12, none⟩ = some (.int .i64 done)) (hr : r < w.heap.size) :
    Calls Try.prog 28 #[.pointer (some ⟨r, 0, none⟩)] w fun e w' => e = .returned (.tuple #[.agg #[.int .i64 r0, .int .i64 r1, .int .i64 r2, .int .i64 r3, .int .i64 r4], .bool (decide (0 < done))]) ∧ Below w.heap.size w w' := by
  go_enter Try.func28, Try.ntmps28
  go_upto_region 3 with fail
  refine gen_world (F := fun V => V.cell? ⟨r, 7, none⟩ = some (.int .i64 r0) ∧ V.cell? ⟨r, 8, none⟩ = some (.int .i64 r1) ∧ V.cell? ⟨r, 9, none⟩ = some (.int .i64 r2) ∧ V.cell? ⟨r, 10, none⟩ = some (.int .i64 r3) ∧ V.cell? ⟨r, 11, none⟩ = some (.int .i64 r4) ∧ V.cell? ⟨r, 12, none⟩ = some (.int .i64 done) ∧ V.cell? ⟨w.heap.size, 0, none⟩ = some (.int .i64 (0)) ∧ V.cell? ⟨w.heap.size, 1, none⟩ = some (.int .i64 (0)) ∧ V.cell? ⟨w.heap.size, 2, none⟩ = some (.int .i64 (0)) ∧ V.cell? ⟨w.heap.size, 3, none⟩ = some (.int .i64 (0)) ∧ V.cell? ⟨w.heap.size, 4, none⟩ = some (.int .i64 (0)) ∧ (∀ o, V.frozen? ⟨w.heap.size, o, none⟩ = false) ∧ w.heap.size < V.heap.size ∧ Below w.heap.size w V) ⟨?_, ?_, ?_, ?_, ?_, ?_, ?_, ?_, ?_, ?_, ?_, ?_, ?_, (by repeat' (first | (with_reducible exact Below.refl _ _) | (with_reducible refine Below.alloc ?_ ?_ _) | (with_reducible refine below_drewN ?_ _) | (with_reducible refine Below.drew ?_) | (with_reducible refine Below.setCell ?_ ?_ _) | omega | (simp; omega) | (simp; done)))⟩ ?_
  iterate 11 (focus (go_simp; done))
  · intro o; go_simp
  · simp
  clear h6 h7 h8 h9 h10 h11 h12
  rintro V ⟨h7, h8, h9, h10, h11, h12, l0, l1, l2, l3, l4, lf, ls, vb⟩
  have VB := Lib.hid vb
  have vs := vb.size
  clear vb
  have hw : w.heap.size ≠ r := by omega
  go_region
  all_goals
    go_wp2
    exact bodyPost_ret (v := .tuple #[.agg #[.int .i64 r0, .int .i64 r1, .int .i64 r2, .int .i64 r3, .int .i64 r4], .bool (decide (0 < done))]) (by simp only [results, Try.results28]; go_simp) rfl ⟨rfl, bel_chain0 VB.out (by repeat' (first | (with_reducible exact Below.refl _ _) | (with_reducible refine Below.alloc ?_ ?_ _) | (with_reducible refine below_drewN ?_ _) | (with_reducible refine Below.drew ?_) | (with_reducible refine Below.setCell ?_ ?_ _) | omega | (simp; omega) | (simp; done)))⟩

set_option maxHeartbeats 1600000 in
theorem rlast_some (r g o len cap : Nat) (x0 x1 x2 x3 x4 : Int) (w : World) (h6 : w.cell? ⟨r, 6, none⟩ = some (.slice (some ⟨g, o, none⟩) (len + 1) cap)) (hr : r < w.heap.size) (hl : len ≤ 64)
    (c0 : w.cell? ⟨g, o + len * 5, none⟩ = some (.int .i64 x0)) (c1 : w.cell? ⟨g, o + len * 5 + 1, none⟩ = some (.int .i64 x1)) (c2 : w.cell? ⟨g, o + len * 5 + 2, none⟩ = some (.int .i64 x2)) (c3 : w.cell? ⟨g, o + len * 5 + 3, none⟩ = some (.int .i64 x3)) (c4 : w.cell? ⟨g, o + len * 5 + 4, none⟩ = some (.int .i64 x4)) (hg : g < w.heap.size) :
    Calls Try.prog 28 #[.pointer (some ⟨r, 0, none⟩)] w fun e w' => e = .returned (.tuple #[.agg #[.int .i64 x0, .int .i64 x1, .int .i64 x2, .int .i64 x3, .int .i64 x4], .bool true]) ∧ Below w.heap.size w w' := by
  go_enter Try.func28, Try.ntmps28
  go_upto_region 2 with fail
  refine gen_world (F := fun V => V.cell? ⟨r, 6, none⟩ = some (.slice (some ⟨g, o, none⟩) (len + 1) cap) ∧ V.cell? ⟨g, o + len * 5, none⟩ = some (.int .i64 x0) ∧ V.cell? ⟨g, o + len * 5 + 1, none⟩ = some (.int .i64 x1) ∧ V.cell? ⟨g, o + len * 5 + 2, none⟩ = some (.int .i64 x2) ∧ V.cell? ⟨g, o + len * 5 + 3, none⟩ = some (.int .i64 x3) ∧ V.cell? ⟨g, o + len * 5 + 4, none⟩ = some (.int .i64 x4) ∧ V.cell? ⟨w.heap.size, 0, none⟩ = some (.int .i64 (0)) ∧ V.cell? ⟨w.heap.size, 1, none⟩ = some (.int .i64 (0)) ∧ V.cell? ⟨w.heap.size, 2, none⟩ = some (.int .i64 (0)) ∧ V.cell? ⟨w.heap.size, 3, none⟩ = some (.int .i64 (0)) ∧ V.cell? ⟨w.heap.size, 4, none⟩ = some (.int .i64 (0)) ∧ (∀ o, V.frozen? ⟨w.heap.size, o, none⟩ = false) ∧ w.heap.size < V.heap.size ∧ Below w.heap.size w V) ⟨?_, ?_, ?_, ?_, ?_, ?_, ?_, ?_, ?_, ?_, ?_, ?_, ?_, (by repeat' (first | (with_reducible exact Below.refl _ _) | (with_reducible refine Below.alloc ?_ ?_ _) | (with_reducible refine below_drewN ?_ _) | (with_reducible refine Below.drew ?_) | (with_reducible refine Below.setCell ?_ ?_ _) | omega | (simp; omega) | (simp; done)))⟩ ?_
  iterate 11 (focus (go_simp; done))
  · intro o; go_simp
  · simp
  clear h6 c0 c1 c2 c3 c4
  rintro V ⟨h6, c0, c1, c2, c3, c4, l0, l1, l2, l3, l4, lf, ls, vb⟩
  have VB := Lib.hid vb
  have vs := vb.size
  clear vb
  have hw : w.heap.size ≠ r := by omega
  have hw2 : w.heap.size ≠ g := by omega
  have k0 : ¬ (((len + 1 : Nat) : Int) - 1 < 0) := by omega
  have k1 : (((len + 1 : Nat) : Int) - 1).toNat = len := by omega
  have k2 : IntKind.i64.wrap (((len + 1 : Nat) : Int) - 1) = (len : Int) := (IntWalk.i64_in _ (by omega)).trans (by omega)
  go_region
  all_goals
    go_wp2
    exact bodyPost_ret (v := .tuple #[.agg #[.int .i64 x0, .int .i64 x1, .int .i64 x2, .int .i64 x3, .int .i64 x4], .bool true]) (by simp only [results, Try.results28]; go_simp) rfl ⟨rfl, bel_chain0 VB.out (by repeat' (first | (with_reducible exact Below.refl _ _) | (with_reducible refine Below.alloc ?_ ?_ _) | (with_reducible refine below_drewN ?_ _) | (with_reducible refine Below.drew ?_) | (with_reducible refine Below.setCell ?_ ?_ _) | omega | (simp; omega) | (simp; done)))⟩
end Go.Proofs.Ytkmgkggkdmlkeaa
