/- Contracts of math/bits.Mul and slices.Repeat, as place.Assign asks them. -/
import Derived.Test.YtnjdomfhjhlamaaPt
import Derived.Laws.MakeOwn
import Derived.Laws.IdiomCopy
namespace Go.Proofs.Ytnjdomfhjhlamaa
open Go.RowKit
set_option linter.unusedVariables false
set_option linter.unusedSimpArgs false

theorem u64_wrap (n : Nat) (h : n < 18446744073709551616) : IntKind.u64.wrap (n : Int) = n := by
  show (n : Int) % 18446744073709551616 = n
  omega
theorem u64_and (n : Nat) (h : n < 4294967296) : bits .and .u64 (n : Int) 4294967295 = n := by
  show IntKind.u64.wrap ((BitVec.ofInt 64 (n : Int) &&& BitVec.ofInt 64 ((2 ^ 32 - 1 : Nat) : Int)).toNat : Int) = _
  rw [BitVec.toNat_and, BitVec.ofInt_natCast, BitVec.ofInt_natCast, BitVec.toNat_ofNat, BitVec.toNat_ofNat, Nat.mod_eq_of_lt (a := 2 ^ 32 - 1) (by omega), Nat.and_two_pow_sub_one_eq_mod, Nat.mod_eq_of_lt (a := n) (by omega), Nat.mod_eq_of_lt (by omega)]
  exact u64_wrap n (by omega)

set_option maxRecDepth 8000 in
set_option maxHeartbeats 3200000 in
theorem mul64_one (n : Nat) (w : World) (hn : n ≤ 1024) : Calls Try.prog 29 #[.int .u64 1, .int .u64 n] w fun e w' => e = .returned (.tuple #[.int .u64 0, .int .u64 n]) ∧ Below w.heap.size w w' := by
  have b1 : bits .and .u64 1 4294967295 = 1 := u64_and 1 (by omega)
  have b0 : bits .and .u64 0 4294967295 = 0 := u64_and 0 (by omega)
  have bn := u64_and n (by omega)
  have w0 : IntKind.u64.wrap 0 = 0 := u64_wrap 0 (by omega)
  have wn := u64_wrap n (by omega)
  have dn : (n : Int) / 4294967296 = 0 := by omega
  go_enter Try.func29, Try.ntmps29
  go_wp2
  exact bodyPost_ret (v := .tuple #[.int .u64 0, .int .u64 n]) (by simp only [results, Try.results29]; go_simp) rfl ⟨rfl, (by repeat' (first | (with_reducible exact Below.refl _ _) | (with_reducible refine Below.alloc ?_ ?_ _) | (with_reducible refine below_drewN ?_ _) | (with_reducible refine Below.drew ?_) | (with_reducible refine Below.setCell ?_ ?_ _) | omega | (simp; omega) | (simp; done)))⟩

set_option maxRecDepth 8000 in
set_option maxHeartbeats 3200000 in
theorem mul_one' (n : Nat) (w : World) (hn : n ≤ 1024) : Calls Try.prog 27 #[.int .u64 1, .int .u64 n] w fun e w' => e = .returned (.tuple #[.int .u64 0, .int .u64 n]) ∧ Below w.heap.size w w' := by
  go_enter Try.func27, Try.ntmps27
  go_wp2_with (go_at_call 29; (with_reducible refine (mul64_one n _ hn).mono ?_); rintro e w1 ⟨rfl, hb1⟩)
  exact bodyPost_ret (v := .tuple #[.int .u64 0, .int .u64 n]) (by simp only [results, Try.results27]; go_simp) rfl ⟨rfl, (by have s0_ := hb1.size; (try simp only [World.size_alloc, World.size_setCell, World.size_drew, sz_drewN] at s0_); repeat' (first | (with_reducible exact Below.refl _ _) | (with_reducible refine bel_call ?_ ?_ hb1) | (with_reducible refine Below.alloc ?_ ?_ _) | (with_reducible refine below_drewN ?_ _) | (with_reducible refine Below.drew ?_) | (with_reducible refine Below.setCell ?_ ?_ _) | omega | (simp; omega) | (simp; done)))⟩

theorem int_info : ∃ i, Try.prog.info? 3 = some i ∧ i.bytes = 8 ∧ i.size = 1 ∧ i.zero = some (.int .i64 0) := by
  have h : (Try.prog.info? 3).map (fun i => (i.bytes, i.size, i.zero)) = some (8, 1, some (.int .i64 0)) := by kernel_rfl
  obtain ⟨i, hi, hb⟩ := Option.map_eq_some_iff.1 h
  injection hb with h1 h2
  injection h2 with h2 h3
  exact ⟨i, hi, h1, h2, h3⟩
theorem mk_ints (n : Nat) (h : n ≤ 1024) : ∃ M : Array Value, M.size = n ∧ (∀ j, j < n → M[j]? = some (.int .i64 0)) ∧ ∀ w, (Instr.makeSlice 31 (.int .i64 n) (.int .i64 n)).run Try.prog w = .ok (.slice (some ⟨w.heap.size, 0, none⟩) n n) (w.alloc (.cells M 3)) := by
  obtain ⟨i, hi, hb, hs, hz⟩ := int_info
  refine ⟨madeCells #[.int .i64 0] n, by simp [madeCells], fun j hj => by simp [madeCells, hj, Nat.mod_one], fun w => ?_⟩
  have := run_make (P := Try.prog) w 31 3 i (.int .i64 0) Try.underlying31 hi hz .i64 .i64 n n (by omega) (Int.le_refl _) (by rw [hb]; omega) (by omega)
  rw [hs] at this
  simp only [Int.toNat_natCast, Nat.mul_one] at this
  exact this
theorem int_size : (Try.prog.info? 3).map (·.size) = some 1 := by kernel_rfl
/-- A row of n cells, the first k of them -1. -/
def Ones (w : World) (g n k : Nat) : Prop := Hid (∀ j, j < k → w.cell? ⟨g, j, none⟩ = some (.int .i64 (-1))) ∧ Hid (∀ j, j < n → (w.cell? ⟨g, j, none⟩).isSome = true) ∧ (∀ o, w.frozen? ⟨g, o, none⟩ = false) ∧ g < w.heap.size
theorem Ones.more {w : World} {g n k L : Nat} (h : Ones w g n k) (hL : k + L ≤ n) : Ones (w.setCells g k (List.replicate L (.int .i64 (-1)))) g n (k + L) := by
  obtain ⟨h1, h2, h3, h4⟩ := h
  have hin : ∀ j, j < (List.replicate L (Value.int .i64 (-1))).length → (w.cell? ⟨g, k + j, none⟩).isSome = true := fun j hj => h2.out (k + j) (by simp at hj; omega)
  refine ⟨fun j hj => ?_, fun j hj => ?_, fun o => by rw [World.frozen?_setCells]; exact h3 o, ?_⟩
  · by_cases e : j < k
    · exact (World.cell?_setCells_out g _ _ w ⟨g, j, none⟩ (fun _ _ => Or.inl e)).trans (h1.out j e)
    · obtain ⟨i, rfl⟩ : ∃ i, j = k + i := ⟨j - k, by omega⟩
      rw [World.cell?_setCells_in g _ k w hin i (by simp; omega)]
      simp
  · by_cases e : j < k ∨ k + L ≤ j
    · rw [World.cell?_setCells_out g _ _ w ⟨g, j, none⟩ (fun _ _ => by simp; omega)]; exact h2.out j hj
    · obtain ⟨i, rfl⟩ : ∃ i, j = k + i := ⟨j - k, by omega⟩
      rw [World.cell?_setCells_in g _ k w hin i (by simp; omega)]; rfl
  · exact Nat.lt_of_lt_of_le h4 (World.keptBut_setCells g (may := fun p => p.block = g) _ _ w (fun _ _ => rfl)).size
theorem below_setCells {B g : Nat} {a : World} (hg : B ≤ g) : ∀ (vs : List Value) (o : Nat) (w : World), Below B a w → Below B a (w.setCells g o vs)
  | [], _, _, h => h
  | v :: r, o, w, h => by rw [World.setCells]; exact below_setCells hg r _ _ (h.setCell hg _)
theorem copy_ones (w : World) (ty g n k : Nat) (h : Ones w g n k) (hk : k < n) : (Builtin.copy_ #[31, 31] ty #[.slice (some ⟨g, k, none⟩) (n - k) (n - k), .slice (some ⟨g, 0, none⟩) k n]).run Try.prog w = .ok (goInt (min k (n - k) : Nat)) (w.setCells g k (List.replicate (min k (n - k)) (.int .i64 (-1)))) := by
  obtain ⟨h1, h2, h3, h4⟩ := h
  have := run_copy_cells (P := Try.prog) w 31 31 ty 3 g k (n - k) (n - k) ⟨g, 0, none⟩ k n (List.replicate (min k (n - k)) (.int .i64 (-1))) Try.underlying31 int_size (by simp) (fun j v hv => ?_) (fun j hj => h2.out _ (by simp at hj; omega)) (fun j hj => h3 _) (fun v hv => by rw [(List.mem_replicate.1 hv).2]; rfl)
  · simpa using this
  · have hj : j < min k (n - k) := by have := (List.getElem?_eq_some_iff.1 hv).1; simpa using this
    rw [List.getElem?_replicate, if_pos hj] at hv
    rw [Addr.add_lit, Nat.zero_add, h1.out j (by omega)]
    exact hv

set_option maxRecDepth 8000 in
set_option maxHeartbeats 3200000 in
theorem repeat_any (a c n : Nat) (w : World) (hn : n ≤ 1024) (hc : w.cell? ⟨a, 0, none⟩ = some (.int .i64 (-1))) :
    Calls Try.prog 21 #[.slice (some ⟨a, 0, none⟩) 1 c, .int .i64 n] w fun e w' => (∃ g, e = .returned (.slice (some ⟨g, 0, none⟩) n n) ∧ Ones w' g n n ∧ w.heap.size ≤ g) ∧ Below w.heap.size w w' := by
  obtain ⟨M, hMs, hM, hmk⟩ := mk_ints n hn
  have wn := u64_wrap n (by omega)
  have win : IntKind.i64.wrap (n : Int) = n := wrap_in _ (by omega) (by omega)
  have ha := World.block_lt_of_cell? w _ hc
  go_enter Try.func21, Try.ntmps21
  go_upto_region 6 with (go_at_call 27; (with_reducible refine (mul_one' n _ hn).mono ?_); rintro e w1 ⟨rfl, hb1⟩)
  have s1 := hb1.size
  go_upto_region 7 with fail
  refine gen_world (F := fun V => Ones V w1.heap.size n 0 ∧ V.cell? ⟨a, 0, none⟩ = some (.int .i64 (-1)) ∧ Below w.heap.size w V) ⟨⟨fun j hj => by omega, fun j hj => ?_, fun o => by go_simp, by simp⟩, (World.cell?_alloc_past _ _ _ (by omega)).trans ((hb1.cell (p := ⟨a, 0, none⟩) ha).trans hc), hb1.alloc s1 _⟩ ?_
  · rw [World.cell?_alloc_at _ _ _ _ rfl, hM j hj]; rfl
  clear hb1 hmk hM hMs hc
  have gg : w.heap.size ≤ w1.heap.size := s1
  generalize w1.heap.size = g at *
  rintro V ⟨hO, hca, hbv⟩
  by_cases h0 : n = 0
  · have hcp := run_copy_none (P := Try.prog) V 31 31 3 3 (some ⟨g, 0, none⟩) (some ⟨a, 0, none⟩) n n 1 c Try.underlying31 int_size (by rw [h0]; rfl)
    have H0 := Lib.hid h0
    clear h0
    go_upto_region 8 with fail
    refine gen_world (F := fun V => Ones V g n 0 ∧ Below w.heap.size w V) ⟨hO, hbv⟩ ?_
    clear hcp hca hO hbv
    rintro V2 ⟨hO, hbv⟩
    go_loopw [8] (fun s8 wr => ∃ k : Nat, s8 = .int .i64 k ∧ k ≤ n ∧ (k < n → 1 ≤ k) ∧ Ones wr g n k ∧ Below w.heap.size w wr) (fun s8 _ => n - (intOf s8).toNat)
    case atStart => exact ⟨0, rfl, by omega, by have := H0.out; omega, hO, hbv⟩
    case round =>
      clear hO hbv
      obtain ⟨k, rfl, hk, hk1, hO, hbv⟩ := hrel
      by_cases hlt : k < n
      · have k1 := hk1 hlt
        have il : (k : Int) < n := by omega
        have kn : (k : Int) ≤ n := by omega
        have hnk : ¬ n - k = 0 := by omega
        obtain ⟨L, hL⟩ : ∃ L, min k (n - k) = L := ⟨_, rfl⟩
        have hcp := copy_ones wr.drew 3 g n k hO hlt
        have hOL := Ones.more (L := L) (w := wr.drew) hO (by omega)
        rw [hL] at hcp
        have hL1 : 1 ≤ L := by omega
        have hLn : k + L ≤ n := by omega
        have hbL : Below w.heap.size w (wr.drew.setCells g k (List.replicate L (.int .i64 (-1)))) := below_setCells gg _ _ _ hbv.drew
        have wkL : IntKind.i64.wrap ((k : Int) + L) = (k : Int) + L := wrap_in _ (by omega) (by omega)
        clear hL
        go_upto_region 9 with fail
        go_region
        go_wp2
        exact ⟨⟨k + L, by go_num, by omega, by omega, hOL, hbL⟩, by simp [intOf]; omega⟩
      · have il : ¬ (k : Int) < n := by omega
        have hkn : k = n := by omega
        go_wp2
        go_ret
        subst hkn
        exact ⟨⟨g, rfl, hO, gg⟩, hbv⟩
  · have hcp := run_copy_cells (P := Try.prog) V 31 31 3 3 g 0 n n ⟨a, 0, none⟩ 1 c [.int .i64 (-1)] Try.underlying31 int_size (by show 1 = Nat.min 1 n; simp [Nat.min_def]; omega) (fun j v hv => by match j, hv with | 0, hv => simp at hv; subst hv; simpa [Addr.add] using hca) (fun j hj => by rw [Nat.zero_add]; exact hO.2.1.out j (by simp at hj; omega)) (fun j hj => hO.2.2.1 _) (fun v hv => by simp at hv; subst hv; rfl)
    have hO1 := Ones.more (L := 1) hO (by omega)
    have hb2 : Below w.heap.size w (V.setCells g 0 [.int .i64 (-1)]) := below_setCells gg _ _ _ hbv
    go_upto_region 8 with fail
    refine gen_world (F := fun V => Ones V g n 1 ∧ Below w.heap.size w V) ⟨hO1, hb2⟩ ?_
    clear hcp hca hO hbv
    rintro V2 ⟨hO, hbv⟩
    go_loopw [8] (fun s8 wr => ∃ k : Nat, s8 = .int .i64 k ∧ k ≤ n ∧ (k < n → 1 ≤ k) ∧ Ones wr g n k ∧ Below w.heap.size w wr) (fun s8 _ => n - (intOf s8).toNat)
    case atStart => exact ⟨1, rfl, by omega, by omega, hO, hbv⟩
    case round =>
      clear hO hbv
      obtain ⟨k, rfl, hk, hk1, hO, hbv⟩ := hrel
      by_cases hlt : k < n
      · have k1 := hk1 hlt
        have il : (k : Int) < n := by omega
        have kn : (k : Int) ≤ n := by omega
        have hnk : ¬ n - k = 0 := by omega
        obtain ⟨L, hL⟩ : ∃ L, min k (n - k) = L := ⟨_, rfl⟩
        have hcp := copy_ones wr.drew 3 g n k hO hlt
        have hOL := Ones.more (L := L) (w := wr.drew) hO (by omega)
        rw [hL] at hcp
        have hL1 : 1 ≤ L := by omega
        have hLn : k + L ≤ n := by omega
        have hbL : Below w.heap.size w (wr.drew.setCells g k (List.replicate L (.int .i64 (-1)))) := below_setCells gg _ _ _ hbv.drew
        have wkL : IntKind.i64.wrap ((k : Int) + L) = (k : Int) + L := wrap_in _ (by omega) (by omega)
        clear hL
        go_upto_region 9 with fail
        go_region
        go_wp2
        exact ⟨⟨k + L, by go_num, by omega, by omega, hOL, hbL⟩, by simp [intOf]; omega⟩
      · have il : ¬ (k : Int) < n := by omega
        have hkn : k = n := by omega
        go_wp2
        go_ret
        subst hkn
        exact ⟨⟨g, rfl, hO, gg⟩, hbv⟩
end Go.Proofs.Ytnjdomfhjhlamaa
