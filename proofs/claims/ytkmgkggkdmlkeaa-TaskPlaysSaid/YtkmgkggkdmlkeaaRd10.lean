/- Contract of the document's Cuts (layer 10). -/
import Derived.Test.YtkmgkggkdmlkeaaRc10
namespace Go.Proofs.Ytkmgkggkdmlkeaa
open Go.RowKit
set_option linter.unusedVariables false
set_option linter.unusedSimpArgs false

set_option maxRecDepth 8000 in
set_option maxHeartbeats 3200000 in
theorem rcuts_any (r : Nat) (E P off came a : Int) (early cut : Bool) (p : Option Addr) (cap : Nat) (L : List Sb) (r0 r1 r2 r3 r4 done : Int) (base : Nat) (w : World)
    (hT : RC w r E P early cut off came (.slice p L.length cap) r0 r1 r2 r3 r4 done) (hO : RowAt w base 5 (.slice p L.length cap) L.length (flat L)) (hp : ∀ g, (Value.slice p L.length cap).ownBlock = some g → g ≠ r) (hl : L.length ≤ 64) :
    Calls Try.prog 26 #[.pointer (some ⟨r, 0, none⟩), .int .i64 a] w fun e w' => e = .returned (.int .i64 ((L.length : Int) - (cutL a L).length)) ∧
      (∃ q c, RC w' r E P early true off came (.slice q (cutL a L).length c) r0 r1 r2 r3 r4 done ∧ RowAt w' w.heap.size 5 (.slice q (cutL a L).length c) (cutL a L).length (flat (cutL a L))) ∧ Only r w w' := by
  have rz := rc_size hT
  have c3 := hT.2.2.2.1
  have f3 := hT.2.2.2.2.2.2.2.2.2.2.2.2.2.1
  have HT := Lib.hid hT
  have HO := Lib.hid hO
  have HP := Lib.hid hp
  obtain ⟨i0, hi0, hz0, hz1, hz2⟩ := infoS
  clear hT hO hp
  go_enter Try.func26, Try.ntmps26
  go_upto_region 2 with fail
  refine gen_world (F := fun V => RC V r E P early true off came (.slice p L.length cap) r0 r1 r2 r3 r4 done ∧ RowAt V base 5 (.slice p L.length cap) L.length (flat L) ∧ Only r w V) ⟨HT.out.cuts _, row_only HO.out (only_set _ _ _ _) HP.out, (by repeat' (first | (with_reducible exact Only.refl _ _) | (with_reducible refine Only.alloc ?_ _) | (with_reducible refine only_drewN ?_ _) | (with_reducible refine Only.drew ?_) | (with_reducible refine Only.setCell ?_ ?_ _) | (exact Or.inl rfl) | (right; first | omega | (simp; done) | (simp; omega)) | omega | (simp; omega) | (simp; done)))⟩ ?_
  clear HT HO c3 f3 rz
  rintro V ⟨hT, hO, ho⟩
  have rz := rc_size hT
  have c6 := hT.2.2.2.2.2.2.1
  have HT := Lib.hid hT
  have HO := Lib.hid hO
  have HV := Lib.hid ho
  have sV := ho.size
  clear hT hO ho
  go_wp2
  go_loopw [5, 6] (fun v s6 wr => ∃ j : Nat, s6 = .int .i64 j ∧ j ≤ L.length ∧ RowAt wr V.heap.size 5 v (cutL a (L.take j)).length (flat (cutL a (L.take j))) ∧ Below V.heap.size V wr) (fun _ s6 _ => 70 - (intOf s6).toNat)
  case atStart => exact ⟨0, rfl, by omega, RowAt.nil _ _ _, Below.refl _ _⟩
  case round =>
    obtain ⟨j, rfl, hj, hrow, hb⟩ := hrel
    have hs := hb.size
    have d6 : wr.cell? ⟨r, 6, none⟩ = some (.slice p L.length cap) := (hb.cell (p := ⟨r, 6, none⟩) rz).trans c6
    have rz' : r < wr.heap.size := by omega
    by_cases hlt : j < L.length
    · obtain ⟨x, hx⟩ : ∃ x, L[j]? = some x := ⟨_, List.getElem?_eq_getElem hlt⟩
      obtain ⟨g, o, rfl, gb, gs, hcap, hcl, hsp⟩ := HO.out.some (by omega)
      have hc : ∀ k, k < 5 → wr.cell? ⟨g, o + j * 5 + k, none⟩ = x.vals[k]? := fun k hk => by
        rw [hb.cell (p := ⟨g, o + j * 5 + k, none⟩) gs, Nat.add_assoc, hcl (j * 5 + k) (by omega)]
        exact flat_get L j k x hx hk
      have e0 : wr.cell? ⟨g, o + j * 5, none⟩ = some (.int .i64 x.i) := hc 0 (by omega)
      have e1 : wr.cell? ⟨g, o + j * 5 + 1, none⟩ = some (.int .i64 x.r) := hc 1 (by omega)
      have e2 : wr.cell? ⟨g, o + j * 5 + 2, none⟩ = some (.int .i64 x.d) := hc 2 (by omega)
      have e3 : wr.cell? ⟨g, o + j * 5 + 3, none⟩ = some (.int .i64 x.b) := hc 3 (by omega)
      have e4 : wr.cell? ⟨g, o + j * 5 + 4, none⟩ = some (.int .i64 x.g) := hc 4 (by omega)
      have hnx := Lib.hid (cut_next a L j x hx)
      have jl : (j : Int) < L.length := by omega
      have wk : IntKind.i64.wrap ((j : Int) + 1) = (j : Int) + 1 := IntWalk.i64_in _ (by omega)
      have lk : (cutL a (L.take j)).length ≤ 64 := by have h1 : (cutL a (L.take j)).length ≤ (L.take j).length := List.length_filter_le _ _; rw [List.length_take] at h1; omega
      have HR := Lib.hid hrow
      clear hc hcl hsp hrow hx
      obtain ⟨x0, x1, x2, x3, x4⟩ := x
      dsimp only at e0 e1 e2 e3 e4 hnx
      by_cases hr : x1 ≤ a
      · rw [if_pos hr] at hnx
        have hnl : Hid ((cutL a (L.take (j + 1))).length = (cutL a (L.take j)).length + 1) := by show _ = _; rw [hnx.out, List.length_append]; rfl
        generalize hK : cutL a (L.take j) = K at *
        clear hK
        go_wp2_with (at_builtin; refine wpList_row_lies _ rfl _ _ 55 rfl V.heap.size 33 i0 _ 5 40 Try.underlying55 hi0 hz0 hz1 hz2 rfl (by decide) _ _ _ rfl (HR.out.alloc _) ⟨wr.heap.size, 0, none⟩ 1 1 [.int .i64 x0, .int .i64 x1, .int .i64 x2, .int .i64 x3, .int .i64 x4] rfl rfl ?c1 ?c2 ?c2b ?c3 ?c4 ?c5 ?_)
        case c1 =>
          intro j u hj
          match j, hj with
          | 0, hj => simp at hj; subst hj; simp [Addr.add]
          | 1, hj => simp at hj; subst hj; simp [Addr.add]
          | 2, hj => simp at hj; subst hj; simp [Addr.add]
          | 3, hj => simp at hj; subst hj; simp [Addr.add]
          | 4, hj => simp at hj; subst hj; simp [Addr.add]
          | j + 5, hj => simp at hj
        case c2 => intro u hu; simp at hu; rcases hu with rfl | rfl | rfl | rfl | rfl <;> rfl
        case c2b => omega
        case c3 => unfold maxLen; omega
        case c4 => omega
        case c5 => simp; omega
        · intro g2 off2 cap2 w5 hrow2 hgrow _ _
          have r2 : Below V.heap.size V w5 := (hb.alloc hs _).grown hgrow (by simp; omega) (fun j hj => by have := (HR.out.lt j hj).1; omega)
          have hrow3 : RowAt w5 V.heap.size 5 (.slice (some ⟨g2, off2, none⟩) ((cutL a (L.take (j + 1))).length) cap2) (cutL a (L.take (j + 1))).length (flat (cutL a (L.take (j + 1)))) := by
            rw [hnl.out, hnx.out, flat_app, flat_one]; exact hrow2
          rw [← hnl.out]
          clear hrow2 hgrow HR
          go_wp2
          go_roundw
          case rel => exact ⟨j + 1, by go_num, by omega, hrow3, r2⟩
          case measure => (simp [intOf] <;> omega)
      · rw [if_neg hr, List.append_nil] at hnx
        go_wp2
        go_roundw
        case rel => exact ⟨j + 1, by go_num, by omega, by rw [hnx.out]; exact HR.out, hb⟩
        case measure => (simp [intOf] <;> omega)
    · have hj2 : L.length = j := by omega
      have ht : L.take j = L := by rw [← hj2, List.take_length]
      rw [ht] at hrow
      have jl : ¬ (j : Int) < L.length := by omega
      have lk : (cutL a L).length ≤ L.length := List.length_filter_le _ _
      obtain ⟨q, c, rfl⟩ := hrow.form
      have wd : IntKind.i64.wrap ((L.length : Int) - (cutL a L).length) = (L.length : Int) - (cutL a L).length := IntWalk.i64_in _ (by omega)
      have HR := Lib.hid hrow
      have f6 : ∀ o, wr.frozen? ⟨r, o, none⟩ = false := fun o => (hb.frozen (p := ⟨r, o, none⟩) rz).trans (HT.out.2.2.2.2.2.2.2.2.2.2.2.2.2.1 o)
      clear hrow ht hj2 hj
      go_wp2
      go_ret
      exact ⟨rfl, ⟨q, c, (HT.out.keepb hb).rows _, row_only (HR.out.mono sV) (only_set _ _ _ _) (fun g hg => by have := (HR.out.lt g hg).1; omega)⟩, (only_call HV.out hb).setCell (.inl rfl) _⟩
end Go.Proofs.Ytkmgkggkdmlkeaa
