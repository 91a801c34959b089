/- Contract of place.Holds. -/
import Derived.Test.YtnjdomfhjhlamaaPo
namespace Go.Proofs.Ytnjdomfhjhlamaa
open Go.RowKit
set_option linter.unusedVariables false
set_option linter.unusedSimpArgs false

/-- One of the cores is right, those ahead being known. -/
def HOne (m : Int) (Pn c : Nat → Int) (i : Nat) : Prop := 0 ≤ c i ∧ c i < m ∧ (∀ k, k < i → c k ≠ c i) ∧ (Pn i ≠ -1 → Pn i = c i)
/-- Cores hold runners. -/
def Hld (m : Int) (n : Nat) (D Pn La : Nat → Int) (n2 : Nat) (c : Nat → Int) : Prop := Chk m n D Pn La ∧ n2 = n ∧ ∀ i, i < n → HOne m Pn c i
def HldRes (m : Int) (n : Nat) (D Pn La : Nat → Int) (n2 : Nat) (c : Nat → Int) (e : Ending) : Prop := ∃ B, e = .returned (.bool B) ∧ (B = true ↔ Hld m n D Pn La n2 c)
theorem hld_no {m : Int} {n n2 : Nat} {D Pn La c : Nat → Int} (h : ¬ Hld m n D Pn La n2 c) : HldRes m n D Pn La n2 c (.returned (.bool false)) := ⟨false, rfl, ⟨fun h => (by cases h), fun h' => absurd h' h⟩⟩
theorem hld_yes {m : Int} {n n2 : Nat} {D Pn La c : Nat → Int} (h : Hld m n D Pn La n2 c) : HldRes m n D Pn La n2 c (.returned (.bool true)) := ⟨true, rfl, ⟨fun _ => h, fun _ => rfl⟩⟩

set_option maxRecDepth 8000 in
set_option maxHeartbeats 6400000 in
theorem holds_any (v v2 : Value) (n n2 : Nat) (D Pn La c : Nat → Int) (m : Int) (w : World) (hR : Runs w v n D Pn La) (hC : Ints w v2 n2 c) (hwf : ∀ j, j < n → (Lit.int .i64 (D j)).wf = true) (hn : n ≤ 2000) (hn2 : n2 ≤ 2000) :
    Calls Try.prog 17 #[v, v2, .int .i64 m] w fun e w' => HldRes m n D Pn La n2 c e ∧ Below w.heap.size w w' := by
  have HCH := Lib.hid (check_any v n D Pn La m w hR hwf)
  obtain ⟨p, cap, rfl, hcap, hr⟩ := hR
  obtain ⟨p2, cap2, rfl, hcap2, hr2⟩ := hC
  have HR := Lib.hid hr
  have HC := Lib.hid hr2
  clear hr hr2
  by_cases hchk : Chk m n D Pn La
  · by_cases hnn : n2 = n
    · have hz1 : ((n2 : Int) != (n : Int)) = false := by simp; omega
      have hnn2 : Hid (n2 = n) := hnn
      clear hnn
      have hzc := zero_cores
      have hm1 : m ≤ 1024 := hchk.2.1
      have HCK := Lib.hid hchk
      clear hchk
      go_enter Try.func17, Try.ntmps17
      go_upto_region 4 with (go_at_call 10; (with_reducible refine HCH.out.mono ?_); rintro e w4 ⟨⟨B, rfl, hB⟩, hb4⟩; have hBt : B = true := hB.2 HCK.out; subst hBt; clear hB)
      have s4 := hb4.size
      refine gen_world (F := fun V => (∀ j, j < 1024 → V.cell? ⟨w4.heap.size, j, none⟩ = some (.bool false)) ∧ (∀ o, V.frozen? ⟨w4.heap.size, o, none⟩ = false) ∧ w4.heap.size < V.heap.size ∧ Below w.heap.size w V) ⟨fun j hj => ?_, fun o => ?_, ?_, (by have s0_ := hb4.size; (try simp only [World.size_alloc, World.size_setCell, World.size_drew, sz_drewN] at s0_); repeat' (first | (with_reducible exact Below.refl _ _) | (with_reducible refine bel_call ?_ ?_ hb4) | (with_reducible refine Below.alloc ?_ ?_ _) | (with_reducible refine below_drewN ?_ _) | (with_reducible refine Below.drew ?_) | (with_reducible refine Below.setCell ?_ ?_ _) | omega | (simp; omega) | (simp; done)))⟩ ?_
      · refine (World.cell?_alloc_at _ _ _ _ (by simp)).trans ?_
        rw [Array.getElem?_replicate, if_pos hj]
      · go_simp
      · simp
      clear hzc
      generalize w4.heap.size = q at *
      rintro V ⟨hpin, hfz, hqs, hbv⟩
      go_wp2
      go_loopw [23] (fun s23 wr => ∃ (i : Nat), s23 = .int .i64 i ∧ i ≤ n ∧ Hid (∀ j : Nat, j < 1024 → wr.cell? ⟨q, j, none⟩ = some (.bool (pinned c i j))) ∧ (∀ o, wr.frozen? ⟨q, o, none⟩ = false) ∧ q < wr.heap.size ∧ Hid (∀ k, k < i → HOne m Pn c k) ∧ Below w.heap.size w wr) (fun s23 _ => 4000 - (intOf s23).toNat)
      case atStart => exact ⟨0, rfl, by omega, fun j hj => hpin j hj, hfz, hqs, fun k hk => by omega, hbv⟩
      case round =>
        clear hpin hfz hqs hbv
        obtain ⟨i, rfl, hi, hpin, hfz, hqs, hok, hbv⟩ := hrel
        have hs := hbv.size
        by_cases hlt : i < n
        · obtain ⟨g, off, rfl, hg, hj⟩ := HR.out (by omega)
          obtain ⟨g2, off2, rfl, hg2, hj2⟩ := HC.out (by have := hnn2.out; omega)
          have c1 : wr.cell? ⟨g, off + i * 3 + 1, none⟩ = some (.int .i64 (Pn i)) := (hbv.cell (p := ⟨g, off + i * 3 + 1, none⟩) (by exact hg)).trans (hj i hlt).2.1
          have c2 : wr.cell? ⟨g2, off2 + i, none⟩ = some (.int .i64 (c i)) := (hbv.cell (p := ⟨g2, off2 + i, none⟩) (by exact hg2)).trans (hj2 i (by have := hnn2.out; omega))
          have il : (i : Int) < n2 := by have := hnn2.out; omega
          have il2 : (i : Int) < n := by omega
          have wk : IntKind.i64.wrap ((i : Int) + 1) = (i : Int) + 1 := wrap_in _ (by omega) (by omega)
          have hall : ¬ HOne m Pn c i → ¬ Hld m n D Pn La n2 c := fun h h' => h (h'.2.2 i hlt)
          have hone : HOne m Pn c i ↔ 0 ≤ c i ∧ c i < m ∧ pinned c i (c i) = false ∧ (Pn i ≠ -1 → Pn i = c i) := by
            unfold HOne
            refine and_congr_right (fun _ => and_congr_right (fun _ => and_congr ⟨fun h => ?_, fun h k hk e => ?_⟩ Iff.rfl))
            · rw [← Bool.not_eq_true, pinned_iff]; rintro ⟨k, hk, e⟩; exact h k hk e
            · have : pinned c i (c i) = true := (pinned_iff _ _ _).2 ⟨k, hk, e⟩
              rw [h] at this; cases this
          have HALL := Lib.hid hall
          have HON := Lib.hid hone
          have hpn : Hid (∀ j : Nat, pinned c (i + 1) j = (pinned c i j || (c i == (j : Int)))) := fun j => rfl
          have hok2 : HOne m Pn c i → Hid (∀ k, k < i + 1 → HOne m Pn c k) := fun h k hk => by
            by_cases e : k = i
            · subst e; exact h
            · exact hok.out k (by omega)
          have HOK2 := Lib.hid hok2
          clear hall hone hj hj2 hok2
          generalize hx : c i = x at *
          have HX := Lib.hid hx
          generalize Pn i = pn at *
          clear hx
          by_cases h0 : x < 0
          · go_wp2
            go_ret
            exact ⟨hld_no (HALL.out (fun h => by have := (HON.out.1 h).1; omega)), hbv⟩
          · by_cases h1 : m ≤ x
            · go_wp2
              go_ret
              exact ⟨hld_no (HALL.out (fun h => by have := (HON.out.1 h).2.1; omega)), hbv⟩
            · obtain ⟨xk, rfl⟩ : ∃ k : Nat, x = k := ⟨x.toNat, by omega⟩
              have xkm : xk < 1024 := by omega
              have xki : (xk : Int) < 1024 := by omega
              have hcq : wr.cell? ⟨q, xk, none⟩ = some (.bool (pinned c i xk)) := hpin.out xk xkm
              have hfq := hfz xk
              cases hpb : pinned c i xk with
              | true =>
                rw [hpb] at hcq
                go_wp2
                go_ret
                exact ⟨hld_no (HALL.out (fun h => by have := (HON.out.1 h).2.2.1; rw [hpb] at this; cases this)), hbv⟩
              | false =>
                rw [hpb] at hcq
                by_cases hp1 : pn = -1 ∨ pn = xk
                · have hyes := HOK2.out (HON.out.2 ⟨by omega, by omega, hpb, fun h => hp1.resolve_left h⟩)
                  have hb2 : Below w.heap.size w (wr.setCell ⟨q, xk, none⟩ (.bool true)) := hbv.setCell (by show w.heap.size ≤ q; omega) _
                  have hset : Hid (∀ j : Nat, j < 1024 → (wr.setCell ⟨q, xk, none⟩ (.bool true)).cell? ⟨q, j, none⟩ = some (.bool (pinned c (i + 1) j))) := fun j hj => by
                    rw [hpn.out]
                    by_cases e : j = xk
                    · subst e
                      rw [World.cell?_setCell_same _ _ _ hcq]
                      simp
                    · rw [World.cell?_setCell_other _ _ _ _ (by intro h; injection h with h1 h2; omega), hpin.out j hj, show ((xk : Int) == (j : Int)) = false by rw [beq_eq_false_iff_ne]; omega, Bool.or_false]
                  clear hpin hbv HOK2 HON HALL
                  rcases hp1 with rfl | rfl
                  · go_wp2
                    go_roundw
                    case rel => exact ⟨i + 1, by go_num, by omega, hset, fun o => by rw [World.frozen?_setCell]; exact hfz o, by simpa using hqs, hyes, hb2⟩
                    case measure => (simp [intOf] <;> omega)
                  · have hne : ((xk : Int) != -1) = true := by rw [bne_iff_ne]; omega
                    have hne2 : ((xk : Int) == -1) = false := by rw [beq_eq_false_iff_ne]; omega
                    have hnx : ((xk : Int) != xk) = false := by simp
                    go_wp2
                    go_roundw
                    case rel => exact ⟨i + 1, by go_num, by omega, hset, fun o => by rw [World.frozen?_setCell]; exact hfz o, by simpa using hqs, hyes, hb2⟩
                    case measure => (simp [intOf] <;> omega)
                · have hne : (pn != -1) = true := by simp; omega
                  have hne2 : (pn == -1) = false := by rw [beq_eq_false_iff_ne]; omega
                  have hnx : (pn != (xk : Int)) = true := by simp; omega
                  have hnx2 : (pn == (xk : Int)) = false := by rw [beq_eq_false_iff_ne]; omega
                  go_wp2
                  go_ret
                  exact ⟨hld_no (HALL.out (fun h => hp1 (by by_cases e : pn = -1; exact .inl e; exact .inr ((HON.out.1 h).2.2.2 e)))), hbv⟩
        · have il : ¬ (i : Int) < n2 := by have := hnn2.out; omega
          have hin : i = n := by omega
          go_wp2
          go_ret
          subst hin
          exact ⟨hld_yes ⟨HCK.out, hnn2.out, hok.out⟩, hbv⟩
    · have hz1 : ((n2 : Int) != (n : Int)) = true := by simp; omega
      have HNN := Lib.hid hnn
      have HCK := Lib.hid hchk
      clear hnn hchk
      go_enter Try.func17, Try.ntmps17
      go_wp2_with (go_at_call 10; (with_reducible refine HCH.out.mono ?_); rintro e w4 ⟨⟨B, rfl, hB⟩, hb4⟩; have hBt : B = true := hB.2 HCK.out; subst hBt; clear hB)
      go_ret
      exact ⟨hld_no (fun h => HNN.out h.2.1), (by have s0_ := hb4.size; (try simp only [World.size_alloc, World.size_setCell, World.size_drew, sz_drewN] at s0_); repeat' (first | (with_reducible exact Below.refl _ _) | (with_reducible refine bel_call ?_ ?_ hb4) | (with_reducible refine Below.alloc ?_ ?_ _) | (with_reducible refine below_drewN ?_ _) | (with_reducible refine Below.drew ?_) | (with_reducible refine Below.setCell ?_ ?_ _) | omega | (simp; omega) | (simp; done)))⟩
  · go_enter Try.func17, Try.ntmps17
    go_wp2_with (go_at_call 10; (with_reducible refine HCH.out.mono ?_); rintro e w4 ⟨⟨B, rfl, hB⟩, hb4⟩; have hBt : B = false := by { cases B with | false => rfl | true => exact absurd (hB.1 rfl) hchk }; subst hBt; clear hB)
    go_ret
    exact ⟨hld_no (fun h => hchk h.1), (by have s0_ := hb4.size; (try simp only [World.size_alloc, World.size_setCell, World.size_drew, sz_drewN] at s0_); repeat' (first | (with_reducible exact Below.refl _ _) | (with_reducible refine bel_call ?_ ?_ hb4) | (with_reducible refine Below.alloc ?_ ?_ _) | (with_reducible refine below_drewN ?_ _) | (with_reducible refine Below.drew ?_) | (with_reducible refine Below.setCell ?_ ?_ _) | omega | (simp; omega) | (simp; done)))⟩
end Go.Proofs.Ytnjdomfhjhlamaa
