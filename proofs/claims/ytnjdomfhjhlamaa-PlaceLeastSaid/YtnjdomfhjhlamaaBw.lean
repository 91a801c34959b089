/- The document's Best (by recursion); the walk of PlaceLeast. Written by genbw.py. -/
import Derived.Test.YtnjdomfhjhlamaaBp
import Derived.Test.YtnjdomfhjhlamaaPq
import Derived.Test.YtnjdomfhjhlamaaRm
namespace Go.Proofs.Ytnjdomfhjhlamaa
open Go.RowKit
set_option linter.unusedVariables false
set_option linter.unusedSimpArgs false

section
variable {P : Program} (w : World)
/-- append of what may be nil, at the list of a plain region's operations. -/
theorem wpList_row_src {ops : Array Oper} {rest : List Oper} {o : Oper} {a : Act} {Q : Exit → Act → World → Prop} (hgd : o.guard = none) (s x : Operand) (t : TypeId)
    (ho : o.op = .call { callee := .builtin .append, args := #[s, x], argTypes := #[t, t] })
    (base : Nat) (e : TypeId) (i : TypeInfo) (z : Value) (size bytes : Nat) (ht : P.underlying t = Option.some (.slice e)) (hi : P.info? e = Option.some i) (hz : i.zero = Option.some z)
    (hsize : i.size = size) (hby : i.bytes = bytes) (hzs : z.cells.size = size) (hsz : 0 < size)
    (g0 off0 n cap0 : Nat) (xs : List Value) (hs : a.eval s = .slice (some ⟨g0, off0, none⟩) n cap0) (hown : RowAt w base size (.slice (some ⟨g0, off0, none⟩) n cap0) n xs)
    (sv : Value) (m : Nat) (news : List Value) (hx : a.eval x = sv) (hsrc : (sv = .slice none 0 0 ∧ m = 0 ∧ news = []) ∨ ∃ ad c, sv = .slice (Option.some ad) m c ∧ ∀ j u, news[j]? = Option.some u → w.cell? (ad.add j) = Option.some u)
    (hl : news.length = m * size) (h1 : ∀ u ∈ news, u.oneCell' = true) (h63 : n + m ≤ maxLen) (hbytes : (n + m) * bytes ≤ 140737488355328) (hbase : base ≤ w.heap.size)
    (h : ∀ g off cap w', RowAt w' base size (.slice (Option.some ⟨g, off, none⟩) (n + m) cap) (n + m) (xs ++ news) → w.grownBy w' (some g0) → wpList P ops Q rest (a.put o.dst (.slice (Option.some ⟨g, off, none⟩) (n + m) cap)) w') : wpList P ops Q (o :: rest) a w := by
  refine wpList_plain hgd fun _ hK => ?_
  have key : ∃ g off cap w', (Builtin.append_ #[t, t] o.type #[.slice (some ⟨g0, off0, none⟩) n cap0, sv]).run P w = .ok (.slice (Option.some ⟨g, off, none⟩) (n + m) cap) w' ∧
      RowAt w' base size (.slice (Option.some ⟨g, off, none⟩) (n + m) cap) (n + m) (xs ++ news) ∧ w.grownBy w' (some g0) := by
    rcases hsrc with ⟨rfl, rfl, rfl⟩ | ⟨ad, c, rfl, hnews⟩
    · have hnc := hown.cap_ge'
      refine ⟨g0, off0, cap0, w, ?_, by simpa using hown, ⟨rfl, rfl, rfl, Nat.le_refl _, fun _ _ _ => rfl⟩⟩
      simp [Builtin.append_, run_underlying ht, sizeOf, typeInfo, hi, Builtin.lenOf, Builtin.firstCells, hnc, storeCells]
    · exact run_row_any (P := P) w t o.type base e i z size bytes ht hi hz hsize hby hzs hsz g0 off0 n cap0 xs hown ad m c news hl hnews h1 h63 hbytes hbase
  obtain ⟨g, off, cap, w', hr, h2, h3⟩ := key
  unfold Oper.wp execOp
  simp only [ho, resolve, invoke, builtin, Sem.run_bind, Sem.run_pure, Result.andThen_ok, List.map_toArray, List.map_cons, List.map_nil, hs, hx, hr]
  exact hK _ _ (h g off cap w' h2 h3)
end
/-- Numbers' cells. -/
def iv (c : Nat → Int) : Nat → List Value
  | 0 => []
  | k + 1 => iv c k ++ [.int .i64 (c k)]
theorem iv_len (c : Nat → Int) (k : Nat) : (iv c k).length = k := by
  induction k with
  | zero => rfl
  | succ k ih => show (iv c k ++ _).length = _; rw [List.length_append, ih]; rfl
theorem iv_get (c : Nat → Int) (k j : Nat) (hj : j < k) : (iv c k)[j]? = some (.int .i64 (c j)) := by
  induction k with
  | zero => omega
  | succ k ih =>
    show (iv c k ++ _)[j]? = _
    by_cases h : j < k
    · rw [List.getElem?_append_left (by rw [iv_len]; omega)]; exact ih h
    · obtain rfl : j = k := by omega
      rw [List.getElem?_append_right (by rw [iv_len]; omega), iv_len, Nat.sub_self]; rfl
theorem iv_one (c : Nat → Int) (k : Nat) (u : Value) (h : u ∈ iv c k) : u.oneCell' = true := by
  induction k with
  | zero => cases h
  | succ k ih =>
    rcases List.mem_append.1 h with h | h
    · exact ih h
    · simp at h; rw [h]; rfl
theorem iv_same (c d : Nat → Int) (k : Nat) (h : ∀ j, j < k → c j = d j) : iv c k = iv d k := by
  induction k with
  | zero => rfl
  | succ k ih => simp only [iv]; rw [ih (fun j hj => h j (by omega)), h k (by omega)]
theorem ints_of_row {w : World} {base : Nat} {v : Value} {n : Nat} {c : Nat → Int} (h : RowAt w base 1 v n (iv c n)) : Ints w v n c := by
  obtain ⟨p, cap, rfl⟩ := h.form
  refine ⟨p, cap, rfl, h.cap_ge', fun hn => ?_⟩
  obtain ⟨g, off, hp, hgb, hgs, hcc, hcl, hsp⟩ := h.some hn
  exact ⟨g, off, hp, hgs, fun j hj => by rw [hcl j (by omega), iv_get _ _ _ hj]⟩
theorem info_int15 : ∃ i, Try.prog.info? 3 = some i ∧ i.zero = some (.int .i64 0) ∧ i.size = 1 ∧ i.bytes = 8 := by
  have h : (Try.prog.info? 3).map (fun i => (i.zero, i.size, i.bytes)) = some (some (.int .i64 0), 1, 8) := by kernel_rfl
  obtain ⟨i, hi, hb⟩ := Option.map_eq_some_iff.1 h
  simp only [Prod.mk.injEq] at hb
  exact ⟨i, hi, hb.1, hb.2.1, hb.2.2⟩

set_option maxRecDepth 8000 in
set_option maxHeartbeats 12800000 in
theorem best_any (v : Value) (n m : Nat) (D Pn La : Nat → Int) (hn : n ≤ 1000) (hm : m ≤ 1000) (k : Nat) : ∀ (i : Nat) (v2 : Value) (cs : Nat → Int) (w : World), i + k = n → Runs w v n D Pn La → Ints w v2 i cs → (i = 0 → v2 = .slice none 0 0) →
    Calls Try.prog 19 #[v, .int .i64 (m : Int), v2] w fun e w' => e = .returned (.int .i64 (bst n m Pn La k i cs)) ∧ Below w.heap.size w w' := by
  induction k with
  | zero =>
    intro i v2 cs w hik hR hC hz
    have hM := rmoves_any v v2 n i D Pn La cs w hR hC (by omega) (by omega)
    obtain rfl : i = n := by omega
    rw [Nat.min_self] at hM
    obtain ⟨p, cap, rfl, hcap, hr⟩ := hR
    obtain ⟨p2, cap2, rfl, hcap2, hr2⟩ := hC
    have HM := Lib.hid hM
    clear hr hr2 hM hz
    go_enter Try.func19, Try.ntmps19
    go_wp2_with (go_at_call 25; (with_reducible refine HM.out.mono ?_); rintro e w1 ⟨rfl, hb1⟩)
    go_ret
    exact ⟨rfl, (by have s0_ := hb1.size; (try simp only [World.size_alloc, World.size_setCell, World.size_drew, sz_drewN] at s0_); repeat' (first | (with_reducible exact Below.refl _ _) | (with_reducible refine bel_call ?_ ?_ hb1) | (with_reducible refine Below.alloc ?_ ?_ _) | (with_reducible refine below_drewN ?_ _) | (with_reducible refine Below.drew ?_) | (with_reducible refine Below.setCell ?_ ?_ _) | omega | (simp; omega) | (simp; done)))⟩
  | succ k ih =>
    intro i v2 cs w hik hR hC hz0
    have hz : Hid (i = 0 → v2 = .slice none 0 0) := hz0
    have HRUN := Lib.hid hR
    have HINT := Lib.hid hC
    obtain ⟨p, cap, rfl, hcap, hr⟩ := hR
    obtain ⟨p2, cap2, rfl, hcap2, hr2⟩ := hC
    have HR := Lib.hid hr
    have HC := Lib.hid hr2
    have T : ((i : Int) == n) = false := by rw [beq_eq_false_iff_ne]; omega
    have IH := Lib.hid ih
    obtain ⟨i0, hi0, iz0, iz1, iz2⟩ := info_int15
    clear hr hr2 hz0 ih
    go_enter Try.func19, Try.ntmps19
    go_wp2
    go_loopw [8, 9] (fun s8 s9 wr => ∃ c : Nat, s8 = .int .i64 (bfold (fun c => if skp n Pn i cs c = true then none else some (bst n m Pn La k (i + 1) (ext cs i c))) c) ∧ s9 = .int .i64 c ∧ c ≤ m ∧ Below w.heap.size w wr) (fun _ s9 _ => 2000 - (intOf s9).toNat)
    case atStart => exact ⟨0, rfl, rfl, by omega, (by repeat' (first | (with_reducible exact Below.refl _ _) | (with_reducible refine Below.alloc ?_ ?_ _) | (with_reducible refine below_drewN ?_ _) | (with_reducible refine Below.drew ?_) | (with_reducible refine Below.setCell ?_ ?_ _) | omega | (simp; omega) | (simp; done)))⟩
    case round =>
      obtain ⟨c, rfl, rfl, hcm, hbv⟩ := hrel
      have hbs := hbv.size
      by_cases hlt : c < m
      · have cl : (c : Int) < m := by omega
        have wk : IntKind.i64.wrap ((c : Int) + 1) = (c : Int) + 1 := wrap_in _ (by omega) (by omega)
        have wi : IntKind.i64.wrap ((i : Int) + 1) = (i : Int) + 1 := wrap_in _ (by omega) (by omega)
        have hin := rin_any (.slice p2 i cap2) i cs c wr (HINT.out.keepb hbv) (by omega)
        have HIN := Lib.hid hin
        have HSK : Hid (skp n Pn i cs c = (pinned cs i c || (plat Pn i c (n - (i + 1)) || (decide (0 ≤ Pn i) && (Pn i != c))))) := rfl
        obtain ⟨g, off, rfl, hg, hj⟩ := HR.out (by omega)
        have HJ := Lib.hid hj
        clear hin hj
        generalize hbf : bfold (fun c => if skp n Pn i cs c = true then none else some (bst n m Pn La k (i + 1) (ext cs i c))) c = bf at *
        have HBF := Lib.hid hbf
        clear hbf
        go_upto_region 9 with (go_at_call 26; (with_reducible refine HIN.out.mono ?_); rintro e w2 ⟨rfl, hb2⟩)
        have hbv3 : Below w.heap.size w w2 := bel_call hbv hbs hb2
        have hbs3 := hbv3.size
        have HBV3 := Lib.hid hbv3
        have HB1 : Hid (pinned cs i c = pinned cs i c) := rfl
        generalize hb1 : pinned cs i c = b1 at HSK ⊢
        clear HB1 hb1 HIN hb2
        obtain ⟨w3, hw3⟩ : ∃ x, x = w2 := ⟨w2, rfl⟩
        subst hw3
        go_wp2
        go_loopw [11, 12] (fun s11 s12 wr => ∃ t kk : Nat, s11 = .bool (plat Pn i c t) ∧ kk = i + 1 + t ∧ s12 = .int .i64 (kk : Int) ∧ t ≤ n - (i + 1) ∧ wr = w3) (fun _ s12 _ => 4000 - (intOf s12).toNat)
        case atStart => exact ⟨0, i + 1, rfl, rfl, by go_num, by omega, by first | trivial | rfl⟩
        case round =>
          obtain ⟨t, kk, rfl, hkk, rfl, ht, rfl⟩ := hrel
          by_cases hlt2 : t < n - (i + 1)
          · have q1 : (kk : Int) < n := by omega
            have x1 : wr.cell? ⟨g, off + kk * 3 + 1, none⟩ = some (.int .i64 (Pn kk)) := (HBV3.out.cell (p := ⟨g, off + kk * 3 + 1, none⟩) (by exact hg)).trans (HJ.out kk (by omega)).2.1
            have wkk : IntKind.i64.wrap ((kk : Int) + 1) = (kk : Int) + 1 := wrap_in _ (by omega) (by omega)
            have hps : Hid (plat Pn i c (t + 1) = (plat Pn i c t || (Pn kk == c))) := by show _ = _; rw [hkk]; rfl
            clear HSK
            have HKK := Lib.hid hkk
            clear hkk
            generalize Pn kk = pk at *
            cases hpt : plat Pn i c t
            · rw [hpt] at hps
              go_wp2
              go_roundw
              case rel => exact ⟨t + 1, kk + 1, by rw [hps.out]; simp, by have := HKK.out; omega, by go_num, by omega, by first | trivial | rfl⟩
              case measure => (simp [intOf] <;> omega)
            · rw [hpt] at hps
              go_wp2
              go_roundw
              case rel => exact ⟨t + 1, kk + 1, by rw [hps.out]; simp, by have := HKK.out; omega, by go_num, by omega, by first | trivial | rfl⟩
              case measure => (simp [intOf] <;> omega)
          · obtain rfl : t = n - (i + 1) := by omega
            have q1 : ¬ (kk : Int) < n := by omega
            have xi : wr.cell? ⟨g, off + i * 3 + 1, none⟩ = some (.int .i64 (Pn i)) := (HBV3.out.cell (p := ⟨g, off + i * 3 + 1, none⟩) (by exact hg)).trans (HJ.out i (by omega)).2.1
            have il : (i : Int) < n := by omega
            obtain ⟨w3, hw3⟩ : ∃ x, x = wr := ⟨wr, rfl⟩
            subst hw3
            have hbv3 := HBV3.out
            generalize hb2 : plat Pn i c (n - (i + 1)) = b2 at HSK ⊢
            generalize hpi : Pn i = pi at HSK xi ⊢
            clear hb2 hpi hkk hlt2
            cases b1
            · cases b2
              · by_cases hp0 : 0 ≤ pi
                · by_cases hpc : pi = c
                  · have e1 : (pi != (c : Int)) = false := by simp [hpc]
                    have hsk : Hid (skp n Pn i cs c = false) := by show _ = _; rw [HSK.out]; simp [e1]
                    clear HSK
                    obtain ⟨x, hx⟩ : ∃ x, bst n m Pn La k (i + 1) (ext cs i c) = x := ⟨_, rfl⟩
                    have hbs : Hid (bfold (fun c => if skp n Pn i cs c = true then none else some (bst n m Pn La k (i + 1) (ext cs i c))) (c + 1) = if x < bf then x else bf) := by
                      show _ = _
                      simp only [bfold]
                      rw [if_neg (by rw [hsk.out]; simp), hx, HBF.out]
                    have hrec := fun v2 w1 (hr : Runs w1 (.slice (some ⟨g, off, none⟩) n cap) n D Pn La) (hi2 : Ints w1 v2 (i + 1) (ext cs i c)) => IH.out (i + 1) v2 (ext cs i c) w1 (by omega) hr hi2 (fun h => by omega)
                    rw [hx] at hrec
                    have HREC := Lib.hid hrec
                    clear hrec hx
                    have hsrc : ∀ o, (Value.slice p2 i cap2 = .slice none 0 0 ∧ i = 0 ∧ iv cs i = []) ∨ ∃ ad c, Value.slice p2 i cap2 = .slice (some ad) i c ∧ ∀ j u, (iv cs i)[j]? = some u → (w3.alloc o).cell? (ad.add j) = some u := by
                      intro o
                      by_cases h0 : i = 0
                      · exact .inl ⟨hz.out h0, h0, by rw [h0]; rfl⟩
                      · obtain ⟨g2, off2, hp2, hg2, hj2⟩ := HC.out (by omega)
                        refine .inr ⟨⟨g2, off2, none⟩, cap2, by rw [hp2], fun j u hj => ?_⟩
                        have hlt := (List.getElem?_eq_some_iff.1 hj).1
                        rw [iv_len] at hlt
                        rw [iv_get _ _ _ hlt] at hj
                        have e : (w3.alloc o).cell? ⟨g2, off2 + j, none⟩ = w3.cell? ⟨g2, off2 + j, none⟩ := World.cell?_of_block (w := w3) (a := ⟨g2, off2 + j, none⟩) (Below.heap_alloc _ _ _ (by show g2 < _; omega))
                        rw [Addr.add_lit, e, hbv3.cell (p := ⟨g2, off2 + j, none⟩) (by exact hg2), hj2 j hlt, ← hj]
                    go_wp2_with (at_builtin; refine wpList_row_src _ rfl (.tmp 72) (.tmp 73) 31 rfl w3.heap.size 3 i0 _ 1 8 Try.underlying31 hi0 iz0 iz1 iz2 rfl (by decide) w3.heap.size 0 0 0 [] (by first | rfl | simp [Act.eval, Act.put]) ⟨rfl, .inr ⟨_, 0, 0, rfl, Nat.le_refl _, by simp, Nat.le_refl _, fun j hj => by omega, fun j hj => by omega⟩⟩ (.slice p2 i cap2) i (iv cs i) (by first | rfl | simp [Act.eval, Act.put]) (hsrc _) (by rw [iv_len, Nat.mul_one]) (iv_one _ _) (by unfold maxLen; omega) (by omega) (by simp) ?_)
                    intro g1 off1 cap1 w5 hrow5 hgr5
                    have hb5 : Below w3.heap.size w3 w5 := ((Below.refl _ _).alloc (Nat.le_refl _) _).grown hgr5 (by simp) (fun j hj => by cases hj; omega)
                    have s5 := hb5.size
                    have hg1 := (hrow5.lt g1 rfl).2
                    have hg1' := (hrow5.lt g1 rfl).1
                    have hrow5a : RowAt (w5.alloc (.cells #[.int .i64 c] 3)) w3.heap.size 1 (.slice (some ⟨g1, off1, none⟩) (0 + i) cap1) (0 + i) (iv cs i) := (by simpa using hrow5 : RowAt w5 w3.heap.size 1 (.slice (some ⟨g1, off1, none⟩) (0 + i) cap1) (0 + i) (iv cs i)).alloc _
                    clear hgr5 hrow5
                    go_wp2_with (at_builtin; refine wpList_row_lies _ rfl (.tmp 74) (.tmp 76) 31 rfl w3.heap.size 3 i0 _ 1 8 Try.underlying31 hi0 iz0 iz1 iz2 rfl (by decide) _ _ _ (by first | rfl | simp [Act.eval, Act.put]) hrow5a ⟨w5.heap.size, 0, none⟩ 1 1 [.int .i64 c] (by first | rfl | simp [Act.eval, Act.put]) rfl ?c1 ?c2 (by omega) (by unfold maxLen; omega) (by omega) (by simp; omega) ?_)
                    case c1 =>
                      intro j u hj
                      match j, hj with
                      | 0, hj => simp at hj; subst hj; simp [Addr.add]
                      | j + 1, hj => simp at hj
                    case c2 => intro u hu; simp at hu; subst hu; rfl
                    intro g6 off6 cap6 w6 hrow6 hgr6 _ hg6
                    have hb6 : Below w3.heap.size w3 w6 := (hb5.alloc s5 _).grown hgr6 (by simp; omega) (fun j hj => by cases hj; omega)
                    have hri : Ints w6 (.slice (some ⟨g6, off6, none⟩) (i + 1) cap6) (i + 1) (ext cs i c) := by
                      have e : iv cs i ++ [Value.int .i64 c] = iv (ext cs i c) (i + 1) := by
                        show _ = iv (ext cs i c) i ++ [_]
                        rw [ext_at, iv_same cs (ext cs i c) i (fun j hj => (ext_lt _ _ hj).symm)]
                      rw [e] at hrow6
                      first
                        | exact ints_of_row hrow6
                        | (rw [show 0 + i + 1 = i + 1 by omega] at hrow6; exact ints_of_row hrow6)
                    have hrr : Runs w6 (.slice (some ⟨g, off, none⟩) n cap) n D Pn La := HRUN.out.keepb (bel_call hbv3 hbs3 hb6)
                    have hbv6 := bel_call hbv3 hbs3 hb6
                    clear hrow6 hgr6 hrow5a hb5 hb6
                    have HRI := Lib.hid hri
                    have HRR := Lib.hid hrr
                    clear hri hrr
                    by_cases hlx : x < bf
                    · have hb2 : Hid (bfold (fun c => if skp n Pn i cs c = true then none else some (bst n m Pn La k (i + 1) (ext cs i c))) (c + 1) = x) := by show _ = _; rw [hbs.out, if_pos hlx]
                      go_wp2_with (go_at_call 19; (with_reducible refine (HREC.out _ _ HRR.out ?_).mono ?_); (focus (first | exact HRI.out | simpa using HRI.out)); rintro e w7 ⟨rfl, hb7⟩)
                      go_roundw
                      case rel => exact ⟨c + 1, by rw [hb2.out], by go_num, by omega, bel_call hbv6 hbv6.size hb7⟩
                      case measure => (simp [intOf] <;> omega)
                    · have hb2 : Hid (bfold (fun c => if skp n Pn i cs c = true then none else some (bst n m Pn La k (i + 1) (ext cs i c))) (c + 1) = bf) := by show _ = _; rw [hbs.out, if_neg hlx]
                      go_wp2_with (go_at_call 19; (with_reducible refine (HREC.out _ _ HRR.out ?_).mono ?_); (focus (first | exact HRI.out | simpa using HRI.out)); rintro e w7 ⟨rfl, hb7⟩)
                      go_roundw
                      case rel => exact ⟨c + 1, by rw [hb2.out], by go_num, by omega, bel_call hbv6 hbv6.size hb7⟩
                      case measure => (simp [intOf] <;> omega)
                  · have e1 : (pi != (c : Int)) = true := by simp [hpc]
                    have hsk : Hid (skp n Pn i cs c = true) := by show _ = _; rw [HSK.out]; simp [hp0, hpc]
                    clear HSK
                    have hsn : Hid (bfold (fun c => if skp n Pn i cs c = true then none else some (bst n m Pn La k (i + 1) (ext cs i c))) (c + 1) = bf) := by
                      show _ = _
                      simp only [bfold]
                      rw [if_pos hsk.out, HBF.out]
                    go_wp2
                    go_roundw
                    case rel => exact ⟨c + 1, by rw [hsn.out], by go_num, by omega, hbv3⟩
                    case measure => (simp [intOf] <;> omega)
                · have hsk : Hid (skp n Pn i cs c = false) := by show _ = _; rw [HSK.out]; simp [hp0]
                  clear HSK
                  obtain ⟨x, hx⟩ : ∃ x, bst n m Pn La k (i + 1) (ext cs i c) = x := ⟨_, rfl⟩
                  have hbs : Hid (bfold (fun c => if skp n Pn i cs c = true then none else some (bst n m Pn La k (i + 1) (ext cs i c))) (c + 1) = if x < bf then x else bf) := by
                    show _ = _
                    simp only [bfold]
                    rw [if_neg (by rw [hsk.out]; simp), hx, HBF.out]
                  have hrec := fun v2 w1 (hr : Runs w1 (.slice (some ⟨g, off, none⟩) n cap) n D Pn La) (hi2 : Ints w1 v2 (i + 1) (ext cs i c)) => IH.out (i + 1) v2 (ext cs i c) w1 (by omega) hr hi2 (fun h => by omega)
                  rw [hx] at hrec
                  have HREC := Lib.hid hrec
                  clear hrec hx
                  have hsrc : ∀ o, (Value.slice p2 i cap2 = .slice none 0 0 ∧ i = 0 ∧ iv cs i = []) ∨ ∃ ad c, Value.slice p2 i cap2 = .slice (some ad) i c ∧ ∀ j u, (iv cs i)[j]? = some u → (w3.alloc o).cell? (ad.add j) = some u := by
                    intro o
                    by_cases h0 : i = 0
                    · exact .inl ⟨hz.out h0, h0, by rw [h0]; rfl⟩
                    · obtain ⟨g2, off2, hp2, hg2, hj2⟩ := HC.out (by omega)
                      refine .inr ⟨⟨g2, off2, none⟩, cap2, by rw [hp2], fun j u hj => ?_⟩
                      have hlt := (List.getElem?_eq_some_iff.1 hj).1
                      rw [iv_len] at hlt
                      rw [iv_get _ _ _ hlt] at hj
                      have e : (w3.alloc o).cell? ⟨g2, off2 + j, none⟩ = w3.cell? ⟨g2, off2 + j, none⟩ := World.cell?_of_block (w := w3) (a := ⟨g2, off2 + j, none⟩) (Below.heap_alloc _ _ _ (by show g2 < _; omega))
                      rw [Addr.add_lit, e, hbv3.cell (p := ⟨g2, off2 + j, none⟩) (by exact hg2), hj2 j hlt, ← hj]
                  go_wp2_with (at_builtin; refine wpList_row_src _ rfl (.tmp 72) (.tmp 73) 31 rfl w3.heap.size 3 i0 _ 1 8 Try.underlying31 hi0 iz0 iz1 iz2 rfl (by decide) w3.heap.size 0 0 0 [] (by first | rfl | simp [Act.eval, Act.put]) ⟨rfl, .inr ⟨_, 0, 0, rfl, Nat.le_refl _, by simp, Nat.le_refl _, fun j hj => by omega, fun j hj => by omega⟩⟩ (.slice p2 i cap2) i (iv cs i) (by first | rfl | simp [Act.eval, Act.put]) (hsrc _) (by rw [iv_len, Nat.mul_one]) (iv_one _ _) (by unfold maxLen; omega) (by omega) (by simp) ?_)
                  intro g1 off1 cap1 w5 hrow5 hgr5
                  have hb5 : Below w3.heap.size w3 w5 := ((Below.refl _ _).alloc (Nat.le_refl _) _).grown hgr5 (by simp) (fun j hj => by cases hj; omega)
                  have s5 := hb5.size
                  have hg1 := (hrow5.lt g1 rfl).2
                  have hg1' := (hrow5.lt g1 rfl).1
                  have hrow5a : RowAt (w5.alloc (.cells #[.int .i64 c] 3)) w3.heap.size 1 (.slice (some ⟨g1, off1, none⟩) (0 + i) cap1) (0 + i) (iv cs i) := (by simpa using hrow5 : RowAt w5 w3.heap.size 1 (.slice (some ⟨g1, off1, none⟩) (0 + i) cap1) (0 + i) (iv cs i)).alloc _
                  clear hgr5 hrow5
                  go_wp2_with (at_builtin; refine wpList_row_lies _ rfl (.tmp 74) (.tmp 76) 31 rfl w3.heap.size 3 i0 _ 1 8 Try.underlying31 hi0 iz0 iz1 iz2 rfl (by decide) _ _ _ (by first | rfl | simp [Act.eval, Act.put]) hrow5a ⟨w5.heap.size, 0, none⟩ 1 1 [.int .i64 c] (by first | rfl | simp [Act.eval, Act.put]) rfl ?c1 ?c2 (by omega) (by unfold maxLen; omega) (by omega) (by simp; omega) ?_)
                  case c1 =>
                    intro j u hj
                    match j, hj with
                    | 0, hj => simp at hj; subst hj; simp [Addr.add]
                    | j + 1, hj => simp at hj
                  case c2 => intro u hu; simp at hu; subst hu; rfl
                  intro g6 off6 cap6 w6 hrow6 hgr6 _ hg6
                  have hb6 : Below w3.heap.size w3 w6 := (hb5.alloc s5 _).grown hgr6 (by simp; omega) (fun j hj => by cases hj; omega)
                  have hri : Ints w6 (.slice (some ⟨g6, off6, none⟩) (i + 1) cap6) (i + 1) (ext cs i c) := by
                    have e : iv cs i ++ [Value.int .i64 c] = iv (ext cs i c) (i + 1) := by
                      show _ = iv (ext cs i c) i ++ [_]
                      rw [ext_at, iv_same cs (ext cs i c) i (fun j hj => (ext_lt _ _ hj).symm)]
                    rw [e] at hrow6
                    first
                      | exact ints_of_row hrow6
                      | (rw [show 0 + i + 1 = i + 1 by omega] at hrow6; exact ints_of_row hrow6)
                  have hrr : Runs w6 (.slice (some ⟨g, off, none⟩) n cap) n D Pn La := HRUN.out.keepb (bel_call hbv3 hbs3 hb6)
                  have hbv6 := bel_call hbv3 hbs3 hb6
                  clear hrow6 hgr6 hrow5a hb5 hb6
                  have HRI := Lib.hid hri
                  have HRR := Lib.hid hrr
                  clear hri hrr
                  by_cases hlx : x < bf
                  · have hb2 : Hid (bfold (fun c => if skp n Pn i cs c = true then none else some (bst n m Pn La k (i + 1) (ext cs i c))) (c + 1) = x) := by show _ = _; rw [hbs.out, if_pos hlx]
                    go_wp2_with (go_at_call 19; (with_reducible refine (HREC.out _ _ HRR.out ?_).mono ?_); (focus (first | exact HRI.out | simpa using HRI.out)); rintro e w7 ⟨rfl, hb7⟩)
                    go_roundw
                    case rel => exact ⟨c + 1, by rw [hb2.out], by go_num, by omega, bel_call hbv6 hbv6.size hb7⟩
                    case measure => (simp [intOf] <;> omega)
                  · have hb2 : Hid (bfold (fun c => if skp n Pn i cs c = true then none else some (bst n m Pn La k (i + 1) (ext cs i c))) (c + 1) = bf) := by show _ = _; rw [hbs.out, if_neg hlx]
                    go_wp2_with (go_at_call 19; (with_reducible refine (HREC.out _ _ HRR.out ?_).mono ?_); (focus (first | exact HRI.out | simpa using HRI.out)); rintro e w7 ⟨rfl, hb7⟩)
                    go_roundw
                    case rel => exact ⟨c + 1, by rw [hb2.out], by go_num, by omega, bel_call hbv6 hbv6.size hb7⟩
                    case measure => (simp [intOf] <;> omega)
              · have hsk : Hid (skp n Pn i cs c = true) := by show _ = _; rw [HSK.out]; simp
                clear HSK
                have hsn : Hid (bfold (fun c => if skp n Pn i cs c = true then none else some (bst n m Pn La k (i + 1) (ext cs i c))) (c + 1) = bf) := by
                  show _ = _
                  simp only [bfold]
                  rw [if_pos hsk.out, HBF.out]
                go_wp2
                go_roundw
                case rel => exact ⟨c + 1, by rw [hsn.out], by go_num, by omega, hbv3⟩
                case measure => (simp [intOf] <;> omega)
            · have hsk : Hid (skp n Pn i cs c = true) := by show _ = _; rw [HSK.out]; simp
              clear HSK
              have hsn : Hid (bfold (fun c => if skp n Pn i cs c = true then none else some (bst n m Pn La k (i + 1) (ext cs i c))) (c + 1) = bf) := by
                show _ = _
                simp only [bfold]
                rw [if_pos hsk.out, HBF.out]
              go_wp2
              go_roundw
              case rel => exact ⟨c + 1, by rw [hsn.out], by go_num, by omega, hbv3⟩
              case measure => (simp [intOf] <;> omega)
      · have il : ¬ (c : Int) < m := by omega
        obtain rfl : c = m := by omega
        go_wp2
        go_ret
        exact ⟨rfl, hbv⟩
end Go.Proofs.Ytnjdomfhjhlamaa
