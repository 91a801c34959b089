/- The row of 'TaskPlays': for every input that can be read the law returns true, and each argument reads behind the call as it did before. No condition. The walk stands in YtkmgkggkdmlkeaaTPl. -/
import Derived.Test.YtkmgkggkdmlkeaaTPl
import Derived.Test.YtkmgkggkdmlkeaaFrame
namespace Go.Proofs.Ytkmgkggkdmlkeaa.lawTaskPlays
open Go.ChangeShapes Go.WideShapes Go.ChangeAt Go.RowKit Go.Joins Go.Deep
set_option linter.unusedVariables false

set_option maxRecDepth 100000 in
theorem lifted (os : Os) (started : os.Started) (H : Type) (enc : TypeId × Value → H) :
    ReturnsInHanded {} Try.checked os 7 .any (Rows.taskPlaysSpec.pre6 enc Try.prog Try.f7 Rows.taskPlaysRow.domain false) (Rows.taskPlaysSpec.post enc Try.prog Try.f7 false true false false) := by
  refine returnsInHanded_of_change (C := Try.checked) ownK started (by kernel_rfl) Try.func7
    (ChangeSpec.witness6 (enc := enc) (C := Try.checked) false ⟨#[], #[.agg #[.int .i64 0, .int .i64 0], .bool false, .slice none 0 0], []⟩ 8 (by kernel_rfl) (by kernel_rfl) (by kernel_rfl) (by kernel_rfl)) ?_
  intro W base args ds gs before hval0 hW hcnd hsz
  have hval : ∀ (j : Nat) t v, Try.f7.params[j]? = some t → args[j]? = some v → Value.okWide Try.prog W .any base t v := hval0
  have hW' := hW
  obtain ⟨p, q, hA0, hV, rfl, hfz, hnd⟩ := hW
  have hA : DataW.TrodAll enc Try.prog W 0 (fun _ => true) true Try.f7.params.toList args.toList ds p := hA0
  rw [Try.params7] at hA hval
  obtain ⟨v0, vs0, d0, ds0, p0, q0, hargs, rfl, rfl, h0, r0⟩ := trodAll_cons hA
  obtain ⟨v1, vs1, d1, ds1, p1, q1, rfl, rfl, rfl, h1, r1⟩ := trodAll_cons r0
  obtain ⟨v2, vs2, d2, ds2, p2, q2, rfl, rfl, rfl, h2, r2⟩ := trodAll_cons r1
  obtain ⟨rfl, rfl, rfl⟩ := trodAll_nil r2
  obtain rfl : args = #[v0, v1, v2] := by cases args; simp_all
  obtain ⟨rfl, rfl⟩ := trodVars_none hV
  have k0 := h0
  have lt0 : ∀ x ∈ p0, x.block < W.heap.size := by obtain ⟨m, hm⟩ := k0; exact DataW.trod_lt m _ _ _ hm
  have k1 := h1
  have lt1 : ∀ x ∈ p1, x.block < W.heap.size := by obtain ⟨m, hm⟩ := k1; exact DataW.trod_lt m _ _ _ hm
  have k2 := h2
  have lt2 : ∀ x ∈ p2, x.block < W.heap.size := by obtain ⟨m, hm⟩ := k2; exact DataW.trod_lt m _ _ _ hm
  obtain ⟨a00, a01, rfl, f00, f01⟩ := open_arr2 Try.underlying22 Try.underlying3 (by kernel_rfl) (by kernel_rfl) (hval 0 22 v0 rfl rfl) h0
  obtain ⟨a1, rfl, rfl, rfl⟩ := open_bool Try.underlying4 (hval 1 4 v1 rfl rfl) h1
  obtain ⟨n2, Z2, f2⟩ := open_flatQ (c := 5) (numsThenBools 3) Try.underlying47 (by kernel_rfl) (by omega) (el_mixed (m := 3) Try.underlying51 rfl (fun i f hf => by
    match i, hf with
    | 0, hf => simp at hf; subst hf; exact ⟨rfl, by kernel_rfl, by rw [if_pos (by omega)]; exact Try.underlying3⟩
    | 1, hf => simp at hf; subst hf; exact ⟨rfl, by kernel_rfl, by rw [if_pos (by omega)]; exact Try.underlying3⟩
    | 2, hf => simp at hf; subst hf; exact ⟨rfl, by kernel_rfl, by rw [if_pos (by omega)]; exact Try.underlying2⟩
    | 3, hf => simp at hf; subst hf; exact ⟨rfl, by kernel_rfl, by rw [if_neg (by omega)]; exact Try.underlying4⟩
    | 4, hf => simp at hf; subst hf; exact ⟨rfl, by kernel_rfl, by rw [if_neg (by omega)]; exact Try.underlying4⟩
    | i + 5, hf => simp at hf)) (hval 2 47 v2 rfl rfl) h2
  clear hA0 hval0
  refine (walk_TaskPlays a00 a01 a1 v2 n2 Z2 W f00 f01 f2).mono fun e W' ⟨he, bel⟩ => ?_
  subst he
  exact ⟨_, rfl, _, _, _, [], _, [], hW', trodAll_mk1 (shut_bool Try.underlying4 _), (trodAll_cons_mk (Below.trod laidK (by kernel_rfl) (of_decide_eq_true (by kernel_rfl)) k0 bel lt0) (trodAll_cons_mk (Below.trod laidK (by kernel_rfl) (of_decide_eq_true (by kernel_rfl)) k1 bel lt1) (trodAll_cons_mk (Below.trod laidK (by kernel_rfl) (of_decide_eq_true (by kernel_rfl)) k2 bel lt2) trodAll_mk0))), rfl, bel.frame _, fun h => by cases h⟩

theorem over : Rows.taskPlaysRow.holds Try.pinned (OpenSpec.ofChange Rows.taskPlaysSpec) :=
  OpenClaim.holds_of_wide 7 Try.f7 rfl rfl rfl rfl rfl rfl rfl ⟨rfl, rfl, rfl, rfl, rfl⟩ rfl rfl rfl rfl rfl (by kernel_rfl) Try.func7 (by kernel_rfl)
    (of_decide_eq_true (by kernel_rfl)) (by unfold Func.isWrapper; first | (rw [if_pos (by decide +kernel)]; kernel_rfl) | (rw [if_neg (by decide +kernel)]; exact ⟨rfl, rfl⟩))
    (fun os started H enc _ => lifted os started H enc)

/-- The statement. -/
theorem proved : Rows.TaskPlaysSaid := over
#print axioms proved
end Go.Proofs.Ytkmgkggkdmlkeaa.lawTaskPlays
