/-
  No cell of these rows narrows 'for every input' (looked for: loops, veiled, ifaces, maps, wideKeys, modest, calm, conditions, laid).
  DERIVED. THE GIVEN ROWS OF THIS SEAT. 11 by the template 'for every input the law returns true; each argument reads behind the call as it read before'; 0 by the template 'total and deterministic' (their statements: YtamonmhicjejoaaTotals.lean).
  GIVEN WITH THE SEED: the statements are not yours to turn. If you find one false, say at which input.
  Laid BY PROGRAM, IN A SANDBOX (cutbox-rows.mjs): the forced cells as the released guide's own fill.sh prints them over the translation b59b8a36d413cc3f… (all of the seat's roots in one cut). By AI agents, Wed Nov 11 2026. No macro, syntax, notation, axiom, sorry.
-/
import Derived.Test.YtamonmhicjejoaaChecked
import GoSem.Claim
import GoSem.ClaimJoined
import GoSem.ClaimMapViews
import Derived.JoinedTies
import Derived.KernelRfl
namespace Go.Proofs.Ytamonmhicjejoaa
/- THE CELL 'sum', in the pinned program and in every row, IS THE sha256 OF THE DUMP (.gsa) THAT YtamonmhicjejoaaProg.lean LOADS. Nothing in Lean hashes anything: it is a label: what it is worth is what the hold of that sum in a sandbox is worth. -/
noncomputable def Try.pinned : Pinned := { name := "ytamonmhicjejoaa", sum := "b59b8a36d413cc3fab7204fbd8c3d7398ecf7d63c31b6400d6a2d1345c6f2230", checked := Try.checked }
namespace Rows
def none {H : Type} : Left H := { results := [], args := [] }

/-- 'regattalaw05.StepperLong': WHATEVER THE INPUT: true; the input reads as it did. -/
def stepperLongSpec : ChangeSpec := { name := "stepperLong", fn := fun _ => fun
  | [d1, d2] => { results := [.lit (.bool true)], args := [d1, d2] }
  | _ => none }
def stepperLongRow : OpenClaim := { program := "ytamonmhicjejoaa", sum := "b59b8a36d413cc3fab7204fbd8c3d7398ecf7d63c31b6400d6a2d1345c6f2230", func := "regatta/regattalaw05.StepperLong", spec := "stepperLong", apart := false }
def StepperLongSaid : Prop := stepperLongRow.holds Try.pinned (OpenSpec.ofChange stepperLongSpec)

/-- ITS FALSE NEIGHBOUR: 'it returns false'. Refute it at one input. -/
def stepperLongWrong : ChangeSpec := { name := "stepperLong", fn := fun _ => fun
  | [d1, d2] => { results := [.lit (.bool false)], args := [d1, d2] }
  | _ => none }
def StepperLongWrongFalsely : Prop := stepperLongRow.holds Try.pinned (OpenSpec.ofChange stepperLongWrong)

/-- 'regattalaw05.StepperChain': WHATEVER THE INPUT: true; the input reads as it did. -/
def stepperChainSpec : ChangeSpec := { name := "stepperChain", fn := fun _ => fun
  | [d1, d2, d3] => { results := [.lit (.bool true)], args := [d1, d2, d3] }
  | _ => none }
def stepperChainRow : OpenClaim := { program := "ytamonmhicjejoaa", sum := "b59b8a36d413cc3fab7204fbd8c3d7398ecf7d63c31b6400d6a2d1345c6f2230", func := "regatta/regattalaw05.StepperChain", spec := "stepperChain", apart := false }
def StepperChainSaid : Prop := stepperChainRow.holds Try.pinned (OpenSpec.ofChange stepperChainSpec)

/-- ITS FALSE NEIGHBOUR: 'it returns false'. Refute it at one input. -/
def stepperChainWrong : ChangeSpec := { name := "stepperChain", fn := fun _ => fun
  | [d1, d2, d3] => { results := [.lit (.bool false)], args := [d1, d2, d3] }
  | _ => none }
def StepperChainWrongFalsely : Prop := stepperChainRow.holds Try.pinned (OpenSpec.ofChange stepperChainWrong)

/-- 'regattalaw05.StepperTells': WHATEVER THE INPUT: true; the input reads as it did. -/
def stepperTellsSpec : ChangeSpec := { name := "stepperTells", fn := fun _ => fun
  | [d1, d2, d3] => { results := [.lit (.bool true)], args := [d1, d2, d3] }
  | _ => none }
def stepperTellsRow : OpenClaim := { program := "ytamonmhicjejoaa", sum := "b59b8a36d413cc3fab7204fbd8c3d7398ecf7d63c31b6400d6a2d1345c6f2230", func := "regatta/regattalaw05.StepperTells", spec := "stepperTells", apart := false }
def StepperTellsSaid : Prop := stepperTellsRow.holds Try.pinned (OpenSpec.ofChange stepperTellsSpec)

/-- ITS FALSE NEIGHBOUR: 'it returns false'. Refute it at one input. -/
def stepperTellsWrong : ChangeSpec := { name := "stepperTells", fn := fun _ => fun
  | [d1, d2, d3] => { results := [.lit (.bool false)], args := [d1, d2, d3] }
  | _ => none }
def StepperTellsWrongFalsely : Prop := stepperTellsRow.holds Try.pinned (OpenSpec.ofChange stepperTellsWrong)

/-- 'regattalaw05.StepperShift': WHATEVER THE INPUT: true; the input reads as it did. -/
def stepperShiftSpec : ChangeSpec := { name := "stepperShift", fn := fun _ => fun
  | [d1, d2, d3] => { results := [.lit (.bool true)], args := [d1, d2, d3] }
  | _ => none }
def stepperShiftRow : OpenClaim := { program := "ytamonmhicjejoaa", sum := "b59b8a36d413cc3fab7204fbd8c3d7398ecf7d63c31b6400d6a2d1345c6f2230", func := "regatta/regattalaw05.StepperShift", spec := "stepperShift", apart := false }
def StepperShiftSaid : Prop := stepperShiftRow.holds Try.pinned (OpenSpec.ofChange stepperShiftSpec)

/-- ITS FALSE NEIGHBOUR: 'it returns false'. Refute it at one input. -/
def stepperShiftWrong : ChangeSpec := { name := "stepperShift", fn := fun _ => fun
  | [d1, d2, d3] => { results := [.lit (.bool false)], args := [d1, d2, d3] }
  | _ => none }
def StepperShiftWrongFalsely : Prop := stepperShiftRow.holds Try.pinned (OpenSpec.ofChange stepperShiftWrong)

/-- 'regattalaw04.WindowGroups': WHATEVER THE INPUT: true; the input reads as it did. -/
def windowGroupsSpec : ChangeSpec := { name := "windowGroups", fn := fun _ => fun
  | [d1, d2] => { results := [.lit (.bool true)], args := [d1, d2] }
  | _ => none }
def windowGroupsRow : OpenClaim := { program := "ytamonmhicjejoaa", sum := "b59b8a36d413cc3fab7204fbd8c3d7398ecf7d63c31b6400d6a2d1345c6f2230", func := "regatta/regattalaw04.WindowGroups", spec := "windowGroups", unfollowed := true, recurses := true, apart := false }
def WindowGroupsSaid : Prop := windowGroupsRow.holds Try.pinned (OpenSpec.ofChange windowGroupsSpec)

/-- ITS FALSE NEIGHBOUR: 'it returns false'. Refute it at one input. -/
def windowGroupsWrong : ChangeSpec := { name := "windowGroups", fn := fun _ => fun
  | [d1, d2] => { results := [.lit (.bool false)], args := [d1, d2] }
  | _ => none }
def WindowGroupsWrongFalsely : Prop := windowGroupsRow.holds Try.pinned (OpenSpec.ofChange windowGroupsWrong)

/-- 'regattalaw04.WindowLag': WHATEVER THE INPUT: true; the input reads as it did. -/
def windowLagSpec : ChangeSpec := { name := "windowLag", fn := fun _ => fun
  | [d1, d2] => { results := [.lit (.bool true)], args := [d1, d2] }
  | _ => none }
def windowLagRow : OpenClaim := { program := "ytamonmhicjejoaa", sum := "b59b8a36d413cc3fab7204fbd8c3d7398ecf7d63c31b6400d6a2d1345c6f2230", func := "regatta/regattalaw04.WindowLag", spec := "windowLag", unfollowed := true, recurses := true, apart := false }
def WindowLagSaid : Prop := windowLagRow.holds Try.pinned (OpenSpec.ofChange windowLagSpec)

/-- ITS FALSE NEIGHBOUR: 'it returns false'. Refute it at one input. -/
def windowLagWrong : ChangeSpec := { name := "windowLag", fn := fun _ => fun
  | [d1, d2] => { results := [.lit (.bool false)], args := [d1, d2] }
  | _ => none }
def WindowLagWrongFalsely : Prop := windowLagRow.holds Try.pinned (OpenSpec.ofChange windowLagWrong)

/-- 'regattalaw04.WindowRound': WHATEVER THE INPUT: true; the input reads as it did. -/
def windowRoundSpec : ChangeSpec := { name := "windowRound", fn := fun _ => fun
  | [d1, d2] => { results := [.lit (.bool true)], args := [d1, d2] }
  | _ => none }
def windowRoundRow : OpenClaim := { program := "ytamonmhicjejoaa", sum := "b59b8a36d413cc3fab7204fbd8c3d7398ecf7d63c31b6400d6a2d1345c6f2230", func := "regatta/regattalaw04.WindowRound", spec := "windowRound", unfollowed := true, recurses := true, apart := false }
def WindowRoundSaid : Prop := windowRoundRow.holds Try.pinned (OpenSpec.ofChange windowRoundSpec)

/-- ITS FALSE NEIGHBOUR: 'it returns false'. Refute it at one input. -/
def windowRoundWrong : ChangeSpec := { name := "windowRound", fn := fun _ => fun
  | [d1, d2] => { results := [.lit (.bool false)], args := [d1, d2] }
  | _ => none }
def WindowRoundWrongFalsely : Prop := windowRoundRow.holds Try.pinned (OpenSpec.ofChange windowRoundWrong)

/-- 'regattalaw05.StepperCopy': WHATEVER THE INPUT: true; the input reads as it did. -/
def stepperCopySpec : ChangeSpec := { name := "stepperCopy", fn := fun _ => fun
  | [d1, d2, d3] => { results := [.lit (.bool true)], args := [d1, d2, d3] }
  | _ => none }
def stepperCopyRow : OpenClaim := { program := "ytamonmhicjejoaa", sum := "b59b8a36d413cc3fab7204fbd8c3d7398ecf7d63c31b6400d6a2d1345c6f2230", func := "regatta/regattalaw05.StepperCopy", spec := "stepperCopy", apart := false }
def StepperCopySaid : Prop := stepperCopyRow.holds Try.pinned (OpenSpec.ofChange stepperCopySpec)

/-- ITS FALSE NEIGHBOUR: 'it returns false'. Refute it at one input. -/
def stepperCopyWrong : ChangeSpec := { name := "stepperCopy", fn := fun _ => fun
  | [d1, d2, d3] => { results := [.lit (.bool false)], args := [d1, d2, d3] }
  | _ => none }
def StepperCopyWrongFalsely : Prop := stepperCopyRow.holds Try.pinned (OpenSpec.ofChange stepperCopyWrong)

/-- 'regattalaw05.StepperNil': WHATEVER THE INPUT: true; the input reads as it did. -/
def stepperNilSpec : ChangeSpec := { name := "stepperNil", fn := fun _ => fun
  | [d] => { results := [.lit (.bool true)], args := [d] }
  | _ => none }
def stepperNilRow : OpenClaim := { program := "ytamonmhicjejoaa", sum := "b59b8a36d413cc3fab7204fbd8c3d7398ecf7d63c31b6400d6a2d1345c6f2230", func := "regatta/regattalaw05.StepperNil", spec := "stepperNil", apart := false }
def StepperNilSaid : Prop := stepperNilRow.holds Try.pinned (OpenSpec.ofChange stepperNilSpec)

/-- ITS FALSE NEIGHBOUR: 'it returns false'. Refute it at one input. -/
def stepperNilWrong : ChangeSpec := { name := "stepperNil", fn := fun _ => fun
  | [d] => { results := [.lit (.bool false)], args := [d] }
  | _ => none }
def StepperNilWrongFalsely : Prop := stepperNilRow.holds Try.pinned (OpenSpec.ofChange stepperNilWrong)

/-- 'regattalaw04.WindowNext': WHATEVER THE INPUT: true; the input reads as it did. -/
def windowNextSpec : ChangeSpec := { name := "windowNext", fn := fun _ => fun
  | [d1, d2] => { results := [.lit (.bool true)], args := [d1, d2] }
  | _ => none }
def windowNextRow : OpenClaim := { program := "ytamonmhicjejoaa", sum := "b59b8a36d413cc3fab7204fbd8c3d7398ecf7d63c31b6400d6a2d1345c6f2230", func := "regatta/regattalaw04.WindowNext", spec := "windowNext", unfollowed := true, recurses := true, apart := false }
def WindowNextSaid : Prop := windowNextRow.holds Try.pinned (OpenSpec.ofChange windowNextSpec)

/-- ITS FALSE NEIGHBOUR: 'it returns false'. Refute it at one input. -/
def windowNextWrong : ChangeSpec := { name := "windowNext", fn := fun _ => fun
  | [d1, d2] => { results := [.lit (.bool false)], args := [d1, d2] }
  | _ => none }
def WindowNextWrongFalsely : Prop := windowNextRow.holds Try.pinned (OpenSpec.ofChange windowNextWrong)

/-- 'regattalaw04.WindowShort': WHATEVER THE INPUT: true; the input reads as it did. -/
def windowShortSpec : ChangeSpec := { name := "windowShort", fn := fun _ => fun
  | [d1, d2] => { results := [.lit (.bool true)], args := [d1, d2] }
  | _ => none }
def windowShortRow : OpenClaim := { program := "ytamonmhicjejoaa", sum := "b59b8a36d413cc3fab7204fbd8c3d7398ecf7d63c31b6400d6a2d1345c6f2230", func := "regatta/regattalaw04.WindowShort", spec := "windowShort", unfollowed := true, recurses := true, apart := false }
def WindowShortSaid : Prop := windowShortRow.holds Try.pinned (OpenSpec.ofChange windowShortSpec)

/-- ITS FALSE NEIGHBOUR: 'it returns false'. Refute it at one input. -/
def windowShortWrong : ChangeSpec := { name := "windowShort", fn := fun _ => fun
  | [d1, d2] => { results := [.lit (.bool false)], args := [d1, d2] }
  | _ => none }
def WindowShortWrongFalsely : Prop := windowShortRow.holds Try.pinned (OpenSpec.ofChange windowShortWrong)

/- THE SECOND FORM. 'bulk': how many values and letters a reading holds, each counted each time it is reached (what is shared counts as often as it is met; a slice's spare places count too). A statement '..UptoSaid' is the law's where the arguments, and the package variables that the reading takes, are together of bulk at most 1048576: NARROWER than '..Said'. Prove '..Said' where nothing that the law and all that it calls make is longer than what came in: it says more and counts as full. Else prove '..UptoSaid'. A law counts once. -/
mutual
def uptoBulk {H : Type} : DataW H → Nat
  | .lit (.string bytes) => bytes.length + 1
  | .lit _ => 1
  | .nil => 1
  | .ptr d => uptoBulk d + 1
  | .slice elems spare => uptoBulkAll elems + uptoBulkAll spare + 1
  | .agg parts => uptoBulkAll parts + 1
  | .iface _ d => uptoBulk d + 1
  | .map entries => uptoBulkEntries entries + 1
  | .held _ => 1
def uptoBulkAll {H : Type} : List (DataW H) → Nat
  | [] => 0
  | d :: r => uptoBulk d + uptoBulkAll r
def uptoBulkEntries {H : Type} : List (Lit × DataW H) → Nat
  | [] => 0
  | x :: r => uptoBulkEntry x + uptoBulkEntries r
def uptoBulkEntry {H : Type} : Lit × DataW H → Nat
  | (.string bytes, d) => bytes.length + uptoBulk d + 1
  | (_, d) => uptoBulk d + 1
 end
def uptoSmall : (H : Type) → List (DataW H) → Bool := fun _ ds => decide (uptoBulkAll ds ≤ 1048576)
def OpenSpec.upto (s : _root_.Go.ChangeSpec) : _root_.Go.OpenSpec := { _root_.Go.OpenSpec.ofChange s with cond := some uptoSmall }

/-- 'regattalaw05.StepperLong', WHERE WHAT IT READS IS OF BULK AT MOST 1048576: true; the input reads as it did. -/
def stepperLongUptoRow : OpenClaim := { program := "ytamonmhicjejoaa", sum := "b59b8a36d413cc3fab7204fbd8c3d7398ecf7d63c31b6400d6a2d1345c6f2230", func := "regatta/regattalaw05.StepperLong", spec := "stepperLong", apart := false, narrowed := true }
def StepperLongUptoSaid : Prop := stepperLongUptoRow.holds Try.pinned (OpenSpec.upto stepperLongSpec)

/-- 'regattalaw05.StepperChain', WHERE WHAT IT READS IS OF BULK AT MOST 1048576: true; the input reads as it did. -/
def stepperChainUptoRow : OpenClaim := { program := "ytamonmhicjejoaa", sum := "b59b8a36d413cc3fab7204fbd8c3d7398ecf7d63c31b6400d6a2d1345c6f2230", func := "regatta/regattalaw05.StepperChain", spec := "stepperChain", apart := false, narrowed := true }
def StepperChainUptoSaid : Prop := stepperChainUptoRow.holds Try.pinned (OpenSpec.upto stepperChainSpec)

/-- 'regattalaw05.StepperTells', WHERE WHAT IT READS IS OF BULK AT MOST 1048576: true; the input reads as it did. -/
def stepperTellsUptoRow : OpenClaim := { program := "ytamonmhicjejoaa", sum := "b59b8a36d413cc3fab7204fbd8c3d7398ecf7d63c31b6400d6a2d1345c6f2230", func := "regatta/regattalaw05.StepperTells", spec := "stepperTells", apart := false, narrowed := true }
def StepperTellsUptoSaid : Prop := stepperTellsUptoRow.holds Try.pinned (OpenSpec.upto stepperTellsSpec)

/-- 'regattalaw05.StepperShift', WHERE WHAT IT READS IS OF BULK AT MOST 1048576: true; the input reads as it did. -/
def stepperShiftUptoRow : OpenClaim := { program := "ytamonmhicjejoaa", sum := "b59b8a36d413cc3fab7204fbd8c3d7398ecf7d63c31b6400d6a2d1345c6f2230", func := "regatta/regattalaw05.StepperShift", spec := "stepperShift", apart := false, narrowed := true }
def StepperShiftUptoSaid : Prop := stepperShiftUptoRow.holds Try.pinned (OpenSpec.upto stepperShiftSpec)

/-- 'regattalaw04.WindowGroups', WHERE WHAT IT READS IS OF BULK AT MOST 1048576: true; the input reads as it did. -/
def windowGroupsUptoRow : OpenClaim := { program := "ytamonmhicjejoaa", sum := "b59b8a36d413cc3fab7204fbd8c3d7398ecf7d63c31b6400d6a2d1345c6f2230", func := "regatta/regattalaw04.WindowGroups", spec := "windowGroups", unfollowed := true, recurses := true, apart := false, narrowed := true }
def WindowGroupsUptoSaid : Prop := windowGroupsUptoRow.holds Try.pinned (OpenSpec.upto windowGroupsSpec)

/-- 'regattalaw04.WindowLag', WHERE WHAT IT READS IS OF BULK AT MOST 1048576: true; the input reads as it did. -/
def windowLagUptoRow : OpenClaim := { program := "ytamonmhicjejoaa", sum := "b59b8a36d413cc3fab7204fbd8c3d7398ecf7d63c31b6400d6a2d1345c6f2230", func := "regatta/regattalaw04.WindowLag", spec := "windowLag", unfollowed := true, recurses := true, apart := false, narrowed := true }
def WindowLagUptoSaid : Prop := windowLagUptoRow.holds Try.pinned (OpenSpec.upto windowLagSpec)

/-- 'regattalaw04.WindowRound', WHERE WHAT IT READS IS OF BULK AT MOST 1048576: true; the input reads as it did. -/
def windowRoundUptoRow : OpenClaim := { program := "ytamonmhicjejoaa", sum := "b59b8a36d413cc3fab7204fbd8c3d7398ecf7d63c31b6400d6a2d1345c6f2230", func := "regatta/regattalaw04.WindowRound", spec := "windowRound", unfollowed := true, recurses := true, apart := false, narrowed := true }
def WindowRoundUptoSaid : Prop := windowRoundUptoRow.holds Try.pinned (OpenSpec.upto windowRoundSpec)

/-- 'regattalaw05.StepperCopy', WHERE WHAT IT READS IS OF BULK AT MOST 1048576: true; the input reads as it did. -/
def stepperCopyUptoRow : OpenClaim := { program := "ytamonmhicjejoaa", sum := "b59b8a36d413cc3fab7204fbd8c3d7398ecf7d63c31b6400d6a2d1345c6f2230", func := "regatta/regattalaw05.StepperCopy", spec := "stepperCopy", apart := false, narrowed := true }
def StepperCopyUptoSaid : Prop := stepperCopyUptoRow.holds Try.pinned (OpenSpec.upto stepperCopySpec)

/-- 'regattalaw05.StepperNil', WHERE WHAT IT READS IS OF BULK AT MOST 1048576: true; the input reads as it did. -/
def stepperNilUptoRow : OpenClaim := { program := "ytamonmhicjejoaa", sum := "b59b8a36d413cc3fab7204fbd8c3d7398ecf7d63c31b6400d6a2d1345c6f2230", func := "regatta/regattalaw05.StepperNil", spec := "stepperNil", apart := false, narrowed := true }
def StepperNilUptoSaid : Prop := stepperNilUptoRow.holds Try.pinned (OpenSpec.upto stepperNilSpec)

/-- 'regattalaw04.WindowNext', WHERE WHAT IT READS IS OF BULK AT MOST 1048576: true; the input reads as it did. -/
def windowNextUptoRow : OpenClaim := { program := "ytamonmhicjejoaa", sum := "b59b8a36d413cc3fab7204fbd8c3d7398ecf7d63c31b6400d6a2d1345c6f2230", func := "regatta/regattalaw04.WindowNext", spec := "windowNext", unfollowed := true, recurses := true, apart := false, narrowed := true }
def WindowNextUptoSaid : Prop := windowNextUptoRow.holds Try.pinned (OpenSpec.upto windowNextSpec)

/-- 'regattalaw04.WindowShort', WHERE WHAT IT READS IS OF BULK AT MOST 1048576: true; the input reads as it did. -/
def windowShortUptoRow : OpenClaim := { program := "ytamonmhicjejoaa", sum := "b59b8a36d413cc3fab7204fbd8c3d7398ecf7d63c31b6400d6a2d1345c6f2230", func := "regatta/regattalaw04.WindowShort", spec := "windowShort", unfollowed := true, recurses := true, apart := false, narrowed := true }
def WindowShortUptoSaid : Prop := windowShortUptoRow.holds Try.pinned (OpenSpec.upto windowShortSpec)

end Rows
end Go.Proofs.Ytamonmhicjejoaa
