/-
  No cell of these rows narrows 'for every input' (looked for: loops, veiled, ifaces, maps, wideKeys, modest, calm, conditions, laid).
  DERIVED. THE GIVEN ROWS OF THIS SEAT. 12 by the template 'for every input the law returns true; each argument reads behind the call as it read before'; 0 by the template 'total and deterministic' (their statements: YtpmenmcigflkdaaTotals.lean).
  GIVEN WITH THE SEED: the statements are not yours to turn. If you find one false, say at which input.
  Laid BY PROGRAM, IN A SANDBOX (cutbox-rows.mjs): the forced cells as the released guide's own fill.sh prints them over the translation 19f90d4bb5ab5842… (all of the seat's roots in one cut). By AI agents, Wed Nov 11 2026. No macro, syntax, notation, axiom, sorry.
-/
import Derived.Test.YtpmenmcigflkdaaChecked
import GoSem.Claim
import GoSem.ClaimJoined
import GoSem.ClaimMapViews
import Derived.JoinedTies
import Derived.KernelRfl
namespace Go.Proofs.Ytpmenmcigflkdaa
/- THE CELL 'sum', in the pinned program and in every row, IS THE sha256 OF THE DUMP (.gsa) THAT YtpmenmcigflkdaaProg.lean LOADS. Nothing in Lean hashes anything: it is a label: what it is worth is what the hold of that sum in a sandbox is worth. -/
noncomputable def Try.pinned : Pinned := { name := "ytpmenmcigflkdaa", sum := "19f90d4bb5ab5842210c31f7873d74a8162283dcddff33fc3d685a8e19b921d7", checked := Try.checked }
namespace Rows
def none {H : Type} : Left H := { results := [], args := [] }

/-- 'regattalaw01.ExactParts': WHATEVER THE INPUT: true; the input reads as it did. -/
def exactPartsSpec : ChangeSpec := { name := "exactParts", fn := fun _ => fun
  | [d1, d2, d3] => { results := [.lit (.bool true)], args := [d1, d2, d3] }
  | _ => none }
def exactPartsRow : OpenClaim := { program := "ytpmenmcigflkdaa", sum := "19f90d4bb5ab5842210c31f7873d74a8162283dcddff33fc3d685a8e19b921d7", func := "regatta/regattalaw01.ExactParts", spec := "exactParts", recurses := true, apart := false }
def ExactPartsSaid : Prop := exactPartsRow.holds Try.pinned (OpenSpec.ofChange exactPartsSpec)

/-- ITS FALSE NEIGHBOUR: 'it returns false'. Refute it at one input. -/
def exactPartsWrong : ChangeSpec := { name := "exactParts", fn := fun _ => fun
  | [d1, d2, d3] => { results := [.lit (.bool false)], args := [d1, d2, d3] }
  | _ => none }
def ExactPartsWrongFalsely : Prop := exactPartsRow.holds Try.pinned (OpenSpec.ofChange exactPartsWrong)

/-- 'regattalaw01.ExactBetween': WHATEVER THE INPUT: true; the input reads as it did. -/
def exactBetweenSpec : ChangeSpec := { name := "exactBetween", fn := fun _ => fun
  | [d1, d2] => { results := [.lit (.bool true)], args := [d1, d2] }
  | _ => none }
def exactBetweenRow : OpenClaim := { program := "ytpmenmcigflkdaa", sum := "19f90d4bb5ab5842210c31f7873d74a8162283dcddff33fc3d685a8e19b921d7", func := "regatta/regattalaw01.ExactBetween", spec := "exactBetween", apart := false }
def ExactBetweenSaid : Prop := exactBetweenRow.holds Try.pinned (OpenSpec.ofChange exactBetweenSpec)

/-- ITS FALSE NEIGHBOUR: 'it returns false'. Refute it at one input. -/
def exactBetweenWrong : ChangeSpec := { name := "exactBetween", fn := fun _ => fun
  | [d1, d2] => { results := [.lit (.bool false)], args := [d1, d2] }
  | _ => none }
def ExactBetweenWrongFalsely : Prop := exactBetweenRow.holds Try.pinned (OpenSpec.ofChange exactBetweenWrong)

/-- 'regattalaw01.ExactCommon': WHATEVER THE INPUT: true; the input reads as it did. -/
def exactCommonSpec : ChangeSpec := { name := "exactCommon", fn := fun _ => fun
  | [d1, d2] => { results := [.lit (.bool true)], args := [d1, d2] }
  | _ => none }
def exactCommonRow : OpenClaim := { program := "ytpmenmcigflkdaa", sum := "19f90d4bb5ab5842210c31f7873d74a8162283dcddff33fc3d685a8e19b921d7", func := "regatta/regattalaw01.ExactCommon", spec := "exactCommon", apart := false }
def ExactCommonSaid : Prop := exactCommonRow.holds Try.pinned (OpenSpec.ofChange exactCommonSpec)

/-- ITS FALSE NEIGHBOUR: 'it returns false'. Refute it at one input. -/
def exactCommonWrong : ChangeSpec := { name := "exactCommon", fn := fun _ => fun
  | [d1, d2] => { results := [.lit (.bool false)], args := [d1, d2] }
  | _ => none }
def ExactCommonWrongFalsely : Prop := exactCommonRow.holds Try.pinned (OpenSpec.ofChange exactCommonWrong)

/-- 'regattalaw01.ExactRow': WHATEVER THE INPUT: true; the input reads as it did. -/
def exactRowSpec : ChangeSpec := { name := "exactRow", fn := fun _ => fun
  | [d] => { results := [.lit (.bool true)], args := [d] }
  | _ => none }
def exactRowRow : OpenClaim := { program := "ytpmenmcigflkdaa", sum := "19f90d4bb5ab5842210c31f7873d74a8162283dcddff33fc3d685a8e19b921d7", func := "regatta/regattalaw01.ExactRow", spec := "exactRow", apart := false }
def ExactRowSaid : Prop := exactRowRow.holds Try.pinned (OpenSpec.ofChange exactRowSpec)

/-- ITS FALSE NEIGHBOUR: 'it returns false'. Refute it at one input. -/
def exactRowWrong : ChangeSpec := { name := "exactRow", fn := fun _ => fun
  | [d] => { results := [.lit (.bool false)], args := [d] }
  | _ => none }
def ExactRowWrongFalsely : Prop := exactRowRow.holds Try.pinned (OpenSpec.ofChange exactRowWrong)

/-- 'regattalaw09.FluidBounds': WHATEVER THE INPUT: true; the input reads as it did. -/
def fluidBoundsSpec : ChangeSpec := { name := "fluidBounds", fn := fun _ => fun
  | [d1, d2, d3] => { results := [.lit (.bool true)], args := [d1, d2, d3] }
  | _ => none }
def fluidBoundsRow : OpenClaim := { program := "ytpmenmcigflkdaa", sum := "19f90d4bb5ab5842210c31f7873d74a8162283dcddff33fc3d685a8e19b921d7", func := "regatta/regattalaw09.FluidBounds", spec := "fluidBounds", unfollowed := true, recurses := true, apart := false }
def FluidBoundsSaid : Prop := fluidBoundsRow.holds Try.pinned (OpenSpec.ofChange fluidBoundsSpec)

/-- ITS FALSE NEIGHBOUR: 'it returns false'. Refute it at one input. -/
def fluidBoundsWrong : ChangeSpec := { name := "fluidBounds", fn := fun _ => fun
  | [d1, d2, d3] => { results := [.lit (.bool false)], args := [d1, d2, d3] }
  | _ => none }
def FluidBoundsWrongFalsely : Prop := fluidBoundsRow.holds Try.pinned (OpenSpec.ofChange fluidBoundsWrong)

/-- 'regattalaw09.FluidWindows': WHATEVER THE INPUT: true; the input reads as it did. -/
def fluidWindowsSpec : ChangeSpec := { name := "fluidWindows", fn := fun _ => fun
  | [d1, d2] => { results := [.lit (.bool true)], args := [d1, d2] }
  | _ => none }
def fluidWindowsRow : OpenClaim := { program := "ytpmenmcigflkdaa", sum := "19f90d4bb5ab5842210c31f7873d74a8162283dcddff33fc3d685a8e19b921d7", func := "regatta/regattalaw09.FluidWindows", spec := "fluidWindows", unfollowed := true, recurses := true, apart := false }
def FluidWindowsSaid : Prop := fluidWindowsRow.holds Try.pinned (OpenSpec.ofChange fluidWindowsSpec)

/-- ITS FALSE NEIGHBOUR: 'it returns false'. Refute it at one input. -/
def fluidWindowsWrong : ChangeSpec := { name := "fluidWindows", fn := fun _ => fun
  | [d1, d2] => { results := [.lit (.bool false)], args := [d1, d2] }
  | _ => none }
def FluidWindowsWrongFalsely : Prop := fluidWindowsRow.holds Try.pinned (OpenSpec.ofChange fluidWindowsWrong)

/-- 'regattalaw09.FluidLag': WHATEVER THE INPUT: true; the input reads as it did. -/
def fluidLagSpec : ChangeSpec := { name := "fluidLag", fn := fun _ => fun
  | [d1, d2] => { results := [.lit (.bool true)], args := [d1, d2] }
  | _ => none }
def fluidLagRow : OpenClaim := { program := "ytpmenmcigflkdaa", sum := "19f90d4bb5ab5842210c31f7873d74a8162283dcddff33fc3d685a8e19b921d7", func := "regatta/regattalaw09.FluidLag", spec := "fluidLag", unfollowed := true, recurses := true, apart := false }
def FluidLagSaid : Prop := fluidLagRow.holds Try.pinned (OpenSpec.ofChange fluidLagSpec)

/-- ITS FALSE NEIGHBOUR: 'it returns false'. Refute it at one input. -/
def fluidLagWrong : ChangeSpec := { name := "fluidLag", fn := fun _ => fun
  | [d1, d2] => { results := [.lit (.bool false)], args := [d1, d2] }
  | _ => none }
def FluidLagWrongFalsely : Prop := fluidLagRow.holds Try.pinned (OpenSpec.ofChange fluidLagWrong)

/-- 'regattalaw09.FluidDue': WHATEVER THE INPUT: true; the input reads as it did. -/
def fluidDueSpec : ChangeSpec := { name := "fluidDue", fn := fun _ => fun
  | [d1, d2] => { results := [.lit (.bool true)], args := [d1, d2] }
  | _ => none }
def fluidDueRow : OpenClaim := { program := "ytpmenmcigflkdaa", sum := "19f90d4bb5ab5842210c31f7873d74a8162283dcddff33fc3d685a8e19b921d7", func := "regatta/regattalaw09.FluidDue", spec := "fluidDue", unfollowed := true, recurses := true, apart := false }
def FluidDueSaid : Prop := fluidDueRow.holds Try.pinned (OpenSpec.ofChange fluidDueSpec)

/-- ITS FALSE NEIGHBOUR: 'it returns false'. Refute it at one input. -/
def fluidDueWrong : ChangeSpec := { name := "fluidDue", fn := fun _ => fun
  | [d1, d2] => { results := [.lit (.bool false)], args := [d1, d2] }
  | _ => none }
def FluidDueWrongFalsely : Prop := fluidDueRow.holds Try.pinned (OpenSpec.ofChange fluidDueWrong)

/-- 'regattalaw01.ExactSums': WHATEVER THE INPUT: true; the input reads as it did. -/
def exactSumsSpec : ChangeSpec := { name := "exactSums", fn := fun _ => fun
  | [d1, d2] => { results := [.lit (.bool true)], args := [d1, d2] }
  | _ => none }
def exactSumsRow : OpenClaim := { program := "ytpmenmcigflkdaa", sum := "19f90d4bb5ab5842210c31f7873d74a8162283dcddff33fc3d685a8e19b921d7", func := "regatta/regattalaw01.ExactSums", spec := "exactSums", apart := false }
def ExactSumsSaid : Prop := exactSumsRow.holds Try.pinned (OpenSpec.ofChange exactSumsSpec)

/-- ITS FALSE NEIGHBOUR: 'it returns false'. Refute it at one input. -/
def exactSumsWrong : ChangeSpec := { name := "exactSums", fn := fun _ => fun
  | [d1, d2] => { results := [.lit (.bool false)], args := [d1, d2] }
  | _ => none }
def ExactSumsWrongFalsely : Prop := exactSumsRow.holds Try.pinned (OpenSpec.ofChange exactSumsWrong)

/-- 'regattalaw01.ExactBack': WHATEVER THE INPUT: true; the input reads as it did. -/
def exactBackSpec : ChangeSpec := { name := "exactBack", fn := fun _ => fun
  | [d1, d2] => { results := [.lit (.bool true)], args := [d1, d2] }
  | _ => none }
def exactBackRow : OpenClaim := { program := "ytpmenmcigflkdaa", sum := "19f90d4bb5ab5842210c31f7873d74a8162283dcddff33fc3d685a8e19b921d7", func := "regatta/regattalaw01.ExactBack", spec := "exactBack", apart := false }
def ExactBackSaid : Prop := exactBackRow.holds Try.pinned (OpenSpec.ofChange exactBackSpec)

/-- ITS FALSE NEIGHBOUR: 'it returns false'. Refute it at one input. -/
def exactBackWrong : ChangeSpec := { name := "exactBack", fn := fun _ => fun
  | [d1, d2] => { results := [.lit (.bool false)], args := [d1, d2] }
  | _ => none }
def ExactBackWrongFalsely : Prop := exactBackRow.holds Try.pinned (OpenSpec.ofChange exactBackWrong)

/-- 'regattalaw09.FluidFollows': WHATEVER THE INPUT: true; the input reads as it did. -/
def fluidFollowsSpec : ChangeSpec := { name := "fluidFollows", fn := fun _ => fun
  | [d1, d2, d3] => { results := [.lit (.bool true)], args := [d1, d2, d3] }
  | _ => none }
def fluidFollowsRow : OpenClaim := { program := "ytpmenmcigflkdaa", sum := "19f90d4bb5ab5842210c31f7873d74a8162283dcddff33fc3d685a8e19b921d7", func := "regatta/regattalaw09.FluidFollows", spec := "fluidFollows", unfollowed := true, recurses := true, apart := false }
def FluidFollowsSaid : Prop := fluidFollowsRow.holds Try.pinned (OpenSpec.ofChange fluidFollowsSpec)

/-- ITS FALSE NEIGHBOUR: 'it returns false'. Refute it at one input. -/
def fluidFollowsWrong : ChangeSpec := { name := "fluidFollows", fn := fun _ => fun
  | [d1, d2, d3] => { results := [.lit (.bool false)], args := [d1, d2, d3] }
  | _ => none }
def FluidFollowsWrongFalsely : Prop := fluidFollowsRow.holds Try.pinned (OpenSpec.ofChange fluidFollowsWrong)

/-- 'regattalaw09.FluidTells': WHATEVER THE INPUT: true; the input reads as it did. -/
def fluidTellsSpec : ChangeSpec := { name := "fluidTells", fn := fun _ => fun
  | [d1, d2, d3] => { results := [.lit (.bool true)], args := [d1, d2, d3] }
  | _ => none }
def fluidTellsRow : OpenClaim := { program := "ytpmenmcigflkdaa", sum := "19f90d4bb5ab5842210c31f7873d74a8162283dcddff33fc3d685a8e19b921d7", func := "regatta/regattalaw09.FluidTells", spec := "fluidTells", unfollowed := true, recurses := true, apart := false }
def FluidTellsSaid : Prop := fluidTellsRow.holds Try.pinned (OpenSpec.ofChange fluidTellsSpec)

/-- ITS FALSE NEIGHBOUR: 'it returns false'. Refute it at one input. -/
def fluidTellsWrong : ChangeSpec := { name := "fluidTells", fn := fun _ => fun
  | [d1, d2, d3] => { results := [.lit (.bool false)], args := [d1, d2, d3] }
  | _ => none }
def FluidTellsWrongFalsely : Prop := fluidTellsRow.holds Try.pinned (OpenSpec.ofChange fluidTellsWrong)

/- THE SECOND FORM. 'bulk': how many values and letters a reading holds, each counted each time it is reached (what is shared counts as often as it is met; a slice's spare places count too). A statement '..UptoSaid' is the law's where the arguments, and the package variables that the reading takes, are together of bulk at most 1048576: NARROWER than '..Said'. Prove '..Said' where nothing that the law and all that it calls make is longer than what came in: it says more and counts as full. Else prove '..UptoSaid'. A law counts once. -/
mutual
def uptoBulk {H : Type} : DataW H → Nat
  | .lit (.string bytes) => bytes.length + 1
  | .lit _ => 1
  | .nil => 1
  | .ptr d => uptoBulk d + 1
  | .slice elems spare => uptoBulkAll elems + uptoBulkAll spare + 1
  | .agg parts => uptoBulkAll parts + 1
  | .iface _ d => uptoBulk d + 1
  | .map entries => uptoBulkEntries entries + 1
  | .held _ => 1
def uptoBulkAll {H : Type} : List (DataW H) → Nat
  | [] => 0
  | d :: r => uptoBulk d + uptoBulkAll r
def uptoBulkEntries {H : Type} : List (Lit × DataW H) → Nat
  | [] => 0
  | x :: r => uptoBulkEntry x + uptoBulkEntries r
def uptoBulkEntry {H : Type} : Lit × DataW H → Nat
  | (.string bytes, d) => bytes.length + uptoBulk d + 1
  | (_, d) => uptoBulk d + 1
 end
def uptoSmall : (H : Type) → List (DataW H) → Bool := fun _ ds => decide (uptoBulkAll ds ≤ 1048576)
def OpenSpec.upto (s : _root_.Go.ChangeSpec) : _root_.Go.OpenSpec := { _root_.Go.OpenSpec.ofChange s with cond := some uptoSmall }

/-- 'regattalaw01.ExactParts', WHERE WHAT IT READS IS OF BULK AT MOST 1048576: true; the input reads as it did. -/
def exactPartsUptoRow : OpenClaim := { program := "ytpmenmcigflkdaa", sum := "19f90d4bb5ab5842210c31f7873d74a8162283dcddff33fc3d685a8e19b921d7", func := "regatta/regattalaw01.ExactParts", spec := "exactParts", recurses := true, apart := false, narrowed := true }
def ExactPartsUptoSaid : Prop := exactPartsUptoRow.holds Try.pinned (OpenSpec.upto exactPartsSpec)

/-- 'regattalaw01.ExactBetween', WHERE WHAT IT READS IS OF BULK AT MOST 1048576: true; the input reads as it did. -/
def exactBetweenUptoRow : OpenClaim := { program := "ytpmenmcigflkdaa", sum := "19f90d4bb5ab5842210c31f7873d74a8162283dcddff33fc3d685a8e19b921d7", func := "regatta/regattalaw01.ExactBetween", spec := "exactBetween", apart := false, narrowed := true }
def ExactBetweenUptoSaid : Prop := exactBetweenUptoRow.holds Try.pinned (OpenSpec.upto exactBetweenSpec)

/-- 'regattalaw01.ExactCommon', WHERE WHAT IT READS IS OF BULK AT MOST 1048576: true; the input reads as it did. -/
def exactCommonUptoRow : OpenClaim := { program := "ytpmenmcigflkdaa", sum := "19f90d4bb5ab5842210c31f7873d74a8162283dcddff33fc3d685a8e19b921d7", func := "regatta/regattalaw01.ExactCommon", spec := "exactCommon", apart := false, narrowed := true }
def ExactCommonUptoSaid : Prop := exactCommonUptoRow.holds Try.pinned (OpenSpec.upto exactCommonSpec)

/-- 'regattalaw01.ExactRow', WHERE WHAT IT READS IS OF BULK AT MOST 1048576: true; the input reads as it did. -/
def exactRowUptoRow : OpenClaim := { program := "ytpmenmcigflkdaa", sum := "19f90d4bb5ab5842210c31f7873d74a8162283dcddff33fc3d685a8e19b921d7", func := "regatta/regattalaw01.ExactRow", spec := "exactRow", apart := false, narrowed := true }
def ExactRowUptoSaid : Prop := exactRowUptoRow.holds Try.pinned (OpenSpec.upto exactRowSpec)

/-- 'regattalaw09.FluidBounds', WHERE WHAT IT READS IS OF BULK AT MOST 1048576: true; the input reads as it did. -/
def fluidBoundsUptoRow : OpenClaim := { program := "ytpmenmcigflkdaa", sum := "19f90d4bb5ab5842210c31f7873d74a8162283dcddff33fc3d685a8e19b921d7", func := "regatta/regattalaw09.FluidBounds", spec := "fluidBounds", unfollowed := true, recurses := true, apart := false, narrowed := true }
def FluidBoundsUptoSaid : Prop := fluidBoundsUptoRow.holds Try.pinned (OpenSpec.upto fluidBoundsSpec)

/-- 'regattalaw09.FluidWindows', WHERE WHAT IT READS IS OF BULK AT MOST 1048576: true; the input reads as it did. -/
def fluidWindowsUptoRow : OpenClaim := { program := "ytpmenmcigflkdaa", sum := "19f90d4bb5ab5842210c31f7873d74a8162283dcddff33fc3d685a8e19b921d7", func := "regatta/regattalaw09.FluidWindows", spec := "fluidWindows", unfollowed := true, recurses := true, apart := false, narrowed := true }
def FluidWindowsUptoSaid : Prop := fluidWindowsUptoRow.holds Try.pinned (OpenSpec.upto fluidWindowsSpec)

/-- 'regattalaw09.FluidLag', WHERE WHAT IT READS IS OF BULK AT MOST 1048576: true; the input reads as it did. -/
def fluidLagUptoRow : OpenClaim := { program := "ytpmenmcigflkdaa", sum := "19f90d4bb5ab5842210c31f7873d74a8162283dcddff33fc3d685a8e19b921d7", func := "regatta/regattalaw09.FluidLag", spec := "fluidLag", unfollowed := true, recurses := true, apart := false, narrowed := true }
def FluidLagUptoSaid : Prop := fluidLagUptoRow.holds Try.pinned (OpenSpec.upto fluidLagSpec)

/-- 'regattalaw09.FluidDue', WHERE WHAT IT READS IS OF BULK AT MOST 1048576: true; the input reads as it did. -/
def fluidDueUptoRow : OpenClaim := { program := "ytpmenmcigflkdaa", sum := "19f90d4bb5ab5842210c31f7873d74a8162283dcddff33fc3d685a8e19b921d7", func := "regatta/regattalaw09.FluidDue", spec := "fluidDue", unfollowed := true, recurses := true, apart := false, narrowed := true }
def FluidDueUptoSaid : Prop := fluidDueUptoRow.holds Try.pinned (OpenSpec.upto fluidDueSpec)

/-- 'regattalaw01.ExactSums', WHERE WHAT IT READS IS OF BULK AT MOST 1048576: true; the input reads as it did. -/
def exactSumsUptoRow : OpenClaim := { program := "ytpmenmcigflkdaa", sum := "19f90d4bb5ab5842210c31f7873d74a8162283dcddff33fc3d685a8e19b921d7", func := "regatta/regattalaw01.ExactSums", spec := "exactSums", apart := false, narrowed := true }
def ExactSumsUptoSaid : Prop := exactSumsUptoRow.holds Try.pinned (OpenSpec.upto exactSumsSpec)

/-- 'regattalaw01.ExactBack', WHERE WHAT IT READS IS OF BULK AT MOST 1048576: true; the input reads as it did. -/
def exactBackUptoRow : OpenClaim := { program := "ytpmenmcigflkdaa", sum := "19f90d4bb5ab5842210c31f7873d74a8162283dcddff33fc3d685a8e19b921d7", func := "regatta/regattalaw01.ExactBack", spec := "exactBack", apart := false, narrowed := true }
def ExactBackUptoSaid : Prop := exactBackUptoRow.holds Try.pinned (OpenSpec.upto exactBackSpec)

/-- 'regattalaw09.FluidFollows', WHERE WHAT IT READS IS OF BULK AT MOST 1048576: true; the input reads as it did. -/
def fluidFollowsUptoRow : OpenClaim := { program := "ytpmenmcigflkdaa", sum := "19f90d4bb5ab5842210c31f7873d74a8162283dcddff33fc3d685a8e19b921d7", func := "regatta/regattalaw09.FluidFollows", spec := "fluidFollows", unfollowed := true, recurses := true, apart := false, narrowed := true }
def FluidFollowsUptoSaid : Prop := fluidFollowsUptoRow.holds Try.pinned (OpenSpec.upto fluidFollowsSpec)

/-- 'regattalaw09.FluidTells', WHERE WHAT IT READS IS OF BULK AT MOST 1048576: true; the input reads as it did. -/
def fluidTellsUptoRow : OpenClaim := { program := "ytpmenmcigflkdaa", sum := "19f90d4bb5ab5842210c31f7873d74a8162283dcddff33fc3d685a8e19b921d7", func := "regatta/regattalaw09.FluidTells", spec := "fluidTells", unfollowed := true, recurses := true, apart := false, narrowed := true }
def FluidTellsUptoSaid : Prop := fluidTellsUptoRow.holds Try.pinned (OpenSpec.upto fluidTellsSpec)

end Rows
end Go.Proofs.Ytpmenmcigflkdaa
