/-
  No cell of these rows narrows 'for every input' (looked for: loops, veiled, ifaces, maps, wideKeys, modest, calm, conditions, laid).
  DERIVED. THE GIVEN ROWS OF THIS SEAT. 7 by the template 'for every input the law returns true; each argument reads behind the call as it read before'; 0 by the template 'total and deterministic' (their statements: YtajeeghgiilhiaaGreatTotals.lean).
  GIVEN WITH THE SEED: the statements are not yours to turn. If you find one false, say at which input.
  Laid BY PROGRAM, IN A SANDBOX (cutbox-rows.mjs): the forced cells as the released guide's own fill.sh prints them over the translation e24aeb4496e451b6… (all of the seat's roots in one cut). By AI agents, Wed Nov 11 2026. No macro, syntax, notation, axiom, sorry.
-/
import Derived.Test.YtajeeghgiilhiaaGreatChecked
import GoSem.Claim
import GoSem.ClaimJoined
import GoSem.ClaimMapViews
import Derived.JoinedTies
import Derived.KernelRfl
namespace Go.Proofs.YtajeeghgiilhiaaGreat
/- THE CELL 'sum', in the pinned program and in every row, IS THE sha256 OF THE DUMP (.gsa) THAT YtajeeghgiilhiaaGreatProg.lean LOADS. Nothing in Lean hashes anything: it is a label: what it is worth is what the hold of that sum in a sandbox is worth. -/
noncomputable def Tryz.pinned : Pinned := { name := "ytajeeghgiilhiaagreat", sum := "e24aeb4496e451b672ef38c93e4e529e20a59624ab10113809d2fab789a6a363", checked := Tryz.checked }
namespace Rows
def none {H : Type} : Left H := { results := [], args := [] }

/-- 'checkrolllaw25.RollRight': WHATEVER THE INPUT: true; the input reads as it did. -/
def rollRightSpec : ChangeSpec := { name := "rollRight", fn := fun _ => fun
  | [d1, d2, d3, d4, d5] => { results := [.lit (.bool true)], args := [d1, d2, d3, d4, d5] }
  | _ => none }
def rollRightRow : OpenClaim := { program := "ytajeeghgiilhiaagreat", sum := "e24aeb4496e451b672ef38c93e4e529e20a59624ab10113809d2fab789a6a363", func := "checkroll/checkrolllaw25.RollRight", spec := "rollRight", inPlace := ["math/bits.Add64"], unfollowed := true, recurses := true, apart := false }
def RollRightSaid : Prop := rollRightRow.holds Tryz.pinned (OpenSpec.ofChange rollRightSpec)

/-- ITS FALSE NEIGHBOUR: 'it returns false'. Refute it at one input. -/
def rollRightWrong : ChangeSpec := { name := "rollRight", fn := fun _ => fun
  | [d1, d2, d3, d4, d5] => { results := [.lit (.bool false)], args := [d1, d2, d3, d4, d5] }
  | _ => none }
def RollRightWrongFalsely : Prop := rollRightRow.holds Tryz.pinned (OpenSpec.ofChange rollRightWrong)

/-- 'checkrolllaw19.GateFrees': WHATEVER THE INPUT: true; the input reads as it did. -/
def gateFreesSpec : ChangeSpec := { name := "gateFrees", fn := fun _ => fun
  | [d1, d2, d3, d4, d5] => { results := [.lit (.bool true)], args := [d1, d2, d3, d4, d5] }
  | _ => none }
def gateFreesRow : OpenClaim := { program := "ytajeeghgiilhiaagreat", sum := "e24aeb4496e451b672ef38c93e4e529e20a59624ab10113809d2fab789a6a363", func := "checkroll/checkrolllaw19.GateFrees", spec := "gateFrees", inPlace := ["slices.overlaps[checkroll/api.Limit]"], unfollowed := true, recurses := true, apart := false }
def GateFreesSaid : Prop := gateFreesRow.holds Tryz.pinned (OpenSpec.ofChange gateFreesSpec)

/-- ITS FALSE NEIGHBOUR: 'it returns false'. Refute it at one input. -/
def gateFreesWrong : ChangeSpec := { name := "gateFrees", fn := fun _ => fun
  | [d1, d2, d3, d4, d5] => { results := [.lit (.bool false)], args := [d1, d2, d3, d4, d5] }
  | _ => none }
def GateFreesWrongFalsely : Prop := gateFreesRow.holds Tryz.pinned (OpenSpec.ofChange gateFreesWrong)

/-- 'checkrolllaw19.GateShuts': WHATEVER THE INPUT: true; the input reads as it did. -/
def gateShutsSpec : ChangeSpec := { name := "gateShuts", fn := fun _ => fun
  | [d1, d2, d3, d4, d5] => { results := [.lit (.bool true)], args := [d1, d2, d3, d4, d5] }
  | _ => none }
def gateShutsRow : OpenClaim := { program := "ytajeeghgiilhiaagreat", sum := "e24aeb4496e451b672ef38c93e4e529e20a59624ab10113809d2fab789a6a363", func := "checkroll/checkrolllaw19.GateShuts", spec := "gateShuts", inPlace := ["slices.overlaps[checkroll/api.Limit]"], unfollowed := true, recurses := true, apart := false }
def GateShutsSaid : Prop := gateShutsRow.holds Tryz.pinned (OpenSpec.ofChange gateShutsSpec)

/-- ITS FALSE NEIGHBOUR: 'it returns false'. Refute it at one input. -/
def gateShutsWrong : ChangeSpec := { name := "gateShuts", fn := fun _ => fun
  | [d1, d2, d3, d4, d5] => { results := [.lit (.bool false)], args := [d1, d2, d3, d4, d5] }
  | _ => none }
def GateShutsWrongFalsely : Prop := gateShutsRow.holds Tryz.pinned (OpenSpec.ofChange gateShutsWrong)

/-- 'checkrolllaw25.RollKeeps': WHATEVER THE INPUT: true; the input reads as it did. -/
def rollKeepsSpec : ChangeSpec := { name := "rollKeeps", fn := fun _ => fun
  | [d1, d2, d3, d4] => { results := [.lit (.bool true)], args := [d1, d2, d3, d4] }
  | _ => none }
def rollKeepsRow : OpenClaim := { program := "ytajeeghgiilhiaagreat", sum := "e24aeb4496e451b672ef38c93e4e529e20a59624ab10113809d2fab789a6a363", func := "checkroll/checkrolllaw25.RollKeeps", spec := "rollKeeps", inPlace := ["math/bits.Add64"], unfollowed := true, recurses := true, apart := false }
def RollKeepsSaid : Prop := rollKeepsRow.holds Tryz.pinned (OpenSpec.ofChange rollKeepsSpec)

/-- ITS FALSE NEIGHBOUR: 'it returns false'. Refute it at one input. -/
def rollKeepsWrong : ChangeSpec := { name := "rollKeeps", fn := fun _ => fun
  | [d1, d2, d3, d4] => { results := [.lit (.bool false)], args := [d1, d2, d3, d4] }
  | _ => none }
def RollKeepsWrongFalsely : Prop := rollKeepsRow.holds Tryz.pinned (OpenSpec.ofChange rollKeepsWrong)

/-- 'checkrolllaw25.RollDays': WHATEVER THE INPUT: true; the input reads as it did. -/
def rollDaysSpec : ChangeSpec := { name := "rollDays", fn := fun _ => fun
  | [d1, d2] => { results := [.lit (.bool true)], args := [d1, d2] }
  | _ => none }
def rollDaysRow : OpenClaim := { program := "ytajeeghgiilhiaagreat", sum := "e24aeb4496e451b672ef38c93e4e529e20a59624ab10113809d2fab789a6a363", func := "checkroll/checkrolllaw25.RollDays", spec := "rollDays", inPlace := ["math/bits.Add64"], unfollowed := true, recurses := true, apart := false }
def RollDaysSaid : Prop := rollDaysRow.holds Tryz.pinned (OpenSpec.ofChange rollDaysSpec)

/-- ITS FALSE NEIGHBOUR: 'it returns false'. Refute it at one input. -/
def rollDaysWrong : ChangeSpec := { name := "rollDays", fn := fun _ => fun
  | [d1, d2] => { results := [.lit (.bool false)], args := [d1, d2] }
  | _ => none }
def RollDaysWrongFalsely : Prop := rollDaysRow.holds Tryz.pinned (OpenSpec.ofChange rollDaysWrong)

/-- 'checkrolllaw19.GatePlays': WHATEVER THE INPUT: true; the input reads as it did. -/
def gatePlaysSpec : ChangeSpec := { name := "gatePlays", fn := fun _ => fun
  | [d1, d2, d3, d4] => { results := [.lit (.bool true)], args := [d1, d2, d3, d4] }
  | _ => none }
def gatePlaysRow : OpenClaim := { program := "ytajeeghgiilhiaagreat", sum := "e24aeb4496e451b672ef38c93e4e529e20a59624ab10113809d2fab789a6a363", func := "checkroll/checkrolllaw19.GatePlays", spec := "gatePlays", inPlace := ["slices.overlaps[checkroll/api.Limit]", "math/bits.Add64"], unfollowed := true, recurses := true, apart := false }
def GatePlaysSaid : Prop := gatePlaysRow.holds Tryz.pinned (OpenSpec.ofChange gatePlaysSpec)

/-- ITS FALSE NEIGHBOUR: 'it returns false'. Refute it at one input. -/
def gatePlaysWrong : ChangeSpec := { name := "gatePlays", fn := fun _ => fun
  | [d1, d2, d3, d4] => { results := [.lit (.bool false)], args := [d1, d2, d3, d4] }
  | _ => none }
def GatePlaysWrongFalsely : Prop := gatePlaysRow.holds Tryz.pinned (OpenSpec.ofChange gatePlaysWrong)

/-- 'checkrolllaw19.GateRight': WHATEVER THE INPUT: true; the input reads as it did. -/
def gateRightSpec : ChangeSpec := { name := "gateRight", fn := fun _ => fun
  | [d1, d2, d3, d4] => { results := [.lit (.bool true)], args := [d1, d2, d3, d4] }
  | _ => none }
def gateRightRow : OpenClaim := { program := "ytajeeghgiilhiaagreat", sum := "e24aeb4496e451b672ef38c93e4e529e20a59624ab10113809d2fab789a6a363", func := "checkroll/checkrolllaw19.GateRight", spec := "gateRight", inPlace := ["slices.overlaps[checkroll/api.Limit]", "math/bits.Add64"], unfollowed := true, recurses := true, apart := false }
def GateRightSaid : Prop := gateRightRow.holds Tryz.pinned (OpenSpec.ofChange gateRightSpec)

/-- ITS FALSE NEIGHBOUR: 'it returns false'. Refute it at one input. -/
def gateRightWrong : ChangeSpec := { name := "gateRight", fn := fun _ => fun
  | [d1, d2, d3, d4] => { results := [.lit (.bool false)], args := [d1, d2, d3, d4] }
  | _ => none }
def GateRightWrongFalsely : Prop := gateRightRow.holds Tryz.pinned (OpenSpec.ofChange gateRightWrong)

/- THE SECOND FORM. 'bulk': how many values and letters a reading holds, each counted each time it is reached (what is shared counts as often as it is met; a slice's spare places count too). A statement '..UptoSaid' is the law's where the arguments, and the package variables that the reading takes, are together of bulk at most 1048576: NARROWER than '..Said'. Prove '..Said' where nothing that the law and all that it calls make is longer than what came in: it says more and counts as full. Else prove '..UptoSaid'. A law counts once. -/
mutual
def uptoBulk {H : Type} : DataW H → Nat
  | .lit (.string bytes) => bytes.length + 1
  | .lit _ => 1
  | .nil => 1
  | .ptr d => uptoBulk d + 1
  | .slice elems spare => uptoBulkAll elems + uptoBulkAll spare + 1
  | .agg parts => uptoBulkAll parts + 1
  | .iface _ d => uptoBulk d + 1
  | .map entries => uptoBulkEntries entries + 1
  | .held _ => 1
def uptoBulkAll {H : Type} : List (DataW H) → Nat
  | [] => 0
  | d :: r => uptoBulk d + uptoBulkAll r
def uptoBulkEntries {H : Type} : List (Lit × DataW H) → Nat
  | [] => 0
  | x :: r => uptoBulkEntry x + uptoBulkEntries r
def uptoBulkEntry {H : Type} : Lit × DataW H → Nat
  | (.string bytes, d) => bytes.length + uptoBulk d + 1
  | (_, d) => uptoBulk d + 1
 end
def uptoSmall : (H : Type) → List (DataW H) → Bool := fun _ ds => decide (uptoBulkAll ds ≤ 1048576)
def OpenSpec.upto (s : _root_.Go.ChangeSpec) : _root_.Go.OpenSpec := { _root_.Go.OpenSpec.ofChange s with cond := some uptoSmall }

/-- 'checkrolllaw25.RollRight', WHERE WHAT IT READS IS OF BULK AT MOST 1048576: true; the input reads as it did. -/
def rollRightUptoRow : OpenClaim := { program := "ytajeeghgiilhiaagreat", sum := "e24aeb4496e451b672ef38c93e4e529e20a59624ab10113809d2fab789a6a363", func := "checkroll/checkrolllaw25.RollRight", spec := "rollRight", inPlace := ["math/bits.Add64"], unfollowed := true, recurses := true, apart := false, narrowed := true }
def RollRightUptoSaid : Prop := rollRightUptoRow.holds Tryz.pinned (OpenSpec.upto rollRightSpec)

/-- 'checkrolllaw19.GateFrees', WHERE WHAT IT READS IS OF BULK AT MOST 1048576: true; the input reads as it did. -/
def gateFreesUptoRow : OpenClaim := { program := "ytajeeghgiilhiaagreat", sum := "e24aeb4496e451b672ef38c93e4e529e20a59624ab10113809d2fab789a6a363", func := "checkroll/checkrolllaw19.GateFrees", spec := "gateFrees", inPlace := ["slices.overlaps[checkroll/api.Limit]"], unfollowed := true, recurses := true, apart := false, narrowed := true }
def GateFreesUptoSaid : Prop := gateFreesUptoRow.holds Tryz.pinned (OpenSpec.upto gateFreesSpec)

/-- 'checkrolllaw19.GateShuts', WHERE WHAT IT READS IS OF BULK AT MOST 1048576: true; the input reads as it did. -/
def gateShutsUptoRow : OpenClaim := { program := "ytajeeghgiilhiaagreat", sum := "e24aeb4496e451b672ef38c93e4e529e20a59624ab10113809d2fab789a6a363", func := "checkroll/checkrolllaw19.GateShuts", spec := "gateShuts", inPlace := ["slices.overlaps[checkroll/api.Limit]"], unfollowed := true, recurses := true, apart := false, narrowed := true }
def GateShutsUptoSaid : Prop := gateShutsUptoRow.holds Tryz.pinned (OpenSpec.upto gateShutsSpec)

/-- 'checkrolllaw25.RollKeeps', WHERE WHAT IT READS IS OF BULK AT MOST 1048576: true; the input reads as it did. -/
def rollKeepsUptoRow : OpenClaim := { program := "ytajeeghgiilhiaagreat", sum := "e24aeb4496e451b672ef38c93e4e529e20a59624ab10113809d2fab789a6a363", func := "checkroll/checkrolllaw25.RollKeeps", spec := "rollKeeps", inPlace := ["math/bits.Add64"], unfollowed := true, recurses := true, apart := false, narrowed := true }
def RollKeepsUptoSaid : Prop := rollKeepsUptoRow.holds Tryz.pinned (OpenSpec.upto rollKeepsSpec)

/-- 'checkrolllaw25.RollDays', WHERE WHAT IT READS IS OF BULK AT MOST 1048576: true; the input reads as it did. -/
def rollDaysUptoRow : OpenClaim := { program := "ytajeeghgiilhiaagreat", sum := "e24aeb4496e451b672ef38c93e4e529e20a59624ab10113809d2fab789a6a363", func := "checkroll/checkrolllaw25.RollDays", spec := "rollDays", inPlace := ["math/bits.Add64"], unfollowed := true, recurses := true, apart := false, narrowed := true }
def RollDaysUptoSaid : Prop := rollDaysUptoRow.holds Tryz.pinned (OpenSpec.upto rollDaysSpec)

/-- 'checkrolllaw19.GatePlays', WHERE WHAT IT READS IS OF BULK AT MOST 1048576: true; the input reads as it did. -/
def gatePlaysUptoRow : OpenClaim := { program := "ytajeeghgiilhiaagreat", sum := "e24aeb4496e451b672ef38c93e4e529e20a59624ab10113809d2fab789a6a363", func := "checkroll/checkrolllaw19.GatePlays", spec := "gatePlays", inPlace := ["slices.overlaps[checkroll/api.Limit]", "math/bits.Add64"], unfollowed := true, recurses := true, apart := false, narrowed := true }
def GatePlaysUptoSaid : Prop := gatePlaysUptoRow.holds Tryz.pinned (OpenSpec.upto gatePlaysSpec)

/-- 'checkrolllaw19.GateRight', WHERE WHAT IT READS IS OF BULK AT MOST 1048576: true; the input reads as it did. -/
def gateRightUptoRow : OpenClaim := { program := "ytajeeghgiilhiaagreat", sum := "e24aeb4496e451b672ef38c93e4e529e20a59624ab10113809d2fab789a6a363", func := "checkroll/checkrolllaw19.GateRight", spec := "gateRight", inPlace := ["slices.overlaps[checkroll/api.Limit]", "math/bits.Add64"], unfollowed := true, recurses := true, apart := false, narrowed := true }
def GateRightUptoSaid : Prop := gateRightUptoRow.holds Tryz.pinned (OpenSpec.upto gateRightSpec)

end Rows
end Go.Proofs.YtajeeghgiilhiaaGreat
