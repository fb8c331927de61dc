/-
  No cell of these rows narrows 'for every input' (looked for: loops, veiled, ifaces, maps, wideKeys, modest, calm, conditions, laid).
  DERIVED. THE GIVEN ROWS OF THIS SEAT. 3 by the template 'for every input the law returns true; each argument reads behind the call as it read before'; 0 by the template 'total and deterministic' (their statements: YtceiiajacnihjaaTotals.lean).
  GIVEN WITH THE SEED: the statements are not yours to turn. If you find one false, say at which input.
  Laid BY PROGRAM, IN A SANDBOX (cutbox-rows.mjs): the forced cells as the released guide's own fill.sh prints them over the translation e54292cd64376795… (all of the seat's roots in one cut). By AI agents, Wed Nov 11 2026. No macro, syntax, notation, axiom, sorry.
-/
import Derived.Test.YtceiiajacnihjaaChecked
import GoSem.Claim
import GoSem.ClaimJoined
import GoSem.ClaimMapViews
import Derived.JoinedTies
import Derived.KernelRfl
namespace Go.Proofs.Ytceiiajacnihjaa
/- THE CELL 'sum', in the pinned program and in every row, IS THE sha256 OF THE DUMP (.gsa) THAT YtceiiajacnihjaaProg.lean LOADS. Nothing in Lean hashes anything: it is a label: what it is worth is what the hold of that sum in a sandbox is worth. -/
noncomputable def Try.pinned : Pinned := { name := "ytceiiajacnihjaa", sum := "e54292cd64376795141f9c294e735b7d9b149c1836b4f6c521bca2f0589617e4", checked := Try.checked }
namespace Rows
def none {H : Type} : Left H := { results := [], args := [] }

/-- 'checkrolllaw22.CountNames': WHATEVER THE INPUT: true; the input reads as it did. -/
def countNamesSpec : ChangeSpec := { name := "countNames", fn := fun _ => fun
  | [d1, d2] => { results := [.lit (.bool true)], args := [d1, d2] }
  | _ => none }
def countNamesRow : OpenClaim := { program := "ytceiiajacnihjaa", sum := "e54292cd64376795141f9c294e735b7d9b149c1836b4f6c521bca2f0589617e4", func := "checkroll/checkrolllaw22.CountNames", spec := "countNames", inPlace := ["(*internal/sync.Mutex).Lock", "internal/race.Disable", "sync/atomic.CompareAndSwapInt32", "internal/race.Enable", "internal/race.Acquire", "(*internal/sync.Mutex).lockSlow", "internal/sync.runtime_canSpin", "internal/sync.runtime_doSpin", "internal/sync.throw", "internal/sync.runtime_nanotime", "internal/sync.runtime_SemacquireMutex", "sync/atomic.AddInt32", "(*internal/sync.Mutex).Unlock", "internal/race.ReleaseMerge", "(*internal/sync.Mutex).unlockSlow", "internal/sync.fatal", "internal/sync.runtime_Semrelease", "sync/atomic.LoadInt64", "sync/atomic.StoreInt64", "sync/atomic.LoadUint32", "sync/atomic.StoreUint32"], unfollowed := true, recurses := true, apart := false }
def CountNamesSaid : Prop := countNamesRow.holds Try.pinned (OpenSpec.ofChange countNamesSpec)

/-- ITS FALSE NEIGHBOUR: 'it returns false'. Refute it at one input. -/
def countNamesWrong : ChangeSpec := { name := "countNames", fn := fun _ => fun
  | [d1, d2] => { results := [.lit (.bool false)], args := [d1, d2] }
  | _ => none }
def CountNamesWrongFalsely : Prop := countNamesRow.holds Try.pinned (OpenSpec.ofChange countNamesWrong)

/-- 'checkrolllaw22.CountRight': WHATEVER THE INPUT: true; the input reads as it did. -/
def countRightSpec : ChangeSpec := { name := "countRight", fn := fun _ => fun
  | [d1, d2] => { results := [.lit (.bool true)], args := [d1, d2] }
  | _ => none }
def countRightRow : OpenClaim := { program := "ytceiiajacnihjaa", sum := "e54292cd64376795141f9c294e735b7d9b149c1836b4f6c521bca2f0589617e4", func := "checkroll/checkrolllaw22.CountRight", spec := "countRight", inPlace := ["(*internal/sync.Mutex).Lock", "internal/race.Disable", "sync/atomic.CompareAndSwapInt32", "internal/race.Enable", "internal/race.Acquire", "(*internal/sync.Mutex).lockSlow", "internal/sync.runtime_canSpin", "internal/sync.runtime_doSpin", "internal/sync.throw", "internal/sync.runtime_nanotime", "internal/sync.runtime_SemacquireMutex", "sync/atomic.AddInt32", "(*internal/sync.Mutex).Unlock", "internal/race.ReleaseMerge", "(*internal/sync.Mutex).unlockSlow", "internal/sync.fatal", "internal/sync.runtime_Semrelease", "sync/atomic.LoadInt64", "sync/atomic.StoreInt64", "sync/atomic.LoadUint32", "sync/atomic.StoreUint32"], unfollowed := true, recurses := true, apart := false }
def CountRightSaid : Prop := countRightRow.holds Try.pinned (OpenSpec.ofChange countRightSpec)

/-- ITS FALSE NEIGHBOUR: 'it returns false'. Refute it at one input. -/
def countRightWrong : ChangeSpec := { name := "countRight", fn := fun _ => fun
  | [d1, d2] => { results := [.lit (.bool false)], args := [d1, d2] }
  | _ => none }
def CountRightWrongFalsely : Prop := countRightRow.holds Try.pinned (OpenSpec.ofChange countRightWrong)

/-- 'checkrolllaw22.CountAdds': WHATEVER THE INPUT: true; the input reads as it did. -/
def countAddsSpec : ChangeSpec := { name := "countAdds", fn := fun _ => fun
  | [d] => { results := [.lit (.bool true)], args := [d] }
  | _ => none }
def countAddsRow : OpenClaim := { program := "ytceiiajacnihjaa", sum := "e54292cd64376795141f9c294e735b7d9b149c1836b4f6c521bca2f0589617e4", func := "checkroll/checkrolllaw22.CountAdds", spec := "countAdds", inPlace := ["(*internal/sync.Mutex).Lock", "internal/race.Disable", "sync/atomic.CompareAndSwapInt32", "internal/race.Enable", "internal/race.Acquire", "(*internal/sync.Mutex).lockSlow", "internal/sync.runtime_canSpin", "internal/sync.runtime_doSpin", "internal/sync.throw", "internal/sync.runtime_nanotime", "internal/sync.runtime_SemacquireMutex", "sync/atomic.AddInt32", "(*internal/sync.Mutex).Unlock", "internal/race.ReleaseMerge", "(*internal/sync.Mutex).unlockSlow", "internal/sync.fatal", "internal/sync.runtime_Semrelease", "sync/atomic.LoadInt64", "sync/atomic.StoreInt64", "sync/atomic.LoadUint32", "sync/atomic.StoreUint32", "math/bits.Add64"], unfollowed := true, recurses := true, apart := false }
def CountAddsSaid : Prop := countAddsRow.holds Try.pinned (OpenSpec.ofChange countAddsSpec)

/-- ITS FALSE NEIGHBOUR: 'it returns false'. Refute it at one input. -/
def countAddsWrong : ChangeSpec := { name := "countAdds", fn := fun _ => fun
  | [d] => { results := [.lit (.bool false)], args := [d] }
  | _ => none }
def CountAddsWrongFalsely : Prop := countAddsRow.holds Try.pinned (OpenSpec.ofChange countAddsWrong)

/- THE SECOND FORM. 'bulk': how many values and letters a reading holds, each counted each time it is reached (what is shared counts as often as it is met; a slice's spare places count too). A statement '..UptoSaid' is the law's where the arguments, and the package variables that the reading takes, are together of bulk at most 1048576: NARROWER than '..Said'. Prove '..Said' where nothing that the law and all that it calls make is longer than what came in: it says more and counts as full. Else prove '..UptoSaid'. A law counts once. -/
mutual
def uptoBulk {H : Type} : DataW H → Nat
  | .lit (.string bytes) => bytes.length + 1
  | .lit _ => 1
  | .nil => 1
  | .ptr d => uptoBulk d + 1
  | .slice elems spare => uptoBulkAll elems + uptoBulkAll spare + 1
  | .agg parts => uptoBulkAll parts + 1
  | .iface _ d => uptoBulk d + 1
  | .map entries => uptoBulkEntries entries + 1
  | .held _ => 1
def uptoBulkAll {H : Type} : List (DataW H) → Nat
  | [] => 0
  | d :: r => uptoBulk d + uptoBulkAll r
def uptoBulkEntries {H : Type} : List (Lit × DataW H) → Nat
  | [] => 0
  | x :: r => uptoBulkEntry x + uptoBulkEntries r
def uptoBulkEntry {H : Type} : Lit × DataW H → Nat
  | (.string bytes, d) => bytes.length + uptoBulk d + 1
  | (_, d) => uptoBulk d + 1
 end
def uptoSmall : (H : Type) → List (DataW H) → Bool := fun _ ds => decide (uptoBulkAll ds ≤ 1048576)
def OpenSpec.upto (s : _root_.Go.ChangeSpec) : _root_.Go.OpenSpec := { _root_.Go.OpenSpec.ofChange s with cond := some uptoSmall }

/-- 'checkrolllaw22.CountNames', WHERE WHAT IT READS IS OF BULK AT MOST 1048576: true; the input reads as it did. -/
def countNamesUptoRow : OpenClaim := { program := "ytceiiajacnihjaa", sum := "e54292cd64376795141f9c294e735b7d9b149c1836b4f6c521bca2f0589617e4", func := "checkroll/checkrolllaw22.CountNames", spec := "countNames", inPlace := ["(*internal/sync.Mutex).Lock", "internal/race.Disable", "sync/atomic.CompareAndSwapInt32", "internal/race.Enable", "internal/race.Acquire", "(*internal/sync.Mutex).lockSlow", "internal/sync.runtime_canSpin", "internal/sync.runtime_doSpin", "internal/sync.throw", "internal/sync.runtime_nanotime", "internal/sync.runtime_SemacquireMutex", "sync/atomic.AddInt32", "(*internal/sync.Mutex).Unlock", "internal/race.ReleaseMerge", "(*internal/sync.Mutex).unlockSlow", "internal/sync.fatal", "internal/sync.runtime_Semrelease", "sync/atomic.LoadInt64", "sync/atomic.StoreInt64", "sync/atomic.LoadUint32", "sync/atomic.StoreUint32"], unfollowed := true, recurses := true, apart := false, narrowed := true }
def CountNamesUptoSaid : Prop := countNamesUptoRow.holds Try.pinned (OpenSpec.upto countNamesSpec)

/-- 'checkrolllaw22.CountRight', WHERE WHAT IT READS IS OF BULK AT MOST 1048576: true; the input reads as it did. -/
def countRightUptoRow : OpenClaim := { program := "ytceiiajacnihjaa", sum := "e54292cd64376795141f9c294e735b7d9b149c1836b4f6c521bca2f0589617e4", func := "checkroll/checkrolllaw22.CountRight", spec := "countRight", inPlace := ["(*internal/sync.Mutex).Lock", "internal/race.Disable", "sync/atomic.CompareAndSwapInt32", "internal/race.Enable", "internal/race.Acquire", "(*internal/sync.Mutex).lockSlow", "internal/sync.runtime_canSpin", "internal/sync.runtime_doSpin", "internal/sync.throw", "internal/sync.runtime_nanotime", "internal/sync.runtime_SemacquireMutex", "sync/atomic.AddInt32", "(*internal/sync.Mutex).Unlock", "internal/race.ReleaseMerge", "(*internal/sync.Mutex).unlockSlow", "internal/sync.fatal", "internal/sync.runtime_Semrelease", "sync/atomic.LoadInt64", "sync/atomic.StoreInt64", "sync/atomic.LoadUint32", "sync/atomic.StoreUint32"], unfollowed := true, recurses := true, apart := false, narrowed := true }
def CountRightUptoSaid : Prop := countRightUptoRow.holds Try.pinned (OpenSpec.upto countRightSpec)

/-- 'checkrolllaw22.CountAdds', WHERE WHAT IT READS IS OF BULK AT MOST 1048576: true; the input reads as it did. -/
def countAddsUptoRow : OpenClaim := { program := "ytceiiajacnihjaa", sum := "e54292cd64376795141f9c294e735b7d9b149c1836b4f6c521bca2f0589617e4", func := "checkroll/checkrolllaw22.CountAdds", spec := "countAdds", inPlace := ["(*internal/sync.Mutex).Lock", "internal/race.Disable", "sync/atomic.CompareAndSwapInt32", "internal/race.Enable", "internal/race.Acquire", "(*internal/sync.Mutex).lockSlow", "internal/sync.runtime_canSpin", "internal/sync.runtime_doSpin", "internal/sync.throw", "internal/sync.runtime_nanotime", "internal/sync.runtime_SemacquireMutex", "sync/atomic.AddInt32", "(*internal/sync.Mutex).Unlock", "internal/race.ReleaseMerge", "(*internal/sync.Mutex).unlockSlow", "internal/sync.fatal", "internal/sync.runtime_Semrelease", "sync/atomic.LoadInt64", "sync/atomic.StoreInt64", "sync/atomic.LoadUint32", "sync/atomic.StoreUint32", "math/bits.Add64"], unfollowed := true, recurses := true, apart := false, narrowed := true }
def CountAddsUptoSaid : Prop := countAddsUptoRow.holds Try.pinned (OpenSpec.upto countAddsSpec)

end Rows
end Go.Proofs.Ytceiiajacnihjaa
