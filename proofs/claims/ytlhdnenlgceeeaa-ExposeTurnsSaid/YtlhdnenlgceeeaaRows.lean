/-
  No cell of these rows narrows 'for every input' (looked for: loops, veiled, ifaces, maps, wideKeys, modest, calm, conditions, laid).
  DERIVED. THE GIVEN ROWS OF THIS SEAT. 12 by the template 'for every input the law returns true; each argument reads behind the call as it read before'; 0 by the template 'total and deterministic' (their statements: YtlhdnenlgceeeaaTotals.lean).
  GIVEN WITH THE SEED: the statements are not yours to turn. If you find one false, say at which input.
  Laid BY PROGRAM, IN A SANDBOX (cutbox-rows.mjs): the forced cells as the released guide's own fill.sh prints them over the translation 3abbc0597449847c… (all of the seat's roots in one cut). By AI agents, Wed Nov 11 2026. No macro, syntax, notation, axiom, sorry.
-/
import Derived.Test.YtlhdnenlgceeeaaChecked
import GoSem.Claim
import GoSem.ClaimJoined
import GoSem.ClaimMapViews
import Derived.JoinedTies
import Derived.KernelRfl
namespace Go.Proofs.Ytlhdnenlgceeeaa
/- THE CELL 'sum', in the pinned program and in every row, IS THE sha256 OF THE DUMP (.gsa) THAT YtlhdnenlgceeeaaProg.lean LOADS. Nothing in Lean hashes anything: it is a label: what it is worth is what the hold of that sum in a sandbox is worth. -/
noncomputable def Try.pinned : Pinned := { name := "ytlhdnenlgceeeaa", sum := "3abbc0597449847cba72fbbd25a5f1282406ec51aa380e70e91c462b0853dfff", checked := Try.checked }
namespace Rows
def none {H : Type} : Left H := { results := [], args := [] }

/-- 'checkrolllaw12.BookOnce': WHATEVER THE INPUT: true; the input reads as it did. -/
def bookOnceSpec : ChangeSpec := { name := "bookOnce", fn := fun _ => fun
  | [d1, d2] => { results := [.lit (.bool true)], args := [d1, d2] }
  | _ => none }
def bookOnceRow : OpenClaim := { program := "ytlhdnenlgceeeaa", sum := "3abbc0597449847cba72fbbd25a5f1282406ec51aa380e70e91c462b0853dfff", func := "checkroll/checkrolllaw12.BookOnce", spec := "bookOnce", unfollowed := true, recurses := true, apart := false }
def BookOnceSaid : Prop := bookOnceRow.holds Try.pinned (OpenSpec.ofChange bookOnceSpec)

/-- ITS FALSE NEIGHBOUR: 'it returns false'. Refute it at one input. -/
def bookOnceWrong : ChangeSpec := { name := "bookOnce", fn := fun _ => fun
  | [d1, d2] => { results := [.lit (.bool false)], args := [d1, d2] }
  | _ => none }
def BookOnceWrongFalsely : Prop := bookOnceRow.holds Try.pinned (OpenSpec.ofChange bookOnceWrong)

/-- 'checkrolllaw16.ExposeTurns': WHATEVER THE INPUT: true; the input reads as it did. -/
def exposeTurnsSpec : ChangeSpec := { name := "exposeTurns", fn := fun _ => fun
  | [d1, d2, d3, d4] => { results := [.lit (.bool true)], args := [d1, d2, d3, d4] }
  | _ => none }
def exposeTurnsRow : OpenClaim := { program := "ytlhdnenlgceeeaa", sum := "3abbc0597449847cba72fbbd25a5f1282406ec51aa380e70e91c462b0853dfff", func := "checkroll/checkrolllaw16.ExposeTurns", spec := "exposeTurns", unfollowed := true, recurses := true, apart := false }
def ExposeTurnsSaid : Prop := exposeTurnsRow.holds Try.pinned (OpenSpec.ofChange exposeTurnsSpec)

/-- ITS FALSE NEIGHBOUR: 'it returns false'. Refute it at one input. -/
def exposeTurnsWrong : ChangeSpec := { name := "exposeTurns", fn := fun _ => fun
  | [d1, d2, d3, d4] => { results := [.lit (.bool false)], args := [d1, d2, d3, d4] }
  | _ => none }
def ExposeTurnsWrongFalsely : Prop := exposeTurnsRow.holds Try.pinned (OpenSpec.ofChange exposeTurnsWrong)

/-- 'checkrolllaw12.BookAll': WHATEVER THE INPUT: true; the input reads as it did. -/
def bookAllSpec : ChangeSpec := { name := "bookAll", fn := fun _ => fun
  | [d] => { results := [.lit (.bool true)], args := [d] }
  | _ => none }
def bookAllRow : OpenClaim := { program := "ytlhdnenlgceeeaa", sum := "3abbc0597449847cba72fbbd25a5f1282406ec51aa380e70e91c462b0853dfff", func := "checkroll/checkrolllaw12.BookAll", spec := "bookAll", unfollowed := true, recurses := true, apart := false }
def BookAllSaid : Prop := bookAllRow.holds Try.pinned (OpenSpec.ofChange bookAllSpec)

/-- ITS FALSE NEIGHBOUR: 'it returns false'. Refute it at one input. -/
def bookAllWrong : ChangeSpec := { name := "bookAll", fn := fun _ => fun
  | [d] => { results := [.lit (.bool false)], args := [d] }
  | _ => none }
def BookAllWrongFalsely : Prop := bookAllRow.holds Try.pinned (OpenSpec.ofChange bookAllWrong)

/-- 'checkrolllaw12.BookAdds': WHATEVER THE INPUT: true; the input reads as it did. -/
def bookAddsSpec : ChangeSpec := { name := "bookAdds", fn := fun _ => fun
  | [d] => { results := [.lit (.bool true)], args := [d] }
  | _ => none }
def bookAddsRow : OpenClaim := { program := "ytlhdnenlgceeeaa", sum := "3abbc0597449847cba72fbbd25a5f1282406ec51aa380e70e91c462b0853dfff", func := "checkroll/checkrolllaw12.BookAdds", spec := "bookAdds", unfollowed := true, recurses := true, apart := false }
def BookAddsSaid : Prop := bookAddsRow.holds Try.pinned (OpenSpec.ofChange bookAddsSpec)

/-- ITS FALSE NEIGHBOUR: 'it returns false'. Refute it at one input. -/
def bookAddsWrong : ChangeSpec := { name := "bookAdds", fn := fun _ => fun
  | [d] => { results := [.lit (.bool false)], args := [d] }
  | _ => none }
def BookAddsWrongFalsely : Prop := bookAddsRow.holds Try.pinned (OpenSpec.ofChange bookAddsWrong)

/-- 'checkrolllaw12.BookStays': WHATEVER THE INPUT: true; the input reads as it did. -/
def bookStaysSpec : ChangeSpec := { name := "bookStays", fn := fun _ => fun
  | [d] => { results := [.lit (.bool true)], args := [d] }
  | _ => none }
def bookStaysRow : OpenClaim := { program := "ytlhdnenlgceeeaa", sum := "3abbc0597449847cba72fbbd25a5f1282406ec51aa380e70e91c462b0853dfff", func := "checkroll/checkrolllaw12.BookStays", spec := "bookStays", unfollowed := true, recurses := true, apart := false }
def BookStaysSaid : Prop := bookStaysRow.holds Try.pinned (OpenSpec.ofChange bookStaysSpec)

/-- ITS FALSE NEIGHBOUR: 'it returns false'. Refute it at one input. -/
def bookStaysWrong : ChangeSpec := { name := "bookStays", fn := fun _ => fun
  | [d] => { results := [.lit (.bool false)], args := [d] }
  | _ => none }
def BookStaysWrongFalsely : Prop := bookStaysRow.holds Try.pinned (OpenSpec.ofChange bookStaysWrong)

/-- 'checkrolllaw16.ExposeFalls': WHATEVER THE INPUT: true; the input reads as it did. -/
def exposeFallsSpec : ChangeSpec := { name := "exposeFalls", fn := fun _ => fun
  | [d] => { results := [.lit (.bool true)], args := [d] }
  | _ => none }
def exposeFallsRow : OpenClaim := { program := "ytlhdnenlgceeeaa", sum := "3abbc0597449847cba72fbbd25a5f1282406ec51aa380e70e91c462b0853dfff", func := "checkroll/checkrolllaw16.ExposeFalls", spec := "exposeFalls", unfollowed := true, recurses := true, apart := false }
def ExposeFallsSaid : Prop := exposeFallsRow.holds Try.pinned (OpenSpec.ofChange exposeFallsSpec)

/-- ITS FALSE NEIGHBOUR: 'it returns false'. Refute it at one input. -/
def exposeFallsWrong : ChangeSpec := { name := "exposeFalls", fn := fun _ => fun
  | [d] => { results := [.lit (.bool false)], args := [d] }
  | _ => none }
def ExposeFallsWrongFalsely : Prop := exposeFallsRow.holds Try.pinned (OpenSpec.ofChange exposeFallsWrong)

/-- 'checkrolllaw15.RuleRight': WHATEVER THE INPUT: true; the input reads as it did. -/
def ruleRightSpec : ChangeSpec := { name := "ruleRight", fn := fun _ => fun
  | [d1, d2] => { results := [.lit (.bool true)], args := [d1, d2] }
  | _ => none }
def ruleRightRow : OpenClaim := { program := "ytlhdnenlgceeeaa", sum := "3abbc0597449847cba72fbbd25a5f1282406ec51aa380e70e91c462b0853dfff", func := "checkroll/checkrolllaw15.RuleRight", spec := "ruleRight", unfollowed := true, recurses := true, apart := false }
def RuleRightSaid : Prop := ruleRightRow.holds Try.pinned (OpenSpec.ofChange ruleRightSpec)

/-- ITS FALSE NEIGHBOUR: 'it returns false'. Refute it at one input. -/
def ruleRightWrong : ChangeSpec := { name := "ruleRight", fn := fun _ => fun
  | [d1, d2] => { results := [.lit (.bool false)], args := [d1, d2] }
  | _ => none }
def RuleRightWrongFalsely : Prop := ruleRightRow.holds Try.pinned (OpenSpec.ofChange ruleRightWrong)

/-- 'checkrolllaw15.RuleTimes': WHATEVER THE INPUT: true; the input reads as it did. -/
def ruleTimesSpec : ChangeSpec := { name := "ruleTimes", fn := fun _ => fun
  | [d] => { results := [.lit (.bool true)], args := [d] }
  | _ => none }
def ruleTimesRow : OpenClaim := { program := "ytlhdnenlgceeeaa", sum := "3abbc0597449847cba72fbbd25a5f1282406ec51aa380e70e91c462b0853dfff", func := "checkroll/checkrolllaw15.RuleTimes", spec := "ruleTimes", unfollowed := true, recurses := true, apart := false }
def RuleTimesSaid : Prop := ruleTimesRow.holds Try.pinned (OpenSpec.ofChange ruleTimesSpec)

/-- ITS FALSE NEIGHBOUR: 'it returns false'. Refute it at one input. -/
def ruleTimesWrong : ChangeSpec := { name := "ruleTimes", fn := fun _ => fun
  | [d] => { results := [.lit (.bool false)], args := [d] }
  | _ => none }
def RuleTimesWrongFalsely : Prop := ruleTimesRow.holds Try.pinned (OpenSpec.ofChange ruleTimesWrong)

/-- 'checkrolllaw15.RulePrefix': WHATEVER THE INPUT: true; the input reads as it did. -/
def rulePrefixSpec : ChangeSpec := { name := "rulePrefix", fn := fun _ => fun
  | [d1, d2] => { results := [.lit (.bool true)], args := [d1, d2] }
  | _ => none }
def rulePrefixRow : OpenClaim := { program := "ytlhdnenlgceeeaa", sum := "3abbc0597449847cba72fbbd25a5f1282406ec51aa380e70e91c462b0853dfff", func := "checkroll/checkrolllaw15.RulePrefix", spec := "rulePrefix", unfollowed := true, recurses := true, apart := false }
def RulePrefixSaid : Prop := rulePrefixRow.holds Try.pinned (OpenSpec.ofChange rulePrefixSpec)

/-- ITS FALSE NEIGHBOUR: 'it returns false'. Refute it at one input. -/
def rulePrefixWrong : ChangeSpec := { name := "rulePrefix", fn := fun _ => fun
  | [d1, d2] => { results := [.lit (.bool false)], args := [d1, d2] }
  | _ => none }
def RulePrefixWrongFalsely : Prop := rulePrefixRow.holds Try.pinned (OpenSpec.ofChange rulePrefixWrong)

/-- 'checkrolllaw16.ExposeDominates': WHATEVER THE INPUT: true; the input reads as it did. -/
def exposeDominatesSpec : ChangeSpec := { name := "exposeDominates", fn := fun _ => fun
  | [d1, d2] => { results := [.lit (.bool true)], args := [d1, d2] }
  | _ => none }
def exposeDominatesRow : OpenClaim := { program := "ytlhdnenlgceeeaa", sum := "3abbc0597449847cba72fbbd25a5f1282406ec51aa380e70e91c462b0853dfff", func := "checkroll/checkrolllaw16.ExposeDominates", spec := "exposeDominates", inPlace := ["math/bits.Add64"], unfollowed := true, recurses := true, apart := false }
def ExposeDominatesSaid : Prop := exposeDominatesRow.holds Try.pinned (OpenSpec.ofChange exposeDominatesSpec)

/-- ITS FALSE NEIGHBOUR: 'it returns false'. Refute it at one input. -/
def exposeDominatesWrong : ChangeSpec := { name := "exposeDominates", fn := fun _ => fun
  | [d1, d2] => { results := [.lit (.bool false)], args := [d1, d2] }
  | _ => none }
def ExposeDominatesWrongFalsely : Prop := exposeDominatesRow.holds Try.pinned (OpenSpec.ofChange exposeDominatesWrong)

/-- 'checkrolllaw13.LedgerTurns': WHATEVER THE INPUT: true; the input reads as it did. -/
def ledgerTurnsSpec : ChangeSpec := { name := "ledgerTurns", fn := fun _ => fun
  | [d1, d2, d3] => { results := [.lit (.bool true)], args := [d1, d2, d3] }
  | _ => none }
def ledgerTurnsRow : OpenClaim := { program := "ytlhdnenlgceeeaa", sum := "3abbc0597449847cba72fbbd25a5f1282406ec51aa380e70e91c462b0853dfff", func := "checkroll/checkrolllaw13.LedgerTurns", spec := "ledgerTurns", inPlace := ["math/bits.Add64"], unfollowed := true, recurses := true, apart := false }
def LedgerTurnsSaid : Prop := ledgerTurnsRow.holds Try.pinned (OpenSpec.ofChange ledgerTurnsSpec)

/-- ITS FALSE NEIGHBOUR: 'it returns false'. Refute it at one input. -/
def ledgerTurnsWrong : ChangeSpec := { name := "ledgerTurns", fn := fun _ => fun
  | [d1, d2, d3] => { results := [.lit (.bool false)], args := [d1, d2, d3] }
  | _ => none }
def LedgerTurnsWrongFalsely : Prop := ledgerTurnsRow.holds Try.pinned (OpenSpec.ofChange ledgerTurnsWrong)

/-- 'checkrolllaw13.LedgerSums': WHATEVER THE INPUT: true; the input reads as it did. -/
def ledgerSumsSpec : ChangeSpec := { name := "ledgerSums", fn := fun _ => fun
  | [d] => { results := [.lit (.bool true)], args := [d] }
  | _ => none }
def ledgerSumsRow : OpenClaim := { program := "ytlhdnenlgceeeaa", sum := "3abbc0597449847cba72fbbd25a5f1282406ec51aa380e70e91c462b0853dfff", func := "checkroll/checkrolllaw13.LedgerSums", spec := "ledgerSums", inPlace := ["math/bits.Add64"], unfollowed := true, recurses := true, apart := false }
def LedgerSumsSaid : Prop := ledgerSumsRow.holds Try.pinned (OpenSpec.ofChange ledgerSumsSpec)

/-- ITS FALSE NEIGHBOUR: 'it returns false'. Refute it at one input. -/
def ledgerSumsWrong : ChangeSpec := { name := "ledgerSums", fn := fun _ => fun
  | [d] => { results := [.lit (.bool false)], args := [d] }
  | _ => none }
def LedgerSumsWrongFalsely : Prop := ledgerSumsRow.holds Try.pinned (OpenSpec.ofChange ledgerSumsWrong)

/- THE SECOND FORM. 'bulk': how many values and letters a reading holds, each counted each time it is reached (what is shared counts as often as it is met; a slice's spare places count too). A statement '..UptoSaid' is the law's where the arguments, and the package variables that the reading takes, are together of bulk at most 1048576: NARROWER than '..Said'. Prove '..Said' where nothing that the law and all that it calls make is longer than what came in: it says more and counts as full. Else prove '..UptoSaid'. A law counts once. -/
mutual
def uptoBulk {H : Type} : DataW H → Nat
  | .lit (.string bytes) => bytes.length + 1
  | .lit _ => 1
  | .nil => 1
  | .ptr d => uptoBulk d + 1
  | .slice elems spare => uptoBulkAll elems + uptoBulkAll spare + 1
  | .agg parts => uptoBulkAll parts + 1
  | .iface _ d => uptoBulk d + 1
  | .map entries => uptoBulkEntries entries + 1
  | .held _ => 1
def uptoBulkAll {H : Type} : List (DataW H) → Nat
  | [] => 0
  | d :: r => uptoBulk d + uptoBulkAll r
def uptoBulkEntries {H : Type} : List (Lit × DataW H) → Nat
  | [] => 0
  | x :: r => uptoBulkEntry x + uptoBulkEntries r
def uptoBulkEntry {H : Type} : Lit × DataW H → Nat
  | (.string bytes, d) => bytes.length + uptoBulk d + 1
  | (_, d) => uptoBulk d + 1
 end
def uptoSmall : (H : Type) → List (DataW H) → Bool := fun _ ds => decide (uptoBulkAll ds ≤ 1048576)
def OpenSpec.upto (s : _root_.Go.ChangeSpec) : _root_.Go.OpenSpec := { _root_.Go.OpenSpec.ofChange s with cond := some uptoSmall }

/-- 'checkrolllaw12.BookOnce', WHERE WHAT IT READS IS OF BULK AT MOST 1048576: true; the input reads as it did. -/
def bookOnceUptoRow : OpenClaim := { program := "ytlhdnenlgceeeaa", sum := "3abbc0597449847cba72fbbd25a5f1282406ec51aa380e70e91c462b0853dfff", func := "checkroll/checkrolllaw12.BookOnce", spec := "bookOnce", unfollowed := true, recurses := true, apart := false, narrowed := true }
def BookOnceUptoSaid : Prop := bookOnceUptoRow.holds Try.pinned (OpenSpec.upto bookOnceSpec)

/-- 'checkrolllaw16.ExposeTurns', WHERE WHAT IT READS IS OF BULK AT MOST 1048576: true; the input reads as it did. -/
def exposeTurnsUptoRow : OpenClaim := { program := "ytlhdnenlgceeeaa", sum := "3abbc0597449847cba72fbbd25a5f1282406ec51aa380e70e91c462b0853dfff", func := "checkroll/checkrolllaw16.ExposeTurns", spec := "exposeTurns", unfollowed := true, recurses := true, apart := false, narrowed := true }
def ExposeTurnsUptoSaid : Prop := exposeTurnsUptoRow.holds Try.pinned (OpenSpec.upto exposeTurnsSpec)

/-- 'checkrolllaw12.BookAll', WHERE WHAT IT READS IS OF BULK AT MOST 1048576: true; the input reads as it did. -/
def bookAllUptoRow : OpenClaim := { program := "ytlhdnenlgceeeaa", sum := "3abbc0597449847cba72fbbd25a5f1282406ec51aa380e70e91c462b0853dfff", func := "checkroll/checkrolllaw12.BookAll", spec := "bookAll", unfollowed := true, recurses := true, apart := false, narrowed := true }
def BookAllUptoSaid : Prop := bookAllUptoRow.holds Try.pinned (OpenSpec.upto bookAllSpec)

/-- 'checkrolllaw12.BookAdds', WHERE WHAT IT READS IS OF BULK AT MOST 1048576: true; the input reads as it did. -/
def bookAddsUptoRow : OpenClaim := { program := "ytlhdnenlgceeeaa", sum := "3abbc0597449847cba72fbbd25a5f1282406ec51aa380e70e91c462b0853dfff", func := "checkroll/checkrolllaw12.BookAdds", spec := "bookAdds", unfollowed := true, recurses := true, apart := false, narrowed := true }
def BookAddsUptoSaid : Prop := bookAddsUptoRow.holds Try.pinned (OpenSpec.upto bookAddsSpec)

/-- 'checkrolllaw12.BookStays', WHERE WHAT IT READS IS OF BULK AT MOST 1048576: true; the input reads as it did. -/
def bookStaysUptoRow : OpenClaim := { program := "ytlhdnenlgceeeaa", sum := "3abbc0597449847cba72fbbd25a5f1282406ec51aa380e70e91c462b0853dfff", func := "checkroll/checkrolllaw12.BookStays", spec := "bookStays", unfollowed := true, recurses := true, apart := false, narrowed := true }
def BookStaysUptoSaid : Prop := bookStaysUptoRow.holds Try.pinned (OpenSpec.upto bookStaysSpec)

/-- 'checkrolllaw16.ExposeFalls', WHERE WHAT IT READS IS OF BULK AT MOST 1048576: true; the input reads as it did. -/
def exposeFallsUptoRow : OpenClaim := { program := "ytlhdnenlgceeeaa", sum := "3abbc0597449847cba72fbbd25a5f1282406ec51aa380e70e91c462b0853dfff", func := "checkroll/checkrolllaw16.ExposeFalls", spec := "exposeFalls", unfollowed := true, recurses := true, apart := false, narrowed := true }
def ExposeFallsUptoSaid : Prop := exposeFallsUptoRow.holds Try.pinned (OpenSpec.upto exposeFallsSpec)

/-- 'checkrolllaw15.RuleRight', WHERE WHAT IT READS IS OF BULK AT MOST 1048576: true; the input reads as it did. -/
def ruleRightUptoRow : OpenClaim := { program := "ytlhdnenlgceeeaa", sum := "3abbc0597449847cba72fbbd25a5f1282406ec51aa380e70e91c462b0853dfff", func := "checkroll/checkrolllaw15.RuleRight", spec := "ruleRight", unfollowed := true, recurses := true, apart := false, narrowed := true }
def RuleRightUptoSaid : Prop := ruleRightUptoRow.holds Try.pinned (OpenSpec.upto ruleRightSpec)

/-- 'checkrolllaw15.RuleTimes', WHERE WHAT IT READS IS OF BULK AT MOST 1048576: true; the input reads as it did. -/
def ruleTimesUptoRow : OpenClaim := { program := "ytlhdnenlgceeeaa", sum := "3abbc0597449847cba72fbbd25a5f1282406ec51aa380e70e91c462b0853dfff", func := "checkroll/checkrolllaw15.RuleTimes", spec := "ruleTimes", unfollowed := true, recurses := true, apart := false, narrowed := true }
def RuleTimesUptoSaid : Prop := ruleTimesUptoRow.holds Try.pinned (OpenSpec.upto ruleTimesSpec)

/-- 'checkrolllaw15.RulePrefix', WHERE WHAT IT READS IS OF BULK AT MOST 1048576: true; the input reads as it did. -/
def rulePrefixUptoRow : OpenClaim := { program := "ytlhdnenlgceeeaa", sum := "3abbc0597449847cba72fbbd25a5f1282406ec51aa380e70e91c462b0853dfff", func := "checkroll/checkrolllaw15.RulePrefix", spec := "rulePrefix", unfollowed := true, recurses := true, apart := false, narrowed := true }
def RulePrefixUptoSaid : Prop := rulePrefixUptoRow.holds Try.pinned (OpenSpec.upto rulePrefixSpec)

/-- 'checkrolllaw16.ExposeDominates', WHERE WHAT IT READS IS OF BULK AT MOST 1048576: true; the input reads as it did. -/
def exposeDominatesUptoRow : OpenClaim := { program := "ytlhdnenlgceeeaa", sum := "3abbc0597449847cba72fbbd25a5f1282406ec51aa380e70e91c462b0853dfff", func := "checkroll/checkrolllaw16.ExposeDominates", spec := "exposeDominates", inPlace := ["math/bits.Add64"], unfollowed := true, recurses := true, apart := false, narrowed := true }
def ExposeDominatesUptoSaid : Prop := exposeDominatesUptoRow.holds Try.pinned (OpenSpec.upto exposeDominatesSpec)

/-- 'checkrolllaw13.LedgerTurns', WHERE WHAT IT READS IS OF BULK AT MOST 1048576: true; the input reads as it did. -/
def ledgerTurnsUptoRow : OpenClaim := { program := "ytlhdnenlgceeeaa", sum := "3abbc0597449847cba72fbbd25a5f1282406ec51aa380e70e91c462b0853dfff", func := "checkroll/checkrolllaw13.LedgerTurns", spec := "ledgerTurns", inPlace := ["math/bits.Add64"], unfollowed := true, recurses := true, apart := false, narrowed := true }
def LedgerTurnsUptoSaid : Prop := ledgerTurnsUptoRow.holds Try.pinned (OpenSpec.upto ledgerTurnsSpec)

/-- 'checkrolllaw13.LedgerSums', WHERE WHAT IT READS IS OF BULK AT MOST 1048576: true; the input reads as it did. -/
def ledgerSumsUptoRow : OpenClaim := { program := "ytlhdnenlgceeeaa", sum := "3abbc0597449847cba72fbbd25a5f1282406ec51aa380e70e91c462b0853dfff", func := "checkroll/checkrolllaw13.LedgerSums", spec := "ledgerSums", inPlace := ["math/bits.Add64"], unfollowed := true, recurses := true, apart := false, narrowed := true }
def LedgerSumsUptoSaid : Prop := ledgerSumsUptoRow.holds Try.pinned (OpenSpec.upto ledgerSumsSpec)

end Rows
end Go.Proofs.Ytlhdnenlgceeeaa
