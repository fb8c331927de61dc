/- Texts of one chain, put together (Lc, FldQ, TxC, TxD, Shelf, X1, N13, Sa, Sb, Sc, Sd, Se, Xe, Xf). -/
import Derived.Test.YtfchlkeekmabfaaGreatDoorKaG
import Derived.ProofKit
import Derived.Lib.UnsafeStr
import Derived.Shelf.Strings.Builder1
import Derived.Shelf.Strings.Builder2
import Derived.Shelf.Strings.OnBuilder
import Derived.Shelf.Small.Strs
import Derived.Shelf.Small.Wraps
import Derived.Shelf.Strings.Builder2Cap
import Derived.Shelf.Strconv.Itoa0
import Derived.Shelf.Strconv.Itoa1
import Derived.Shelf.LaysM
import Derived.Shelf.Strconv.Itoa2
import Derived.Shelf.Strconv.Itoa3
import Derived.Shelf.Strconv.Itoa4
import Derived.Ground.MpProg
import Derived.Shelf.Pu.ParseUintPublic10
import Derived.Shelf.Pu.ErrVarParseUint
import Derived.Shelf.Strings.Search1
import Derived.Shelf.Strings.Search2
import Derived.Shelf.Strings.Search3
import Derived.Shelf.Strings.Count
import Derived.Shelf.Strings.Shaped
import Derived.Shelf.Strings.Prefix
import Derived.Shelf.Strings.Split
import Derived.Shelf.Strings.SplitShaped
import Derived.Shelf.Unicode.DecodeSlow
import Derived.Shelf.Bytes.SlIndexSmall
import Derived.Ground.SlbNamesProg
import Derived.Shelf.Bytes.SlCountOne
import Derived.Shelf.Bytes.SlIndexAt
import Derived.Shelf.Bytes.Small
import Derived.Shelf.Bytes.IndexByte
import Derived.Test.YtfchlkeekmabfaaGreatDoorProg
import Derived.Test.YtfchlkeekmabfaaGreatDoorRows
import Derived.LaidMore
import Derived.OpenShut
import Derived.Stop.Joined
import Derived.HandedShaped
import Derived.Lib.SmallJoins
import Derived.Lay
import Derived.RangeFuncKeeps
import Derived.RangeFuncLeaves
import Derived.RangeFuncBox
import Derived.Shelf.Abstract
import Derived.WalkKit
import Derived.OwnWalkIn
import Derived.TacticsInMore
import Derived.LoopNIn
import Derived.LoopIn
import Derived.Lib.TrimByte
import Derived.Shelf.RegionOpen
import Derived.RangeFuncCalls
section
/- The layer, the plain facts: several texts of one chain, put together (AbsQ, AbsR, AbsS, AbsT, AbsU, AbsV, AbsW, AbsX). -/
/- How a region is worked off by rules: what hangs on a guard, and what a call hands on, waits. -/
namespace Go.Abs
open Go Go.RowKit
set_option linter.unusedVariables false
set_option linter.unusedSimpArgs false

section
variable {E : Env} {ops : Array Oper} {o : Oper} {d : Option Tmp} {l : List Oper} {st : St} {K : St → Prop}

variable {ty : TypeId} {pos : String} {after : Array Edge} {guard : Option (Nat × Bool)}
end

end Go.Abs

/- Loops, told by what changes. -/
namespace Go.Abs
open Go Go.RowKit
set_option linter.unusedVariables false
set_option linter.unusedSimpArgs false

end Go.Abs

/- From a contract to a law's row: what is answered is true; the arguments read as they did. -/
namespace Go.Abs
open Go Go.RowKit Go.ChangeShapes
set_option linter.unusedVariables false
set_option linter.unusedSimpArgs false

section
variable {H : Type} {enc : TypeId × Value → H} {P : Program}

end
end Go.Abs

/- What an argument's reading tells of its cells, as abstract values: one law a type. -/
namespace Go.Abs
open Go Go.RowKit Go.ChangeShapes Go.WideShapes
set_option linter.unusedVariables false
set_option linter.unusedSimpArgs false

section
variable {H : Type} {enc : TypeId × Value → H} {P : Program} {t : TypeId}

/-! ### an argument -/
section
variable {w : World} {base : Nat} {spare : Nat → Bool} {held : Bool} {r : Reach} {b0 : Nat} {v : Value} {d : DataW H} {ps : List MemPlace}

theorem arg_string (ht : P.underlying t = some .string) (hv : Value.okWide P w r b0 t v) (hd : DataW.Trod enc P w base spare held t v d ps) : ∃ l : List UInt8, l.length ≤ maxLen ∧ VR0 (imOf w) (str l) v := by
  obtain ⟨n, rfl⟩ := okWide_string ht hv
  obtain ⟨x, ⟨m, h1, h2⟩, h3⟩ := arg_one (by simp [Value.cells]) (reads_string ht) hd
  simp only [List.cons.injEq, and_true] at h2; subst h2
  exact ⟨m, h1, h3⟩
end
end

end Go.Abs

/- Lists of elements told by a function; contracts that a library's contract gives. -/
set_option linter.unusedVariables false
set_option linter.unusedSimpArgs false
namespace Go.Abs
open Go Go.RowKit

section
variable {E : Env} {ops : Array Oper} {d : Option Tmp} {l : List Oper} {st : St} {K : St → Prop}
end
section
variable {E : Env} {f : FuncId} {R : AV → List Nat → Prop}

end
end Go.Abs
namespace Go.Abs
open Go Go.RowKit
end Go.Abs
namespace Go.Abs
open Go Go.RowKit
end Go.Abs
namespace Go.Abs
end Go.Abs
namespace Go.Abs
open Go Go.RowKit
end Go.Abs
namespace Go.Abs
open Go Go.RowKit
end Go.Abs
namespace Go.Abs
open Go Go.RowKit
end Go.Abs
namespace Go.Abs
open Go Go.RowKit
section
variable {P : Program} {t : TypeId} {k : Bool → Prop}
end
end Go.Abs
namespace Go.Abs
end Go.Abs

/- A call whose body is walked in the caller's state: own blocks and tokens are shared. -/
set_option linter.unusedVariables false
set_option linter.unusedSimpArgs false
namespace Go.Abs
open Go Go.RowKit

section
variable {E : Env} {Q : Exit → St → Prop} {st : St} {ops : Array Oper} {l l1 l2 : List Oper}

end
end Go.Abs

/- A row of bytes that lies in new memory; values of slots that were put. -/
set_option linter.unusedVariables false
set_option linter.unusedSimpArgs false
namespace Go.Abs
open Go Go.RowKit

end Go.Abs

/- An own block that is written no more becomes cells that never change; a token's row becomes an own block, to be written. -/
set_option linter.unusedVariables false
set_option linter.unusedSimpArgs false
namespace Go.Abs
open Go Go.RowKit

section
variable {w0 : World} {im0 : Base} {c : Ctx} {st : St} {a : Act} {w : World}

end

section
variable {E : Env} {c : Code} {Q : Exit → St → Prop} {s : St}
end
end Go.Abs
end
section
/- Plain facts on lists of fields: what is put is read as it was. -/
set_option linter.unusedVariables false
set_option linter.unusedSimpArgs false
namespace Go.Fld
open Go

theorem parseGo_short {acc : List Fd} {b : Bs} (h : b ≠ []) (hc : cutB 1 b = none) : parseGo acc b = ([], 2) := by
  rw [parseGo, if_neg h]
  split
  · rfl
  · rename_i h2; rw [hc] at h2; simp at h2
theorem parseGo_err : ∀ (n : Nat) (b : Bs) (acc : List Fd), b.length ≤ n → (parseGo acc b).2 ≠ 0 → (parseGo acc b).1 = [] := by
  intro n
  induction n with
  | zero =>
    intro b acc hn h
    have : b = [] := List.eq_nil_of_length_eq_zero (by omega)
    subst this
    rw [parseGo_nil] at h; simp at h
  | succ n ih =>
    intro b acc hn h
    by_cases hb : b = []
    · subst hb; rw [parseGo_nil] at h; simp at h
    cases hc : cutB 1 b with
    | none => rw [parseGo_short hb hc]
    | some p =>
      obtain ⟨t, r⟩ := p
      rw [parseGo_cut hc] at h ⊢
      cases hr : readF t with
      | none => rfl
      | some f =>
        rw [hr] at h
        simp only at h ⊢
        split
        · rfl
        · rename_i h100
          rw [if_neg h100] at h
          exact ih r _ (by have := cutB_len hc; omega) h

theorem parse_err {b : Bs} (h : (parseL b).2 ≠ 0) : (parseL b).1 = [] := by
  unfold parseL at h ⊢
  split
  · rfl
  · rename_i h1; rw [if_neg h1] at h; exact parseGo_err _ b [] (Nat.le_refl _) h

end Go.Fld
end
section
/- Lines: the document's answers are the program's; what is shown is read again. No program. -/
set_option linter.unusedVariables false
set_option linter.unusedSimpArgs false
namespace Go.Txt
open Go.Fld Go.Bk Go.Msg
/-! ### what is shown is read -/
theorem parse_err {s : List UInt8} (h : ¬ (parseA s).2 = 0) : (parseA s).1 = zeroA := by
  revert h; unfold parseA
  repeat' split
  all_goals simp
end Go.Txt
end
section
/- Lines: a blank more; a text, line by line. No program. -/
set_option linter.unusedVariables false
set_option linter.unusedSimpArgs false
namespace Go.Txt
open Go.Fld Go.Bk Go.Msg
/-! ### a text, line by line -/
def linesGo : Nat → List (List UInt8) → List Ak → List Ak × Int × Int
  | _, [], acc => (acc, 0, 0)
  | row, w :: l, acc => if 512 < row + 1 then ([], 4, ((row + 1 : Nat) : Int))
    else if w = [] ∨ w.head? = some 35 then linesGo (row + 1) l acc
    else if (parseA w).2 ≠ 0 then ([], (parseA w).2, ((row + 1 : Nat) : Int))
    else linesGo (row + 1) l (acc ++ [(parseA w).1])
def linesA (s : List UInt8) : List Ak × Int × Int := linesGo 0 (splitW 10 s) []
theorem join_no {c d : UInt8} (hcd : c ≠ d) : ∀ {l : List (List UInt8)}, (∀ w ∈ l, c ∉ w) → c ∉ joinW d l
  | [], _ => by simp [joinW]
  | [a], h => by simpa [joinW] using h a (by simp)
  | a :: b :: l, h => by
    have h1 := h a (by simp)
    have h2 := join_no hcd (l := b :: l) (fun w hw => h w (by simp only [List.mem_cons] at hw ⊢; exact .inr hw))
    simp only [joinW, List.mem_append, List.mem_cons, not_or] at h2 ⊢
    exact ⟨h1, hcd, h2⟩
theorem lines_back {a : Ak} (h : mayA a = true) : linesA ([35, 32, 120, 10, 10] ++ joinW 32 (wordsA a) ++ [10, 35] ++ joinW 32 (wordsA a) ++ [10] ++ joinW 32 (wordsA a)) = ([plainA a, plainA a], 0, 0) := by
  have hno : (10 : UInt8) ∉ joinW 32 (wordsA a) := join_no (by decide) (fun w hw => ((clean_words h).1 w hw).2.1)
  have hp := parse_show h
  obtain ⟨r, hr⟩ := show_hd h
  obtain ⟨_, c, q, hc, hc2⟩ := name_len (may_kind h)
  have hne : ¬ (joinW 32 (wordsA a) = [] ∨ (joinW 32 (wordsA a)).head? = some 35) := by
    rw [hr, hc]; simp [hc2]
  have e : splitW 10 ([35, 32, 120, 10, 10] ++ joinW 32 (wordsA a) ++ [10, 35] ++ joinW 32 (wordsA a) ++ [10] ++ joinW 32 (wordsA a)) = [[35, 32, 120], [], joinW 32 (wordsA a), 35 :: joinW 32 (wordsA a), joinW 32 (wordsA a)] := by
    generalize joinW 32 (wordsA a) = s at hno
    have e1 : [35, 32, 120, 10, 10] ++ s ++ [10, 35] ++ s ++ [10] ++ s = [35, 32, 120] ++ 10 :: ([] ++ 10 :: (s ++ 10 :: ((35 :: s) ++ 10 :: s))) := by simp
    rw [e1, split_at (by decide), split_at (by simp), split_at hno, split_at (by simp [hno]), split_none hno]
  unfold linesA
  rw [e]
  simp only [linesGo]
  rw [if_neg (by decide), if_pos (.inr rfl), if_neg (by decide), if_pos (.inl trivial), if_neg (by decide), if_neg hne, hp, if_neg (by simp), if_neg (by decide), if_pos (.inr rfl), if_neg (by decide), if_neg hne, if_neg (by simp)]
  rfl
end Go.Txt
end
section
/- Contracts of the library's functions at this program: laid by program off the shelf, in plain words. -/
namespace Go.Proofs
open Go.Shelf
open Go.RowKit in
def Tryz.lays143_ren : Go.Shelf.Ren := ⟨fun | 143 => 67 | 219 => 85 | 217 => 89 | 225 => 99 | 224 => 100 | 267 => 101 | 266 => 105 | 314 => 115 | n => n, fun | 9 => 9 | 3 => 3 | 4 => 4 | 5 => 5 | 46 => 142 | 146 => 156 | 51 => 153 | n => n, fun | 1 => 2 | n => n⟩
theorem Tryz.lays143 : Go.Proofs.Lays.n143 Tryz.prog Tryz.lays143_ren := {
  mixed := by kernel_rfl
  f143 := Tryz.func67.trans (congrArg some (by kernel_rfl))
  f217 := Tryz.func89.trans (congrArg some (by kernel_rfl))
  f219 := Tryz.func85.trans (congrArg some (by kernel_rfl))
  f224 := Tryz.func100.trans (congrArg some (by kernel_rfl))
  f225 := Tryz.func99.trans (congrArg some (by kernel_rfl))
  f266 := Tryz.func105.trans (congrArg some (by kernel_rfl))
  f267 := Tryz.func101.trans (congrArg some (by kernel_rfl))
  f314 := Tryz.func115.trans (congrArg some (by kernel_rfl))
  t3 := Tryz.underlying3
  a3 := Tryz.isAgg3
  z3 := Tryz.sizeOf3
  v3 := Tryz.zeroValue3
  t4 := Tryz.underlying4
  a4 := Tryz.isAgg4
  z4 := Tryz.sizeOf4
  v4 := Tryz.zeroValue4
  t5 := Tryz.underlying5
  a5 := Tryz.isAgg5
  z5 := Tryz.sizeOf5
  v5 := Tryz.zeroValue5
  t9 := Tryz.underlying9
  a9 := Tryz.isAgg9
  z9 := Tryz.sizeOf9
  v9 := Tryz.zeroValue9
  t46 := Tryz.underlying142
  a46 := Tryz.isAgg142
  z46 := Tryz.sizeOf142
  v46 := Tryz.zeroValue142
  t51 := Tryz.underlying153
  a51 := Tryz.isAgg153
  z51 := Tryz.sizeOf153
  v51 := Tryz.zeroValue153
  t146 := Tryz.underlying156
  a146 := Tryz.isAgg156
  z146 := Tryz.sizeOf156
  v146 := Tryz.zeroValue156
  g1 := by kernel_rfl }
open Go.RowKit Go.Lib in
/-- strings.Index: "Index returns the index of the first instance of substr in s, or -1 if substr is not present in s.": AT A substr OF ONE BYTE c: IT RETURNS 'Lib.indexByte s c'; the world is as it was. (LAID: no walk: one application.) -/
theorem Tryz.strings_Index_one (s : ByteArray) (c : UInt8) (w : World) :
    Calls Tryz.prog 67 #[.string s, .string ⟨#[c]⟩] w fun e w' => e = .returned (.int .i64 (Lib.indexByte s.data.toList c)) ∧ w' = w := Any.strings_Index_one Tryz.lays143 s c w
end Go.Proofs
end
section
set_option linter.unusedVariables false
set_option linter.unusedSimpArgs false
namespace Go.Proofs.YtfchlkeekmabfaaGreatDoor
open Go Go.Abs Go.RowKit Go.Bk Go.Msg Go.Txt
theorem plain_e1 {a : Ak} (k : a.kind = 1) : plainA a = ⟨1, a.venue, ⟨a.ord.id, a.ord.acc, a.ord.sym, a.ord.buy, a.ord.qty, a.ord.price, 0, false⟩, [], ⟨[], [], [], [], [], 0, false, 0, 0, 0⟩, 0, false, ⟨[], [], 0, 0, 0, 0⟩⟩ := by unfold plainA; rw [if_pos k]; rfl
theorem plain_e2 {a : Ak} (k : a.kind = 2) : plainA a = ⟨2, a.venue, ⟨a.ord.id, [], [], false, a.ord.qty, a.ord.price, 0, false⟩, a.id, zeroX, 0, false, Txt.zeroL⟩ := by unfold plainA; rw [if_neg (by omega), if_pos k]
theorem plain_e3 {a : Ak} (k : a.kind = 3) : plainA a = ⟨3, a.venue, Txt.zeroO, [], a.exec, 0, false, Txt.zeroL⟩ := by unfold plainA; rw [if_neg (by omega), if_neg (by omega), if_pos k]
theorem plain_e4 {a : Ak} (k : a.kind = 4) : plainA a = ⟨4, 0, Txt.zeroO, [], zeroX, a.now, false, Txt.zeroL⟩ := by unfold plainA; rw [if_neg (by omega), if_neg (by omega), if_neg (by omega), if_pos k]
theorem plain_e5 {a : Ak} (k : a.kind = 5) : plainA a = ⟨5, 0, Txt.zeroO, [], zeroX, 0, a.on, Txt.zeroL⟩ := by unfold plainA; rw [if_neg (by omega), if_neg (by omega), if_neg (by omega), if_neg (by omega), if_pos k]
theorem plain_e6 {a : Ak} (k : a.kind = 6) : plainA a = ⟨6, a.venue, Txt.zeroO, [], zeroX, 0, a.on, Txt.zeroL⟩ := by unfold plainA; rw [if_neg (by omega), if_neg (by omega), if_neg (by omega), if_neg (by omega), if_neg (by omega), if_pos k]
theorem plain_e8 {a : Ak} (k : a.kind = 8) : plainA a = ⟨8, 0, Txt.zeroO, [], zeroX, 0, false, a.lim⟩ := by unfold plainA; rw [if_neg (by omega), if_neg (by omega), if_neg (by omega), if_neg (by omega), if_neg (by omega), if_neg (by omega), if_pos k]
theorem plain_e7 {a : Ak} (k : ¬ a.kind = 1 ∧ ¬ a.kind = 2 ∧ ¬ a.kind = 3 ∧ ¬ a.kind = 4 ∧ ¬ a.kind = 5 ∧ ¬ a.kind = 6 ∧ ¬ a.kind = 8) : plainA a = ⟨a.kind, a.venue, Txt.zeroO, [], zeroX, 0, false, Txt.zeroL⟩ := by
  obtain ⟨h1, h2, h3, h4, h5, h6, h8⟩ := k
  unfold plainA; rw [if_neg h1, if_neg h2, if_neg h3, if_neg h4, if_neg h5, if_neg h6, if_neg h8]
set_option maxHeartbeats 4000000 in
set_option maxRecDepth 8000 in
theorem r20plain_c (a : Ak) : ACalls E 15 [akV a] (fun r t => r = akV (plainA a) ∧ t = []) := by -- checkroll/checkrollref20.Plain
  refine ACalls.of_awp (n := 79) (rs := [.cell 2 29]) Tryz.func15 rfl Tryz.ntmps15 rfl ?_
  repeat' (first
    | refine AWP.seqk fun K hK => ?_
    | (refine AWP.region ?_; simp only [go_sem])
    | (refine hK _ ?_; clear hK K)
    | refine AWP.block ?_
    | refine AWP.cond rfl (fun c => ?_) (fun c => ?_) <;> first | exact Bool.noConfusion c | (try simp only [dD] at c)
    | refine AWP.skip ?_
    | (refine AWP.exit ?_; simp only [go_sem])
    | (refine AGuard.splitN (fun h => ?_) (fun h => ?_) <;> simp only [h, go_sem] <;> (try simp only [dD] at h))
    | (refine AGuard.split (fun h => ?_) (fun h => ?_) <;> simp only [h, go_sem] <;> (try simp only [dD] at h))
    | (refine AGet.haveM (by assumption) ?_; (try simp only [go_sem]))
    | (refine AGet.have' (by assumption) ?_; (try simp only [go_sem]))
    | ((first | refine AGet.nth ?_ (fun b hb => ?_) | refine AGet.nth1 ?_ (fun b hb => ?_) | with_reducible refine And.intro ?_ ?_); (focus (first | omega | assumption | exact List.length_pos_iff.2 (by assumption) | (simp only [List.length_append, List.length_cons, List.length_nil, List.length_map, List.length_take, List.length_drop] at *; omega) | (rw [wrap64_id (by omega) (by omega)]; omega) | (simp; done) | (simp [spare_len]; done) | (exact ⟨by omega, by omega⟩))); (try simp only [hb, go_sem]))
    | (
        refine AWP.ret ?_
        refine AEnd.is ?_; simp only [go_sem, out_v, out_s, out_n, v_int, v_bool, v_str] <;> (first | (exfalso; omega) | (have e := plain_e1 (by assumption); rw [e]; simp [*]; done) | (have e := plain_e2 (by assumption); rw [e]; simp [*, zeroX, Txt.zeroL]; done) | (have e := plain_e3 (by assumption); rw [e]; simp [*, Txt.zeroO, Txt.zeroL]; done) | (have e := plain_e4 (by assumption); rw [e]; simp [*, Txt.zeroO, zeroX, Txt.zeroL]; done) | (have e := plain_e5 (by assumption); rw [e]; simp [*, Txt.zeroO, zeroX, Txt.zeroL]; done) | (have e := plain_e6 (by assumption); rw [e]; simp [*, Txt.zeroO, zeroX, Txt.zeroL]; done) | (have e := plain_e8 (by assumption); rw [e]; simp [*, Txt.zeroO, zeroX]; done) | (have e := plain_e7 ⟨by omega, by omega, by omega, by omega, by omega, by omega, by omega⟩; rw [e]; simp [zeroX, Txt.zeroO, Txt.zeroL]; done) | skip))
    | refine AWP.fin (by assumption) ?_
    | fail)

end Go.Proofs.YtfchlkeekmabfaaGreatDoor
end
section
/- From a law's contract to its row: what is read at the start, and what the listed variables hold. -/
namespace Go.Proofs.YtfchlkeekmabfaaGreatDoor
open Go.ChangeShapes Go.WideShapes Go.ChangeAt Go.RowKit Go.Joins Go.Abs Go.Fld Go.Msg Go.Txt
set_option linter.unusedVariables false
set_option linter.unusedSimpArgs false

theorem own : ownKnob Tryz.prog.godebug = none := by kernel_rfl
theorem laidOut : laidOutB Tryz.prog = true := by kernel_rfl
abbrev laidL : List (String × DataW Unit) := [("math/bits.deBruijn32tab", Rows.laid_math_bits_deBruijn32tab), ("math/bits.deBruijn64tab", Rows.laid_math_bits_deBruijn64tab), ("internal/strconv.uint64pow10", Rows.laid_internal_strconv_uint64pow10), ("unicode/utf8.acceptRanges", Rows.laid_unicode_utf8_acceptRanges), ("strconv.ErrRange", Rows.laid_strconv_ErrRange), ("strconv.ErrSyntax", Rows.laid_strconv_ErrSyntax), ("checkroll/text.asks", Rows.laid_checkroll_text_asks), ("checkroll/text.execs", Rows.laid_checkroll_text_execs), ("unicode/utf8.first", Rows.laid_unicode_utf8_first)]
theorem gPow : Tryz.prog.globalNamed "internal/strconv.uint64pow10" = some 5 := by kernel_rfl

set_option maxRecDepth 100000 in
theorem door_met (os : Os) (args : Array Value) : laidMetH Tryz.prog laidL ((World.laidAll Tryz.prog os laidL).forCall (fun _ _ => 0) ⟨#[], args, []⟩).memory := by
  rw [MakeChecks.laidMetH_plain _ _ _ (by kernel_rfl)]; exact laidMet_laidAll _ (by kernel_rfl) (by kernel_rfl)

theorem tPow : (Tryz.prog.globals[5]?).map (·.type) = some 152 := by kernel_rfl
theorem uPow : Tryz.prog.underlying 152 = some (.array 20 116) := by kernel_rfl
theorem u68 : Tryz.prog.underlying 116 = some (.int .u64) := by kernel_rfl
theorem c68 : Tryz.prog.cellsOf 116 = 1 := by kernel_rfl
theorem cPow : Tryz.prog.cellsOf 152 = 20 := by kernel_rfl
theorem gErr : ∃ g, Tryz.prog.globalNamed "strconv.ErrRange" = some g ∧ (Tryz.prog.globals[g]?).map (·.type) = some 87 := ⟨7, by kernel_rfl, by kernel_rfl⟩
theorem u84 : Tryz.prog.underlying 87 = some (.interface #[("Error", 72)]) := by kernel_rfl
theorem pow_eq : Rows.laid_internal_strconv_uint64pow10 (H := Unit) = Lib.tabData .u64 Lib.pow10Tab := by kernel_rfl

theorem gAsks : Tryz.prog.globalNamed "checkroll/text.asks" = some 0 := by kernel_rfl
theorem gExecs : Tryz.prog.globalNamed "checkroll/text.execs" = some 1 := by kernel_rfl
theorem tAsks : (Tryz.prog.globals[0]?).map (·.type) = some 63 := by kernel_rfl
theorem tExecs : (Tryz.prog.globals[1]?).map (·.type) = some 63 := by kernel_rfl
theorem uTab : Tryz.prog.underlying 63 = some (.array 9 9) := by kernel_rfl
theorem uStr : Tryz.prog.underlying 9 = some .string := by kernel_rfl
theorem cStr : Tryz.prog.cellsOf 9 = 1 := by kernel_rfl
theorem cTab : Tryz.prog.cellsOf 63 = 9 := by kernel_rfl
def wordData {H : Type} (zs : List (List UInt8)) : DataW H := .agg (zs.map fun z => .lit (.string z))
theorem cells_of_words {H : Type} {enc : TypeId × Value → H} {P : Program} {w : World} {base : Nat} {sp : Nat → Bool} {held : Bool} {fuel : Nat} {t e : TypeId} {n : Nat} {cs : List Value} {zs : List (List UInt8)} {p : List MemPlace}
    (ht : P.underlying t = some (.array n e)) (he : P.underlying e = some .string) (hce : P.cellsOf e = 1) (hct : P.cellsOf t = n)
    (h : DataW.trod enc P w base sp held fuel t cs = some (wordData zs, p)) : cs = zs.map fun z => Value.string ⟨z.toArray⟩ := by
  cases fuel with
  | zero => simp [DataW.trod] at h
  | succ fuel =>
    simp only [DataW.trod, ht, hce, hct, Nat.mul_one] at h
    split at h
    · rename_i hl
      obtain ⟨xs, hm, hx⟩ := Option.map_eq_some_iff.1 h
      have hxs : xs.map (·.1) = zs.map fun z => (DataW.lit (.string z) : DataW H) := by
        have := congrArg Prod.fst hx
        simpa [wordData] using this
      have hxl : xs.length = n := by simpa using Lib.mapM_length hm
      have hzl : zs.length = n := by
        have := congrArg List.length hxs
        simp at this
        omega
      apply List.ext_getElem?
      intro i
      by_cases hi : i < n
      · obtain ⟨b, hb, hf⟩ := Lib.mapM_at hm i i (by simp [hi])
        obtain ⟨z, hc, rfl, _⟩ := DataW.trod_string he hf
        have h1 : cs[i]? = some (.string z) := by
          have := congrArg (·[0]?) hc
          simpa [List.getElem?_take, List.getElem?_drop] using this
        have h2 : (xs.map (·.1))[i]? = some (DataW.lit (.string z.data.toList) : DataW H) := by simp [hb]
        rw [hxs] at h2
        simp only [List.getElem?_map, Option.map_eq_some_iff, DataW.lit.injEq, Lit.string.injEq] at h2
        obtain ⟨z', hz', he'⟩ := h2
        rw [h1, List.getElem?_map, hz', he']; simp
      · rw [List.getElem?_eq_none (by omega), List.getElem?_eq_none (by simp; omega)]
    · cases h
theorem asks_eq : Rows.laid_checkroll_text_asks (H := Unit) = wordData Txt.askN := by kernel_rfl
theorem execs_eq : Rows.laid_checkroll_text_execs (H := Unit) = wordData Txt.exN := by kernel_rfl
theorem holds_of {w : World} {g : Nat} {n : String} {zs : List (List UInt8)} (hg : Tryz.prog.globalNamed n = some g) (h : w.var? Tryz.prog n = some (zs.map fun z => Value.string ⟨z.toArray⟩).toArray) : holdsW w g zs := by
  intro j s hs
  unfold World.var? at h
  simp only [hg, Option.bind_some] at h
  split at h
  · rename_i cells ty fr hh
    simp only [Option.some.injEq] at h
    subst h
    simp only [World.cell?, hh, Option.isSome_none, Bool.false_eq_true, if_false]
    simp [hs]
  · cases h
set_option maxRecDepth 100000 in
/-- What the listed variables hold, as the walks want it. -/
theorem okW_of {W : World} (h : laidMetH Tryz.prog laidL W) (hsh : W.ShapedOpen Tryz.prog) : okW W := by
  rw [MakeChecks.laidMetH_plain _ _ _ (by kernel_rfl)] at h
  obtain ⟨ps, ⟨g0, t0, cs0, f0, p0, q0, hg0, ht0, hv0, hd0, ⟨g1, t1, cs1, f1, p1, q1, hg1, ht1, hv1, hd1, ⟨g2, t2, cs2, f2, p2, q2, hg2, ht2, hv2, hd2, ⟨g3, t3, cs3, f3, p3, q3, hg3, ht3, hv3, hd3, ⟨g4, t4, cs4, f4, p4, q4, hg4, ht4, hv4, hd4, ⟨g5, t5, cs5, f5, p5, q5, hg5, ht5, hv5, hd5, ⟨g6, t6, cs6, f6, p6, q6, hg6, ht6, hv6, hd6, ⟨g7, t7, cs7, f7, p7, q7, hg7, ht7, hv7, hd7, _, _⟩, _⟩, _⟩, _⟩, _⟩, _⟩, _⟩, _⟩, _, _⟩ := h
  refine ⟨⟨?_, ?_, Tryz.laysM146.s1_3 W hsh⟩, ?_, ?_⟩
  · obtain rfl := Option.some.inj (gPow.symm.trans hg2)
    obtain rfl := Option.some.inj (tPow.symm.trans ht2)
    rw [pow_eq] at hd2
    unfold Lib.TabIs
    rw [hv2, ← Lib.cells_of_tab uPow u68 c68 cPow hd2]
  · obtain ⟨g, hg, ht⟩ := gErr
    obtain rfl := Option.some.inj (hg.symm.trans hg4)
    obtain rfl := Option.some.inj (ht.symm.trans ht4)
    obtain ⟨f', u, v, e, _, _⟩ := iface_of_trod u84 hd4
    refine ⟨u, v, ?_⟩
    rw [hv4]
    congr 1
    apply Array.ext'
    simpa using e
  · obtain rfl := Option.some.inj (gAsks.symm.trans hg6)
    obtain rfl := Option.some.inj (tAsks.symm.trans ht6)
    rw [asks_eq] at hd6
    exact holds_of gAsks (by rw [hv6, ← cells_of_words uTab uStr cStr cTab hd6])
  · obtain rfl := Option.some.inj (gExecs.symm.trans hg7)
    obtain rfl := Option.some.inj (tExecs.symm.trans ht7)
    rw [execs_eq] at hd7
    exact holds_of gExecs (by rw [hv7, ← cells_of_words uTab uStr cStr cTab hd7])

section
variable {H : Type} {enc : TypeId × Value → H}

/-- A row with listed variables, its contract in a world of the right shape. -/
theorem returns_laid {a : Assume} {C : Checked} {os : Os} {f : FuncId} {fn : Func} {s : ChangeSpec} {conds : List PathCond} {apart fresh handsOn again : Bool} {X : World → Array Value → Prop}
    (hX : ∀ (w w' : World) (args : Array Value), w.heap = w'.heap → X w args → X w' args)
    (own : ownKnob C.prog.godebug = none) (started : os.Started) (noInit : C.prog.inits.idxOf? f = none) (hfn : C.prog.funcs[f]? = some fn)
    (witness : ∃ (w : World) (tape : Tape) (i : Input), w.os = os ∧ (w.forCall tape i).Shaped C.prog ∧ i.vars = [] ∧ Input.okWide C.prog (w.forCall tape i) .any w.heap.size f i ∧
      ((s.pre enc C.prog fn conds apart (w.forCall tape i).memory i.args ∧ X (w.forCall tape i).memory i.args) ∧ sizedMet enc C.prog fn (OpenSpec.ofChange s) apart (w.forCall tape i).memory i.args) ∧ a.holds C.prog (lone (Frame.enter C.prog f i.args .normal) [] (w.forCall tape i)))
    (contract : ∀ (W : World) (base : Nat) (args : Array Value) (ds gs : List (DataW H)) (before : List MemPlace),
      (∀ (j : Nat) t v, fn.params[j]? = some t → args[j]? = some v → Value.okWide C.prog W .any base t v) →
      DataW.Whole enc C.prog fn.params.toList s.vars apart W args.toList ds gs before → W.ShapedOpen C.prog → X W args →
      Calls C.prog f args W fun e W' => ∃ v, e = .returned v ∧ s.post enc C.prog fn apart fresh handsOn again W args v W') :
    ReturnsInHanded a C os f .any (fun w args => (s.pre enc C.prog fn conds apart w args ∧ X w args) ∧ sizedMet enc C.prog fn (OpenSpec.ofChange s) apart w args) (s.post enc C.prog fn apart fresh handsOn again) := by
  refine returnsInHanded_of_calls own started noInit witness ?_
  intro w tape i _ hsh _ hok hpre hholds
  obtain ⟨_, _, _, fn', hfn', _, _, _, _, hval⟩ := hok
  have e : fn' = fn := Option.some.inj (hfn'.symm.trans hfn)
  subst e
  obtain ⟨⟨⟨ds, gs, before, hw, hc⟩, hx⟩, hz⟩ := hpre
  have hw' := DataW.Whole.of_heap (w' := w.forCall tape i) (by rfl) hw
  refine (contract (w.forCall tape i) w.heap.size i.args ds gs before hval hw' hsh (hX _ _ _ (by rfl) hx)).mono fun e W' ⟨v, he, hp⟩ => ?_
  subst he
  exact ChangeSpec.post_blind hp

variable {w : World} {r : Reach} {b0 base : Nat} {spare : Nat → Bool} {held : Bool} {v : Value} {d : DataW H} {ps : List MemPlace}
theorem c23 : Tryz.prog.cellsOf 23 = 8 := by kernel_rfl
theorem c25 : Tryz.prog.cellsOf 25 = 10 := by kernel_rfl
theorem c27 : Tryz.prog.cellsOf 27 = 6 := by kernel_rfl
theorem c29 : Tryz.prog.cellsOf 29 = 29 := by kernel_rfl
set_option maxRecDepth 100000 in
theorem arg_ask (hv : Value.okWide Tryz.prog w r b0 29 v) (hd : DataW.Trod enc Tryz.prog w base spare held 29 v d ps) : ∃ a : Ak, akOk a ∧ VR0 (imOf w) (akV a) v := by
  obtain ⟨ls, h, hx⟩ := arg_struct Tryz.underlying29
    (reads_struct Tryz.underlying29 rfl c29 (readsF_cons (reads_int Tryz.underlying3) (by kernel_rfl) rfl (readsF_cons (reads_int Tryz.underlying3) (by kernel_rfl) rfl (readsF_cons (reads_struct Tryz.underlying23 rfl c23 (readsF_cons (reads_string Tryz.underlying9) (by kernel_rfl) rfl (readsF_cons (reads_string Tryz.underlying9) (by kernel_rfl) rfl (readsF_cons (reads_string Tryz.underlying9) (by kernel_rfl) rfl (readsF_cons (reads_bool Tryz.underlying4) (by kernel_rfl) rfl (readsF_cons (reads_int Tryz.underlying2) (by kernel_rfl) rfl (readsF_cons (reads_int Tryz.underlying2) (by kernel_rfl) rfl (readsF_cons (reads_int Tryz.underlying2) (by kernel_rfl) rfl (readsF_cons (reads_bool Tryz.underlying4) (by kernel_rfl) rfl (readsF_nil 8)))))))))) (by kernel_rfl) rfl (readsF_cons (reads_string Tryz.underlying9) (by kernel_rfl) rfl (readsF_cons (reads_struct Tryz.underlying25 rfl c25 (readsF_cons (reads_string Tryz.underlying9) (by kernel_rfl) rfl (readsF_cons (reads_string Tryz.underlying9) (by kernel_rfl) rfl (readsF_cons (reads_string Tryz.underlying9) (by kernel_rfl) rfl (readsF_cons (reads_string Tryz.underlying9) (by kernel_rfl) rfl (readsF_cons (reads_string Tryz.underlying9) (by kernel_rfl) rfl (readsF_cons (reads_int Tryz.underlying3) (by kernel_rfl) rfl (readsF_cons (reads_bool Tryz.underlying4) (by kernel_rfl) rfl (readsF_cons (reads_int Tryz.underlying2) (by kernel_rfl) rfl (readsF_cons (reads_int Tryz.underlying2) (by kernel_rfl) rfl (readsF_cons (reads_int Tryz.underlying2) (by kernel_rfl) rfl (readsF_nil 10)))))))))))) (by kernel_rfl) rfl (readsF_cons (reads_int Tryz.underlying2) (by kernel_rfl) rfl (readsF_cons (reads_bool Tryz.underlying4) (by kernel_rfl) rfl (readsF_cons (reads_struct Tryz.underlying27 rfl c27 (readsF_cons (reads_string Tryz.underlying9) (by kernel_rfl) rfl (readsF_cons (reads_string Tryz.underlying9) (by kernel_rfl) rfl (readsF_cons (reads_int Tryz.underlying2) (by kernel_rfl) rfl (readsF_cons (reads_int Tryz.underlying2) (by kernel_rfl) rfl (readsF_cons (reads_int Tryz.underlying2) (by kernel_rfl) rfl (readsF_cons (reads_int Tryz.underlying2) (by kernel_rfl) rfl (readsF_nil 6)))))))) (by kernel_rfl) rfl (readsF_nil 29)))))))))) hv hd
  obtain ⟨_, _, ⟨k, _, rfl⟩, ⟨_, _, ⟨vn, _, rfl⟩, ⟨_, _, ⟨_, _, ⟨s1, hs1, rfl⟩, ⟨_, _, ⟨s2, hs2, rfl⟩, ⟨_, _, ⟨s3, hs3, rfl⟩, ⟨_, _, ⟨b4, rfl⟩, ⟨_, _, ⟨n5, _, rfl⟩, ⟨_, _, ⟨n6, _, rfl⟩, ⟨_, _, ⟨n7, _, rfl⟩, ⟨_, _, ⟨b8, rfl⟩, rfl, rfl⟩, rfl⟩, rfl⟩, rfl⟩, rfl⟩, rfl⟩, rfl⟩, rfl⟩, ⟨_, _, ⟨d1, hd1, rfl⟩, ⟨_, _, ⟨_, _, ⟨x1, hx1, rfl⟩, ⟨_, _, ⟨x2, hx2, rfl⟩, ⟨_, _, ⟨x3, hx3, rfl⟩, ⟨_, _, ⟨x4, hx4, rfl⟩, ⟨_, _, ⟨x5, hx5, rfl⟩, ⟨_, _, ⟨x6, _, rfl⟩, ⟨_, _, ⟨x7, rfl⟩, ⟨_, _, ⟨x8, _, rfl⟩, ⟨_, _, ⟨x9, _, rfl⟩, ⟨_, _, ⟨x10, _, rfl⟩, rfl, rfl⟩, rfl⟩, rfl⟩, rfl⟩, rfl⟩, rfl⟩, rfl⟩, rfl⟩, rfl⟩, rfl⟩, ⟨_, _, ⟨w0, _, rfl⟩, ⟨_, _, ⟨o, rfl⟩, ⟨_, _, ⟨_, _, ⟨l1, hl1, rfl⟩, ⟨_, _, ⟨l2, hl2, rfl⟩, ⟨_, _, ⟨l3, _, rfl⟩, ⟨_, _, ⟨l4, _, rfl⟩, ⟨_, _, ⟨l5, _, rfl⟩, ⟨_, _, ⟨l6, _, rfl⟩, rfl, rfl⟩, rfl⟩, rfl⟩, rfl⟩, rfl⟩, rfl⟩, rfl, rfl⟩, rfl⟩, rfl⟩, rfl⟩, rfl⟩, rfl⟩, rfl⟩, rfl⟩ := h
  unfold maxLen at hs1 hs2 hs3 hd1 hx1 hx2 hx3 hx4 hx5 hl1 hl2
  exact ⟨⟨k, vn, ⟨s1, s2, s3, b4, n5, n6, n7, b8⟩, d1, ⟨x1, x2, x3, x4, x5, x6, x7, x8, x9, x10⟩, w0, o, ⟨l1, l2, l3, l4, l5, l6⟩⟩, ⟨hs1, hs2, hs3, hd1, hl1, hl2, hx1, hx2, hx3, hx4, hx5⟩, hx⟩
end
end Go.Proofs.YtfchlkeekmabfaaGreatDoor
end
section
set_option linter.unusedVariables false
set_option linter.unusedSimpArgs false

/- 'for .. := range f', told in two lemmas: the statement over its iterator's call, one round over its body. The invariants are the user's own: an iterator may write what it captured. -/
namespace Go
open Go.RowKit

/-- The blocks of L lie as they lay. -/
def SameAt (L : List Nat) (A B : World) : Prop := ∀ b ∈ L, B.heap[b]? = A.heap[b]?
theorem SameAt.refl (L : List Nat) (A : World) : SameAt L A A := fun _ _ => rfl
theorem SameAt.trans {L : List Nat} {A B C : World} (h : SameAt L A B) (k : SameAt L B C) : SameAt L A C := fun b hb => (k b hb).trans (h b hb)

/-- The loop's record. -/
def lpR (fn : FuncId) (tmps : Array Value) (ps : Array Tmp) (assign body : Code) (D : Nat) (st : LoopState) (pe : Option Code) : Loop :=
  { state := st, pending := pe, fn, tmps, params := ps, assign, body, defers := D }

section
variable {F : Fence} {n : Nat} {P : Program}

/-- How a body may end: on, or by a return. -/
def bodyEnd (l : Nat) (r : Loop) (R : Bool → World → Prop) : Exit → Act → World → Prop
  | .normal, _, W => W.heap[l]? = some (.loop r) ∧ R true W
  | .ret, _, W => W.heap[l]? = some (.loop r) ∧ R false W
  | _, _, _ => False
def jumpOf (b : Bool) : Option Code := if b then none else some .ret

theorem rf_round {l D : Nat} {fn : FuncId} {tmps : Array Value} {ps : Array Tmp} {assign body : Code} {W : World} (xs : Array Value) (hfn : F.fn fn) (hps : xs.size = ps.size)
    (hl : W.heap[l]? = some (.loop (lpR fn tmps ps assign body D .ready none))) (a₁ : Act) {R : Bool → World → Prop}
    (hassign : ∀ K : Act → World → Prop, K a₁ W → assign.wpIn (F.inRound l) n P (Exit.then K (fun _ _ _ => False)) { tmps := (ps.zip xs).foldl (fun t (p, v) => t.setIfInBounds p v) tmps, defers := [] } W)
    (hbody : body.wpIn (F.inRound l) n P (bodyEnd l (lpR fn tmps ps assign body D .busy none) R) a₁ (W.putObj l (.loop (lpR fn tmps ps assign body D .busy none)))) :
    YieldAt F n P l xs W fun e W' => ∃ (b : Bool) (W3 : World), e = .returned (.bool b) ∧ R b W3 ∧ W3.heap[l]? = some (.loop (lpR fn tmps ps assign body D .busy none)) ∧
      W' = W3.putObj l (.loop (lpR fn tmps ps assign body D (if b then .ready else .done) (jumpOf b))) := by
  refine ⟨fn, _, assign, body, run_yield hl hps, roundIn_of_wpIn hfn (hassign _ ⟨_, run_beginRound hl rfl, wpIn_mono hbody fun e a W3 hp => ?_⟩)⟩
  cases e with
  | normal => exact ⟨_, _, run_endRound none hp.1, true, W3, rfl, hp.2, hp.1, rfl⟩
  | ret => exact ⟨_, _, run_endRound (some .ret) hp.1, false, W3, rfl, hp.2, hp.1, rfl⟩
  | exit id => exact hp.elim
  | goto t => exact hp.elim
  | panic ch => exact hp.elim
  | outgrown => exact hp.elim

theorem rf_loop {g : Operand} {ps : Array Tmp} {assign body : Code} {Q : Exit → Act → World → Prop} {a : Act} {w : World} (hro : F.round = none) (h1 : 1 ≤ n) {gf : Nat} {lb : Array Value}
    (hg : a.eval g = .func (.func gf) #[] lb) (hFg : F.fn gf) (eg : ∀ args w, (callFunc gf args).run P w = .ok (.enter gf args) w)
    (h : ∀ fn, F.fn fn → CallsIn F (n - 1) P gf (#[.func (.yield (w.heap.size + 1)) #[] #[]] ++ lb)
      ((w.alloc (.deferred (some []))).alloc (.loop (lpR fn a.tmps ps assign body w.heap.size .ready none))) fun e W => ∃ (v : Value) (b : Bool), e = .returned v ∧
        W.heap[w.heap.size + 1]? = some (.loop (lpR fn a.tmps ps assign body w.heap.size (if b then .ready else .done) (jumpOf b))) ∧
        ∀ o : Loop, if b then Q .normal { a with defers := { target := .collected w.heap.size, args := #[] } :: a.defers } (W.putObj (w.heap.size + 1) (.loop o))
          else Q .ret { a with defers := { target := .collected w.heap.size, args := #[] } :: a.defers } (W.putObj (w.heap.size + 1) (.loop o))) :
    (Code.rangeFunc g ps assign body).wpIn F n P Q a w := by
  refine wpIn_rangeFunc fun fn hfn => ?_
  rw [hro]
  refine ⟨_, _, _, { target := .fn (.func gf) lb, args := #[.func (.yield (w.heap.size + 1)) #[] #[]] }, (w.alloc (.deferred (some []))).alloc (.loop (lpR fn a.tmps ps assign body w.heap.size .ready none)), gf, _, _, run_enterLoop_outer _ _ _ _ _, ?_, ?_, ?_, fun _ => h1, (h fn hfn).mono ?_⟩
  · simp only [resolve, hg]; simp [go_sem, lpR]
  · intro f' hf'; simp [Target.leads] at hf'; subst hf'; exact hFg
  · simp [invoke, go_sem, eg]
  · rintro e W ⟨v, b, rfl, hl, hq⟩
    cases b with
    | true => exact ⟨none, _, run_endLoop hl (by simp [lpR]), by simpa using hq _⟩
    | false => exact ⟨some .ret, _, run_endLoop hl (by simp [lpR]), wpIn_ret (by simpa using hq _)⟩
end
end Go
end
section
set_option linter.unusedVariables false
set_option linter.unusedSimpArgs false

/- strings.SplitSeq's iterator. -/
namespace Go.Proofs.YtfchlkeekmabfaaGreatDoor
open Go Go.RowKit Go.Shelf Go.Txt
attribute [local go_sem] Oper.semAt_some

theorem idx_cases (c : UInt8) (r : List UInt8) : (c ∉ r ∧ Lib.indexByte r c = -1) ∨ ∃ a b, r = a ++ c :: b ∧ c ∉ a ∧ Lib.indexByte r c = (a.length : Int) := by
  rw [Fld.index_cut]
  cases h : Fld.cutB c r with
  | none => exact .inl ⟨Fld.cutB_none.1 h, rfl⟩
  | some p => obtain ⟨a, b⟩ := p; obtain ⟨h1, h2⟩ := Fld.cutB_some.1 h; exact .inr ⟨a, b, h1, h2, rfl⟩

def boxLen (W : World) (b : Nat) : Nat := match W.cell? ⟨b, 0, none⟩ with | some (.string s) => s.data.size | _ => 0
theorem boxLen_eq {W : World} {b t : Nat} {s : ByteArray} (h : Boxed W b t (.string s)) : boxLen W b = s.data.size := by simp [boxLen, h.cell]
theorem Boxed.same {L : List Nat} {A B : World} {b t : Nat} {v : Value} (h : Boxed A b t v) (k : SameAt L A B) (hb : b ∈ L) : Boxed B b t v := (k b hb).trans h
theorem Boxed.off {W : World} {b b' t : Nat} {v : Value} (h : Boxed W b t v) (hne : b ≠ b') (u : Value) : Boxed (W.setCell ⟨b', 0, none⟩ u) b t v := (Go.RowKit.Below.heap_setCell _ _ _ _ hne).trans h

set_option maxRecDepth 100000 in
set_option maxHeartbeats 4000000 in
theorem splitSeq1_in (n : Nat) (hn : 1 ≤ n) (l bp bs bv : Nat) (hsp : bs ≠ bp) (hsv : bs ≠ bv) (s : List UInt8) (hlen : s.length ≤ 1000000) (J Jx : List (List UInt8) → World → Prop)
    (hJb : ∀ pre v W, J pre W → J pre (W.setCell ⟨bs, 0, none⟩ v))
    (hY : ∀ pre x W, J pre W → pre.length < (splitW 10 s).length → (∃ rest, splitW 10 s = pre ++ x :: rest) → YieldAt Fence.wide (n - 1) Tryz.prog l #[.string ⟨x.toArray⟩] W fun e W' =>
      (e = .returned (.bool true) ∧ J (pre ++ [x]) W' ∧ SameAt [bp, bs, bv] W W') ∨ (e = .returned (.bool false) ∧ Jx (pre ++ [x]) W'))
    (W : World) (hp : Boxed W bp 9 (.string ⟨#[10]⟩)) (hs : Boxed W bs 9 (.string ⟨s.toArray⟩)) (hv : Boxed W bv 3 (.int .i64 0)) (h0 : J [] W) :
    CallsIn Fence.wide n Tryz.prog 72 #[.func (.yield l) #[] #[], .pointer (some ⟨bp, 0, none⟩), .pointer (some ⟨bs, 0, none⟩), .pointer (some ⟨bv, 0, none⟩)] W fun e W' => (∃ v, e = .returned v) ∧
      (J (splitW 10 s) W' ∨ ∃ pre, Jx pre W') := by
  refine callsIn_of_wp Tryz.func72 rfl trivial ?_ rfl
  simp only [Tryz.ntmps72, List.size_toArray, List.length_cons, List.length_nil, Nat.reduceAdd, Nat.reduceSub, Array.replicate_succ, Array.replicate_zero, List.push_toArray, List.append_toArray, List.nil_append, List.cons_append]
  have hp1 := hp.cell
  have h67 : Fence.wide.fn 67 := trivial
  gi_wp2
  gi_loopw [] (fun wr => ∃ (pre : List (List UInt8)) (rest : List UInt8), rest.length ≤ s.length ∧ splitW 10 s = pre ++ splitW 10 rest ∧ Boxed wr bp 9 (.string ⟨#[10]⟩) ∧ Boxed wr bs 9 (.string ⟨rest.toArray⟩) ∧ Boxed wr bv 3 (.int .i64 0) ∧ J pre wr)
    (fun wr => boxLen wr bs)
  case atStart =>
    exact ⟨[], s, Nat.le_refl _, rfl, hp, hs, hv, h0⟩
  case round =>
    obtain ⟨pre, rest, hrl, hx, ip, is, iv, hJs⟩ := hrel
    have cp := ip.cell
    have cs := is.cell
    have cv := iv.cell
    have fs := is.frozen
    have hidx : ∀ (k : Int), Lib.indexByte rest 10 = k → ∀ W0, CallsIn Fence.wide (n - 1) Tryz.prog 67 #[.string ⟨rest.toArray⟩, .string ⟨#[10]⟩] W0 fun e w' => e = .returned (.int .i64 k) ∧ w' = W0 :=
      fun k hk W0 => (callsIn_wide.2 (Tryz.strings_Index_one ⟨rest.toArray⟩ 10 W0)).mono (by rintro e w' ⟨rfl, rfl⟩; exact ⟨by simp [hk], rfl⟩)
    rcases idx_cases 10 rest with ⟨hno, hi⟩ | ⟨a, b, hab, hna, hi⟩
    · have hsp1 : splitW 10 rest = [rest] := split_none hno
      obtain ⟨fn, tmps, assign, body, hy, hR⟩ := hY pre rest wr hJs (by rw [hx, hsp1]; simp) ⟨[], by rw [hx, hsp1]⟩
      gi_wp2_with (gi_at_call 67; refine (hidx _ hi _).mono ?_; rintro e w' ⟨rfl, rfl⟩)
      refine hR.mono ?_
      rintro e W3 (⟨rfl, hJ3, hk3⟩ | ⟨rfl, hJx3⟩)
      · gi_wp2
        try go_end0
        exact ⟨⟨_, rfl⟩, .inl (by rw [hx, hsp1]; exact hJ3)⟩
      · gi_wp2
        try go_end0
        exact ⟨⟨_, rfl⟩, .inr ⟨_, hJx3⟩⟩
    · have hsp1 : splitW 10 rest = a :: splitW 10 b := by rw [hab, split_at hna]
      have hl1 : a.length + (b.length + 1) = rest.length := by rw [hab]; simp
      have htk : rest.take a.length = a := by rw [hab]; simp
      have hdr : rest.drop (a.length + 1) = b := by rw [hab, List.drop_append]; simp
      clear hab
      have e1 : (⟨rest.toArray⟩ : ByteArray).extract 0 a.length = ⟨a.toArray⟩ := by rw [Lib.extract_mk]; simp [htk]
      have e2 : (⟨rest.toArray⟩ : ByteArray).extract (a.length + 1) rest.length = ⟨b.toArray⟩ := by rw [Lib.extract_mk, hdr, List.take_of_length_le (by omega)]
      obtain ⟨fn, tmps, assign, body, hy, hR⟩ := hY pre a wr hJs (by rw [hx, hsp1]; simp) ⟨_, by rw [hx, hsp1]⟩
      gi_wp2_with (gi_at_call 67; refine (hidx _ hi _).mono ?_; rintro e w' ⟨rfl, rfl⟩)
      refine hR.mono ?_
      rintro e W3 (⟨rfl, hJ3, hk3⟩ | ⟨rfl, hJx3⟩)
      · have ip3 := Boxed.same ip hk3 (by simp)
        have is3 := Boxed.same is hk3 (by simp)
        have iv3 := Boxed.same iv hk3 (by simp)
        have cp3 := ip3.cell
        have cs3 := is3.cell
        have fs3 := is3.frozen
        gi_wp2
        refine ⟨⟨pre ++ [a], b, by omega, by rw [hx, hsp1]; simp, Boxed.off ip3 (Ne.symm hsp) _, is3.set _, Boxed.off iv3 (Ne.symm hsv) _, hJb _ _ _ hJ3⟩, ?_⟩
        rw [boxLen_eq (is3.set _), boxLen_eq is]
        simp; omega
      · gi_wp2
        refine bodyPost_ret (results_none rfl _ _ _) rfl ?_
        exact ⟨⟨_, rfl⟩, .inr ⟨_, hJx3⟩⟩

end Go.Proofs.YtfchlkeekmabfaaGreatDoor
end
section
set_option linter.unusedVariables false
set_option linter.unusedSimpArgs false

/- text.Lines. -/
namespace Go.Proofs.YtfchlkeekmabfaaGreatDoor
open Go Go.RowKit Go.Shelf Go.Txt Go.Msg Go.Bk

def sB (s : List UInt8) : Value := .string ⟨s.toArray⟩
def iB (n : Int) : Value := .int .i64 n
/-- An ask's cells. -/
def akC (a : Ak) : List Value := [iB a.kind, iB a.venue, sB a.ord.id, sB a.ord.acc, sB a.ord.sym, .bool a.ord.buy, iB a.ord.qty, iB a.ord.price, iB a.ord.done, .bool a.ord.opn, sB a.id,
  sB a.exec.id, sB a.exec.ref, sB a.exec.ord, sB a.exec.acc, sB a.exec.sym, iB a.exec.kind, .bool a.exec.buy, iB a.exec.qty, iB a.exec.price, iB a.exec.time, iB a.now, .bool a.on,
  sB a.lim.acc, sB a.lim.sym, iB a.lim.long, iB a.lim.short, iB a.lim.qty, iB a.lim.value]
theorem akC_len (a : Ak) : (akC a).length = 29 := rfl
theorem akC_one (a : Ak) : ∀ u ∈ akC a, u.oneCell' = true := by
  intro u hu
  simp only [akC, sB, iB, List.mem_cons, List.not_mem_nil, or_false] at hu
  rcases hu with h | h | h | h | h | h | h | h | h | h | h | h | h | h | h | h | h | h | h | h | h | h | h | h | h | h | h | h | h <;> subst h <;> rfl
theorem vr_vs {c : Abs.Ctx} {l : List Value} {v : Value} (h : Abs.VR c (.agg (l.map Abs.AV.v)) v) : v = .agg l.toArray := by
  obtain ⟨vs, rfl, hn, hp⟩ := h.inv_agg
  have e : vs = l := by
    apply List.ext_getElem?
    intro i
    rcases Nat.lt_or_ge i l.length with hi | hi
    · have h1 : (l.map Abs.AV.v)[i]? = some (.v l[i]) := by rw [List.getElem?_map, List.getElem?_eq_getElem hi]; rfl
      have h2 : vs[i]? = some (vs[i]'(by rw [hn]; simpa using hi)) := List.getElem?_eq_getElem _
      rw [h2, (hp i _ _ h1 h2).inv_v, List.getElem?_eq_getElem hi]
    · rw [List.getElem?_eq_none hi, List.getElem?_eq_none (by rw [hn]; simpa using hi)]
  rw [e]

/-- text.Parse, in plain words. -/
theorem parse_raw {w W : World} {im : Abs.Im} (hE : okW w) (hG : Abs.GOK E im) (him : ∀ (b o : Nat) (x : Value), im b o = some x → w.cell? ⟨b, o, none⟩ = some x) (hb : Go.RowKit.Below w.heap.size w W)
    (x : List UInt8) (hx : x.length ≤ 100000) :
    Calls Tryz.prog 9 #[.string ⟨x.toArray⟩] W fun e W' => e = .returned (.tuple #[.agg (akC (parseA x).1).toArray, .int .i64 (parseA x).2]) ∧ Go.RowKit.Below W.heap.size W W' := by
  have hm : ∀ (b o : Nat) (y : Value), im b o = some y → W.cell? ⟨b, o, none⟩ = some y := fun b o y h => cell_mono hb (him b o y h)
  refine (tparse_c x hx W im [.string ⟨x.toArray⟩] (E.mono w W hb hE) hG hm ⟨rfl, fun i a v h1 h2 => ?_⟩).mono ?_
  · cases i with
    | zero => simp only [List.getElem?_cons_zero, Option.some.injEq] at h1 h2; subst h1; subst h2; exact .v _
    | succ i => simp at h1
  · rintro e W' ⟨v, r, tks, im', rfl, hbl, -, -, -, -, hv, rfl, -⟩
    refine ⟨?_, hbl.toBelow⟩
    obtain ⟨vs, rfl, hn, hp⟩ := hv.inv_tup
    match vs, hn with
    | [a, b], _ =>
      have h1 := vr_vs (c := _) (l := akC (parseA x).1) (hp 0 _ a rfl rfl)
      have h2 := (hp 1 _ b rfl rfl).inv_v
      subst h1; subst h2; rfl
end Go.Proofs.YtfchlkeekmabfaaGreatDoor
end
section
set_option linter.unusedVariables false
set_option linter.unusedSimpArgs false

/- text.Lines: the loop. -/
namespace Go.Proofs.YtfchlkeekmabfaaGreatDoor
open Go Go.RowKit Go.Shelf Go.Txt Go.Msg Go.Bk
attribute [local go_sem] Oper.semAt_some

set_option maxRecDepth 100000 in
set_option maxHeartbeats 1000000 in
theorem splitSeq_in (n : Nat) (s p : List UInt8) (w : World) :
    CallsIn Fence.wide n Tryz.prog 51 #[.string ⟨s.toArray⟩, .string ⟨p.toArray⟩, .int .i64 0] w fun e w' =>
      e = .returned (.func (.func 72) #[] #[.pointer (some ⟨w.heap.size + 1, 0, none⟩), .pointer (some ⟨w.heap.size, 0, none⟩), .pointer (some ⟨w.heap.size + 2, 0, none⟩)]) ∧
      w' = ((w.alloc (.cells #[.string ⟨s.toArray⟩] 9)).alloc (.cells #[.string ⟨p.toArray⟩] 9)).alloc (.cells #[.int .i64 0] 3) := by
  refine callsIn_of_wp Tryz.func51 rfl trivial ?_ rfl
  simp only [Tryz.ntmps51, List.size_toArray, List.length_cons, List.length_nil, Nat.reduceAdd, Nat.reduceSub, Array.replicate_succ, Array.replicate_zero, List.push_toArray, List.append_toArray, List.nil_append, List.cons_append]
  gi_wp2
  go_ret
  exact ⟨rfl, rfl⟩
set_option maxRecDepth 100000 in
set_option maxHeartbeats 1000000 in
theorem SplitSeq_in (n : Nat) (hn : 1 ≤ n) (s p : List UInt8) (w : World) :
    CallsIn Fence.wide n Tryz.prog 34 #[.string ⟨s.toArray⟩, .string ⟨p.toArray⟩] w fun e w' =>
      e = .returned (.func (.func 72) #[] #[.pointer (some ⟨w.heap.size + 1, 0, none⟩), .pointer (some ⟨w.heap.size, 0, none⟩), .pointer (some ⟨w.heap.size + 2, 0, none⟩)]) ∧
      w' = ((w.alloc (.cells #[.string ⟨s.toArray⟩] 9)).alloc (.cells #[.string ⟨p.toArray⟩] 9)).alloc (.cells #[.int .i64 0] 3) := by
  refine callsIn_of_wp Tryz.func34 rfl trivial ?_ rfl
  have h51 : Fence.wide.fn 51 := trivial
  simp only [Tryz.ntmps34, List.size_toArray, List.length_cons, List.length_nil, Nat.reduceAdd, Nat.reduceSub, Array.replicate_succ, Array.replicate_zero, List.push_toArray, List.append_toArray, List.nil_append, List.cons_append]
  gi_wp2_with (gi_at_call 51; refine (splitSeq_in (n - 1) s p _).mono ?_; rintro e w' ⟨rfl, rfl⟩)
  go_ret
  exact ⟨rfl, rfl⟩

theorem split_mem (c : UInt8) : ∀ (s x : List UInt8), x ∈ splitW c s → x.length ≤ s.length
  | [], x, h => by simp [splitW] at h; simp [h]
  | a :: s, x, h => by
    have ih := split_mem c s
    rw [splitW] at h
    split at h
    · rcases List.mem_cons.1 h with rfl | h
      · simp
      · have := ih x h; simp; omega
    · cases hs : splitW c s with
      | nil => exact absurd hs (splitW_ne c s)
      | cons y l =>
        rw [hs] at h ih
        rcases List.mem_cons.1 h with rfl | h
        · have := ih y (by simp); simp; omega
        · have := ih x (by simp [h]); simp; omega
theorem push_modify (h : Array Obj) (x : Obj) (f : Obj → Obj) : (h.push x).modify h.size f = h.push (f x) := by
  apply Array.ext
  · simp
  · intro k h1 h2
    rw [Array.getElem_modify]
    by_cases hk : h.size = k
    · subst hk; simp
    · have : k < h.size := by simp at h2; omega
      rw [if_neg hk, Array.getElem_push, Array.getElem_push, dif_pos this, dif_pos this]
theorem alloc_setRow (W : World) (cs ds : Array Value) (t : TypeId) : (W.alloc (.cells cs t)).setRow W.heap.size ds = W.alloc (.cells ds t) := by
  unfold World.setRow World.alloc
  simp only [push_modify]
theorem ask_store (ask : Ak) (W : World) : (storeCells ⟨W.heap.size, 0, none⟩ (akC ask)).run Tryz.prog (W.alloc (.cells #[.int .i64 0, .int .i64 0, .string ⟨#[]⟩, .string ⟨#[]⟩, .string ⟨#[]⟩, .bool false, .int .i64 0, .int .i64 0, .int .i64 0, .bool false, .string ⟨#[]⟩, .string ⟨#[]⟩, .string ⟨#[]⟩, .string ⟨#[]⟩, .string ⟨#[]⟩, .string ⟨#[]⟩, .int .i64 0, .bool false, .int .i64 0, .int .i64 0, .int .i64 0, .int .i64 0, .bool false, .string ⟨#[]⟩, .string ⟨#[]⟩, .int .i64 0, .int .i64 0, .int .i64 0, .int .i64 0] 29)) = .ok () (W.alloc (.cells (akC ask).toArray 29)) := by
  have h := run_storeCells_from (P := Tryz.prog) W.heap.size 29 (akC ask) 0 #[.int .i64 0, .int .i64 0, .string ⟨#[]⟩, .string ⟨#[]⟩, .string ⟨#[]⟩, .bool false, .int .i64 0, .int .i64 0, .int .i64 0, .bool false, .string ⟨#[]⟩, .string ⟨#[]⟩, .string ⟨#[]⟩, .string ⟨#[]⟩, .string ⟨#[]⟩, .string ⟨#[]⟩, .int .i64 0, .bool false, .int .i64 0, .int .i64 0, .int .i64 0, .int .i64 0, .bool false, .string ⟨#[]⟩, .string ⟨#[]⟩, .int .i64 0, .int .i64 0, .int .i64 0, .int .i64 0] (W.alloc (.cells #[.int .i64 0, .int .i64 0, .string ⟨#[]⟩, .string ⟨#[]⟩, .string ⟨#[]⟩, .bool false, .int .i64 0, .int .i64 0, .int .i64 0, .bool false, .string ⟨#[]⟩, .string ⟨#[]⟩, .string ⟨#[]⟩, .string ⟨#[]⟩, .string ⟨#[]⟩, .string ⟨#[]⟩, .int .i64 0, .bool false, .int .i64 0, .int .i64 0, .int .i64 0, .int .i64 0, .bool false, .string ⟨#[]⟩, .string ⟨#[]⟩, .int .i64 0, .int .i64 0, .int .i64 0, .int .i64 0] 29)) (World.alloc_heap_new W _) (by rw [akC_len]; rfl) (akC_one ask)
  rw [h, ← alloc_setRow W #[.int .i64 0, .int .i64 0, .string ⟨#[]⟩, .string ⟨#[]⟩, .string ⟨#[]⟩, .bool false, .int .i64 0, .int .i64 0, .int .i64 0, .bool false, .string ⟨#[]⟩, .string ⟨#[]⟩, .string ⟨#[]⟩, .string ⟨#[]⟩, .string ⟨#[]⟩, .string ⟨#[]⟩, .int .i64 0, .bool false, .int .i64 0, .int .i64 0, .int .i64 0, .int .i64 0, .bool false, .string ⟨#[]⟩, .string ⟨#[]⟩, .int .i64 0, .int .i64 0, .int .i64 0, .int .i64 0] (akC ask).toArray 29]
  rfl
theorem info29 : (Tryz.prog.info? 29).map (fun i => (i.zero, i.size, i.bytes)) = some (some (.agg (akC zeroA).toArray), 29, 320) := by kernel_rfl
theorem ownsRow_on {W W' : World} {base e size n : Nat} {v : Value} {xs : List Value} (h : W.ownsRow base e size v n xs) (hb : Go.RowKit.Below W.heap.size W W') : W'.ownsRow base e size v n xs := by
  refine ⟨h.1, ?_⟩
  rcases h.2 with hn | ⟨g, cap, cur, rfl, h1, hg, h2⟩
  · exact .inl hn
  · exact .inr ⟨g, cap, cur, rfl, h1, (hb.block _ (Array.getElem?_eq_some_iff.1 hg).1).trans hg, h2⟩
theorem ask_load (ask : Ak) {W : World} {G : Nat} (h : W.heap[G]? = some (.cells (akC ask).toArray 29 (0, 0))) : (loadCells ⟨G, 0, none⟩ 29).run Tryz.prog W = .ok (akC ask).toArray W := by
  have := run_loadCells_list (P := Tryz.prog) W ⟨G, 0, none⟩ (akC ask) (fun j v hj => by
    rw [Go.Abs.add_none]
    simp only [World.cell?, h, Nat.zero_add]
    simpa using hj)
  simpa only [akC_len] using this
theorem load_ask {F : Fence} {n : Nat} {ops : Array Oper} {rest : List Oper} {o : Oper} {a : Act} {w : World} {Q : Exit → Act → World → Prop} (hgd : o.guard = none) (x : Operand) (ho : o.op = .load 29 x) (G : Nat) (hx : a.eval x = .pointer (some ⟨G, 0, none⟩))
    (ask : Ak) (hg : w.heap[G]? = some (.cells (akC ask).toArray 29 (0, 0))) (h : wpListIn F n Tryz.prog ops Q rest (a.put o.dst (.agg (akC ask).toArray)) w) : wpListIn F n Tryz.prog ops Q (o :: rest) a w := by
  obtain ⟨i, hi, _, hs, _⟩ := info_parts info29
  have hr : (loadVar 29 ⟨G, 0, none⟩).run Tryz.prog w = .ok (.agg (akC ask).toArray) w := run_loadVar_row w G 29 29 _ (0, 0) _ hg Tryz.underlying29 rfl (by simp [hi, hs, akC_len])
  refine wpListIn_plain hgd fun K hK => ?_
  unfold Oper.wpIn
  refine ⟨by simp [Oper.about, ho], ?_⟩
  rw [Oper.semAt_plain F _ _ (by rw [ho]; intro c hc; cases hc)]
  simp only [execOp, ho, hx, Instr.loadAt, Instr.sureAddr, Sem.run_bind, Sem.run_pure, Result.andThen_ok, hr]
  exact hK _ _ h
set_option maxHeartbeats 1000000 in
set_option maxRecDepth 100000 in
theorem mk_run (ask : Ak) (w : World) : (Instr.buildSlice 43 1 #[(0, .agg (akC ask).toArray)]).run Tryz.prog w = .ok (.slice (some ⟨w.heap.size, 0, none⟩) 1 1) (w.alloc (.cells (akC ask).toArray 29)) := by
  unfold akC iB sB
  go_simp
theorem mk_ask {F : Fence} {n : Nat} {ops : Array Oper} {rest : List Oper} {o : Oper} {a : Act} {w : World} {Q : Exit → Act → World → Prop} (hgd : o.guard = none) (x : Operand) (ho : o.op = .buildSlice 43 1 #[(0, x)])
    (ask : Ak) (hx : a.eval x = .agg (akC ask).toArray) (h : wpListIn F n Tryz.prog ops Q rest (a.put o.dst (.slice (some ⟨w.heap.size, 0, none⟩) 1 1)) (w.alloc (.cells (akC ask).toArray 29))) : wpListIn F n Tryz.prog ops Q (o :: rest) a w := by
  refine wpListIn_plain hgd fun K hK => ?_
  unfold Oper.wpIn
  refine ⟨by simp [Oper.about, ho], ?_⟩
  rw [Oper.semAt_plain F _ _ (by rw [ho]; intro c hc; cases hc)]
  have hm : (#[((0 : Nat), x)].map fun (p : Nat × Operand) => (p.1, a.eval p.2)) = #[(0, .agg (akC ask).toArray)] := by simp [hx]
  have hr := mk_run ask w
  simp only [execOp, ho, hm, hr, Sem.run_bind, Sem.run_pure, Result.andThen_ok]
  exact hK _ _ h
/-- Between two rounds; r: what the loop's record holds. H: where the call's own blocks begin. -/
structure LnJ (w : World) (H : Nat) (s : List UInt8) (r : Loop) (pre : List (List UInt8)) (W : World) : Prop where
  below : Go.RowKit.Below H w W
  b0 : Boxed W H 43 (.slice none 0 0)
  b1 : Boxed W (H + 1) 33 (iB 0)
  b2 : Boxed W (H + 2) 3 (iB 0)
  b4 : Boxed W (H + 4) 3 (iB pre.length)
  b5 : ∃ u, Boxed W (H + 5) 9 u
  b6 : ∃ u, Boxed W (H + 6) 9 u
  b7 : ∃ u, Boxed W (H + 7) 3 u
  row : ∃ rest acc sv, splitW 10 s = pre ++ rest ∧ linesA s = linesGo pre.length rest acc ∧ Boxed W (H + 3) 43 sv ∧ W.ownsRow H 29 29 sv acc.length (acc.flatMap akC) ∧ acc.length ≤ pre.length
  K : W.heap[H + 8]? = some (.deferred (some []))
  L : W.heap[H + 9]? = some (.loop r)
/-- Where a round has returned. -/
structure LnX (w : World) (H : Nat) (s : List UInt8) (W : World) : Prop where
  below : Go.RowKit.Below H w W
  res : ∃ e k, linesA s = ([], e, k) ∧ Boxed W H 43 (.slice none 0 0) ∧ Boxed W (H + 1) 33 (iB e) ∧ Boxed W (H + 2) 3 (iB k)
  K : W.heap[H + 8]? = some (.deferred (some []))

theorem allocs_heap : ∀ (l : List Obj) (W : World), (l.foldl World.alloc W).heap = W.heap ++ l.toArray
  | [], W => by simp
  | o :: l, W => by
    rw [List.foldl_cons, allocs_heap l]
    apply Array.ext'
    show ((W.heap.push o) ++ l.toArray).toList = _
    rw [Array.toList_append, Array.toList_push, Array.toList_append, List.append_assoc]
    rfl
theorem YieldAt.mono' {F : Fence} {m : Nat} {P : Program} {l : Nat} {xs : Array Value} {W : World} {R R' : Ending → World → Prop} (h : YieldAt F m P l xs W R) (hR : ∀ e w, R e w → R' e w) : YieldAt F m P l xs W R' := by
  obtain ⟨fn, t, a, b, hy, hr⟩ := h
  exact ⟨fn, t, a, b, hy, hr.mono hR⟩
theorem heap_put_ne (W : World) (l : Nat) (o : Obj) (b : Nat) (h : b ≠ l) : (W.putObj l o).heap[b]? = W.heap[b]? := World.putObj_heap_other h
theorem LnJ.put {w : World} {H : Nat} {s : List UInt8} {r : Loop} {pre : List (List UInt8)} {W : World} (h : LnJ w H s r pre W) (r' : Loop) : LnJ w H s r' pre (W.putObj (H + 9) (.loop r')) := by
  obtain ⟨u5, h5⟩ := h.b5
  obtain ⟨u6, h6⟩ := h.b6
  obtain ⟨u7, h7⟩ := h.b7
  obtain ⟨rest, acc, sv, e1, e2, h3, hr, hl⟩ := h.row
  exact ⟨h.below.grown (grownBy_putObj' W _ _) (Nat.le_of_lt h.b0.lt) (fun k e => by cases e; omega), (heap_put_ne _ _ _ _ (by omega)).trans h.b0, (heap_put_ne _ _ _ _ (by omega)).trans h.b1, (heap_put_ne _ _ _ _ (by omega)).trans h.b2,
    (heap_put_ne _ _ _ _ (by omega)).trans h.b4, ⟨u5, (heap_put_ne _ _ _ _ (by omega)).trans h5⟩, ⟨u6, (heap_put_ne _ _ _ _ (by omega)).trans h6⟩, ⟨u7, (heap_put_ne _ _ _ _ (by omega)).trans h7⟩,
    ⟨rest, acc, sv, e1, e2, (heap_put_ne _ _ _ _ (by omega)).trans h3, ownsRow_putObj hr _ h.L rfl, hl⟩, (heap_put_ne _ _ _ _ (by omega)).trans h.K, World.putObj_heap_same (Array.getElem?_eq_some_iff.1 h.L).1⟩
theorem LnJ.box {w : World} {H : Nat} {s : List UInt8} {r : Loop} {pre : List (List UInt8)} {W : World} (h : LnJ w H s r pre W) (v : Value) : LnJ w H s r pre (W.setCell ⟨H + 5, 0, none⟩ v) := by
  obtain ⟨u5, h5⟩ := h.b5
  obtain ⟨u6, h6⟩ := h.b6
  obtain ⟨u7, h7⟩ := h.b7
  obtain ⟨rest, acc, sv, e1, e2, h3, hr, hl⟩ := h.row
  exact ⟨h.below.setCell (p := ⟨H + 5, 0, none⟩) (by simp) v, Boxed.off h.b0 (by omega) _, Boxed.off h.b1 (by omega) _, Boxed.off h.b2 (by omega) _, Boxed.off h.b4 (by omega) _, ⟨v, h5.set v⟩, ⟨u6, Boxed.off h6 (by omega) _⟩, ⟨u7, Boxed.off h7 (by omega) _⟩,
    ⟨rest, acc, sv, e1, e2, Boxed.off h3 (by omega) _, hr.kept (grownBy_setCell' W _ v) (.inr (h5.not_row (by decide) hr).symm), hl⟩,
    (Go.RowKit.Below.heap_setCell _ _ _ _ (by simp)).trans h.K, (Go.RowKit.Below.heap_setCell _ _ _ _ (by simp)).trans h.L⟩
theorem LnX.put {w : World} {H : Nat} {s : List UInt8} {W : World} (h : LnX w H s W) (o : Obj) : LnX w H s (W.putObj (H + 9) o) := by
  obtain ⟨e, k, e1, h0, h1, h2⟩ := h.res
  exact ⟨h.below.grown (grownBy_putObj' W _ _) (Nat.le_of_lt h0.lt) (fun k e => by cases e; omega), ⟨e, k, e1, (heap_put_ne _ _ _ _ (by omega)).trans h0, (heap_put_ne _ _ _ _ (by omega)).trans h1, (heap_put_ne _ _ _ _ (by omega)).trans h2⟩,
    (heap_put_ne _ _ _ _ (by omega)).trans h.K⟩
theorem LnJ.next {w : World} {H : Nat} {s : List UInt8} {r : Loop} {pre rest : List (List UInt8)} {x : List UInt8} {acc : List Ak} {sv : Value} {W : World} (h : LnJ w H s r pre W) (e1 : splitW 10 s = pre ++ x :: rest)
    (e2 : linesA s = linesGo (pre.length + 1) rest acc) (h3 : Boxed W (H + 3) 43 sv) (hr : W.ownsRow H 29 29 sv acc.length (acc.flatMap akC)) (hal : acc.length ≤ pre.length) :
    LnJ w H s r (pre ++ [x]) (W.setCell ⟨H + 4, 0, none⟩ (.int .i64 ((pre.length : Int) + 1))) := by
  obtain ⟨u5, h5⟩ := h.b5
  obtain ⟨u6, h6⟩ := h.b6
  obtain ⟨u7, h7⟩ := h.b7
  have hl : (pre ++ [x]).length = pre.length + 1 := by rw [List.length_append]; rfl
  have h4 := h.b4.set (.int .i64 ((pre.length : Int) + 1))
  refine ⟨h.below.setCell (p := ⟨H + 4, 0, none⟩) (by simp) _, Boxed.off h.b0 (by omega) _, Boxed.off h.b1 (by omega) _, Boxed.off h.b2 (by omega) _, ?_, ⟨u5, Boxed.off h5 (by omega) _⟩, ⟨u6, Boxed.off h6 (by omega) _⟩, ⟨u7, Boxed.off h7 (by omega) _⟩,
    ⟨rest, acc, sv, by rw [e1, List.append_assoc]; rfl, by rw [hl]; exact e2, Boxed.off h3 (by omega) _, hr.kept (grownBy_setCell' W _ _) (.inr (h.b4.not_row (by decide) hr).symm), by omega⟩,
    (Go.RowKit.Below.heap_setCell _ _ _ _ (by simp)).trans h.K, (Go.RowKit.Below.heap_setCell _ _ _ _ (by simp)).trans h.L⟩
  rw [hl]; exact h4
theorem same_set (L : List Nat) (W : World) (b : Nat) (v : Value) (h : b ∉ L) : SameAt L W (W.setCell ⟨b, 0, none⟩ v) := fun k hk => Go.RowKit.Below.heap_setCell _ _ _ _ (fun e => h (by have e' : k = b := e; rw [← e']; exact hk))
/-- What a return writes over. -/
structure LnB (w : World) (H : Nat) (r : Loop) (W : World) : Prop where
  below : Go.RowKit.Below H w W
  b0 : Boxed W H 43 (.slice none 0 0)
  b1 : Boxed W (H + 1) 33 (.int .i64 0)
  b2 : Boxed W (H + 2) 3 (.int .i64 0)
  K : W.heap[H + 8]? = some (.deferred (some []))
  L : W.heap[H + 9]? = some (.loop r)
theorem LnJ.toB {w : World} {H : Nat} {s : List UInt8} {r : Loop} {pre : List (List UInt8)} {W : World} (h : LnJ w H s r pre W) : LnB w H r W := ⟨h.below, h.b0, h.b1, h.b2, h.K, h.L⟩
theorem LnB.row {w : World} {H : Nat} {r : Loop} {W : World} (h : LnB w H r W) (v : Value) : LnB w H r (W.setCell ⟨H + 4, 0, none⟩ v) :=
  ⟨h.below.setCell (p := ⟨H + 4, 0, none⟩) (by simp) v, Boxed.off h.b0 (by omega) _, Boxed.off h.b1 (by omega) _, Boxed.off h.b2 (by omega) _, (Go.RowKit.Below.heap_setCell _ _ _ _ (by simp)).trans h.K, (Go.RowKit.Below.heap_setCell _ _ _ _ (by simp)).trans h.L⟩
theorem LnB.on {w : World} {H : Nat} {r : Loop} {W W' : World} (h : LnB w H r W) (hb : Go.RowKit.Below W.heap.size W W') : LnB w H r W' :=
  have hlt := (Array.getElem?_eq_some_iff.1 h.L).1
  ⟨h.below.trans (hb.mono (Nat.le_of_lt h.b0.lt)), (hb.block _ h.b0.lt).trans h.b0, (hb.block _ h.b1.lt).trans h.b1, (hb.block _ h.b2.lt).trans h.b2, (hb.block _ (by omega)).trans h.K, (hb.block _ hlt).trans h.L⟩
theorem LnB.fail {w : World} {H : Nat} {r : Loop} {W : World} {s : List UInt8} (h : LnB w H r W) {e k : Int} (he : linesA s = ([], e, k)) :
    let W3 := (((W.setCell ⟨H, 0, none⟩ (.slice none 0 0)).setCell ⟨H + 1, 0, none⟩ (.int .i64 e)).setCell ⟨H + 2, 0, none⟩ (.int .i64 k)).drew
    W3.heap[H + 9]? = some (.loop r) ∧ LnX w H s W3 := by
  intro W3
  have q0 := Boxed.off (Boxed.off (h.b0.set (.slice none 0 0)) (b' := H + 1) (by omega) (.int .i64 e)) (b' := H + 2) (by omega) (.int .i64 k)
  have q1 := Boxed.off ((Boxed.off h.b1 (b' := H) (by omega) (.slice none 0 0)).set (.int .i64 e)) (b' := H + 2) (by omega) (.int .i64 k)
  have q2 := (Boxed.off (Boxed.off h.b2 (b' := H) (by omega) (.slice none 0 0)) (b' := H + 1) (by omega) (.int .i64 e)).set (.int .i64 k)
  have qK := (((Go.RowKit.Below.heap_setCell (((W.setCell ⟨H, 0, none⟩ (.slice none 0 0)).setCell ⟨H + 1, 0, none⟩ (.int .i64 e))) ⟨H + 2, 0, none⟩ (.int .i64 k) (H + 8) (by simp)).trans (Go.RowKit.Below.heap_setCell _ _ _ _ (by simp))).trans (Go.RowKit.Below.heap_setCell _ _ _ _ (by simp))).trans h.K
  have qL := (((Go.RowKit.Below.heap_setCell (((W.setCell ⟨H, 0, none⟩ (.slice none 0 0)).setCell ⟨H + 1, 0, none⟩ (.int .i64 e))) ⟨H + 2, 0, none⟩ (.int .i64 k) (H + 9) (by simp)).trans (Go.RowKit.Below.heap_setCell _ _ _ _ (by simp))).trans (Go.RowKit.Below.heap_setCell _ _ _ _ (by simp))).trans h.L
  have qb := ((h.below.setCell (p := ⟨H, 0, none⟩) (by simp) (.slice none 0 0)).setCell (p := ⟨H + 1, 0, none⟩) (by simp) (.int .i64 e)).setCell (p := ⟨H + 2, 0, none⟩) (by simp) (.int .i64 k)
  exact ⟨qL, qb.drew, ⟨e, k, he, q0, q1, q2⟩, qK⟩
/-- All but the row of what has come. -/
structure LnC (w : World) (H : Nat) (r : Loop) (n : Int) (W : World) : Prop where
  B : LnB w H r W
  b4 : Boxed W (H + 4) 3 (.int .i64 n)
  b5 : ∃ u, Boxed W (H + 5) 9 u
  b6 : ∃ u, Boxed W (H + 6) 9 u
  b7 : ∃ u, Boxed W (H + 7) 3 u
theorem LnJ.toC {w : World} {H : Nat} {s : List UInt8} {r : Loop} {pre : List (List UInt8)} {W : World} (h : LnJ w H s r pre W) (n : Int) : LnC w H r n (W.setCell ⟨H + 4, 0, none⟩ (.int .i64 n)) := by
  obtain ⟨u5, h5⟩ := h.b5
  obtain ⟨u6, h6⟩ := h.b6
  obtain ⟨u7, h7⟩ := h.b7
  exact ⟨h.toB.row _, h.b4.set _, ⟨u5, Boxed.off h5 (by omega) _⟩, ⟨u6, Boxed.off h6 (by omega) _⟩, ⟨u7, Boxed.off h7 (by omega) _⟩⟩
theorem LnC.on {w : World} {H : Nat} {r : Loop} {n : Int} {W W' : World} (h : LnC w H r n W) (hb : Go.RowKit.Below W.heap.size W W') : LnC w H r n W' := by
  obtain ⟨u5, h5⟩ := h.b5
  obtain ⟨u6, h6⟩ := h.b6
  obtain ⟨u7, h7⟩ := h.b7
  exact ⟨h.B.on hb, (hb.block _ h.b4.lt).trans h.b4, ⟨u5, (hb.block _ h5.lt).trans h5⟩, ⟨u6, (hb.block _ h6.lt).trans h6⟩, ⟨u7, (hb.block _ h7.lt).trans h7⟩⟩
/-- 'all = append(all, a)'. -/
theorem LnC.app {w : World} {H : Nat} {s : List UInt8} {r : Loop} {pre rest : List (List UInt8)} {x : List UInt8} {W w1 : World} {acc : List Ak} {ask : Ak} {sv v' : Value} {tmp : Obj} (h : LnC w H r ((pre.length : Int) + 1) W)
    (h3 : Boxed W (H + 3) 43 sv) (hr : W.ownsRow H 29 29 sv acc.length (acc.flatMap akC)) (hr' : w1.ownsRow H 29 29 v' (acc.length + 1) (acc.flatMap akC ++ akC ask)) (hg : (W.alloc tmp).grownBy w1 sv.ownBlock)
    (e1 : splitW 10 s = pre ++ x :: rest) (e2 : linesA s = linesGo (pre.length + 1) rest (acc ++ [ask])) (hal : acc.length ≤ pre.length) :
    Boxed w1 (H + 3) 43 sv ∧ (w1.setCell ⟨H + 3, 0, none⟩ v').heap[H + 9]? = some (.loop r) ∧ LnJ w H s r (pre ++ [x]) (w1.setCell ⟨H + 3, 0, none⟩ v') ∧ SameAt [H + 6, H + 5, H + 7] W (w1.setCell ⟨H + 3, 0, none⟩ v') := by
  obtain ⟨u5, h5⟩ := h.b5
  obtain ⟨u6, h6⟩ := h.b6
  obtain ⟨u7, h7⟩ := h.b7
  have hl : (pre ++ [x]).length = pre.length + 1 := by rw [List.length_append]; rfl
  have hA := h3.appended (tmp := tmp) (by decide) hr (Nat.le_of_lt h.B.b0.lt) (by omega) hr' hg
  obtain ⟨a1, a2, a3, a4, a5⟩ := hA
  have k : ∀ (B t : Nat) (u : Value), Boxed W B t u → t ≠ 29 → B ≠ H + 3 → Boxed (w1.setCell ⟨H + 3, 0, none⟩ v') B t u := fun B t u hb ht hne => Boxed.off ((hb.alloc tmp).kept hg (hb.not_row ht hr)) hne _
  have hL := a4.same _ _ h.B.L rfl
  refine ⟨a1, hL, ⟨h.B.below.trans a5, k _ _ _ h.B.b0 (by decide) (by omega), k _ _ _ h.B.b1 (by decide) (by omega), k _ _ _ h.B.b2 (by decide) (by omega), ?_, ⟨u5, k _ _ _ h5 (by decide) (by omega)⟩, ⟨u6, k _ _ _ h6 (by decide) (by omega)⟩, ⟨u7, k _ _ _ h7 (by decide) (by omega)⟩,
    ⟨rest, acc ++ [ask], v', by rw [e1, List.append_assoc]; rfl, by rw [hl]; exact e2, a2, ?_, by rw [hl, List.length_append]; simp; omega⟩, a4.same _ _ h.B.K rfl, hL⟩, ?_⟩
  · rw [hl]; exact k _ _ _ h.b4 (by decide) (by omega)
  · rw [List.length_append, List.flatMap_append]
    simpa using a3
  · intro b hb
    simp only [List.mem_cons, List.not_mem_nil, or_false] at hb
    rcases hb with rfl | rfl | rfl
    · exact (k _ _ _ h6 (by decide) (by omega)).trans h6.symm
    · exact (k _ _ _ h5 (by decide) (by omega)).trans h5.symm
    · exact (k _ _ _ h7 (by decide) (by omega)).trans h7.symm
theorem same_on {L : List Nat} {W W' : World} (hb : Go.RowKit.Below W.heap.size W W') (h : ∀ b ∈ L, b < W.heap.size) : SameAt L W W' := fun b hm => hb.block b (h b hm)

set_option maxRecDepth 100000 in
set_option maxHeartbeats 4000000 in
theorem lines_in (s : List UInt8) (hs : s.length ≤ 100000) (w : World) {im : Abs.Im} (hE : okW w) (hG : Abs.GOK E im) (him : ∀ (b o : Nat) (x : Value), im b o = some x → w.cell? ⟨b, o, none⟩ = some x) :
    CallsIn Fence.wide 9 Tryz.prog 12 #[.string ⟨s.toArray⟩] w fun e w' => ∃ (sv : Value), e = .returned (.tuple #[sv, iB (linesA s).2.1, iB (linesA s).2.2]) ∧
    w'.ownsRow w.heap.size 29 29 sv (linesA s).1.length ((linesA s).1.flatMap akC) ∧ Go.RowKit.Below w.heap.size w w' := by
  have h34 : Fence.wide.fn 34 := trivial
  have hsl : (splitW 10 s).length ≤ 100001 := by
    have h1 := split_len 10 s
    have h2 := List.count_le_length (a := (10 : UInt8)) (l := s)
    omega
  refine callsIn_of_wp_marks Tryz.func12 rfl trivial ?_ rfl
  simp only [Tryz.ntmps12, List.size_toArray, List.length_cons, List.length_nil, Nat.reduceAdd, Nat.reduceSub, Array.replicate_succ, Array.replicate_zero, List.push_toArray, List.append_toArray, List.nil_append, List.cons_append]
  gi_wp2_with (gi_at_call 34; refine (SplitSeq_in _ (by omega) s [10] _).mono ?_; rintro e w' ⟨rfl, rfl⟩)
  simp only [Nat.add_assoc, Nat.reduceAdd]
  refine rf_loop rfl (by omega) (gf := 72) (lb := #[.pointer (some ⟨w.heap.size + 6, 0, none⟩), .pointer (some ⟨w.heap.size + 5, 0, none⟩), .pointer (some ⟨w.heap.size + 7, 0, none⟩)]) rfl trivial (enters_of Tryz.func72 (by kernel_rfl) rfl) fun fn hfn => ?_
  simp only [World.size_alloc, Nat.add_assoc, Nat.reduceAdd]
  generalize hH : w.heap.size = H
  generalize hLP : lpR fn _ _ _ _ _ = LP
  have hHs : H ≤ w.heap.size := by omega
  have hJ0 : ∀ W1, W1 = ((((((((((w.alloc (.cells #[.slice none 0 0] 43)).alloc (.cells #[.int .i64 0] 33)).alloc (.cells #[.int .i64 0] 3)).alloc (.cells #[.slice none 0 0] 43)).alloc (.cells #[.int .i64 0] 3)).alloc
    (.cells #[.string ⟨s.toArray⟩] 9)).alloc (.cells #[.string ⟨#[10]⟩] 9)).alloc (.cells #[.int .i64 0] 3)).alloc (.deferred (some []))).alloc (.loop (LP .ready none))) →
      LnJ w H s (LP .ready none) [] W1 ∧ Boxed W1 (H + 6) 9 (.string ⟨#[10]⟩) ∧ Boxed W1 (H + 5) 9 (.string ⟨s.toArray⟩) ∧ Boxed W1 (H + 7) 3 (.int .i64 0) := by
    rintro W1 rfl
    subst hH
    have e := allocs_heap [.cells #[.slice none 0 0] 43, .cells #[.int .i64 0] 33, .cells #[.int .i64 0] 3, .cells #[.slice none 0 0] 43, .cells #[.int .i64 0] 3, .cells #[.string ⟨s.toArray⟩] 9, .cells #[.string ⟨#[10]⟩] 9,
      .cells #[.int .i64 0] 3, .deferred (some []), .loop (LP .ready none)] w
    simp only [List.foldl_cons, List.foldl_nil] at e
    have g : ∀ k, k < 10 → ∀ W1 : World, W1.heap = w.heap ++ [Obj.cells #[.slice none 0 0] 43, .cells #[.int .i64 0] 33, .cells #[.int .i64 0] 3, .cells #[.slice none 0 0] 43, .cells #[.int .i64 0] 3, .cells #[.string ⟨s.toArray⟩] 9, .cells #[.string ⟨#[10]⟩] 9,
      .cells #[.int .i64 0] 3, .deferred (some []), .loop (LP .ready none)].toArray → W1.heap[w.heap.size + k]? = [Obj.cells #[.slice none 0 0] 43, .cells #[.int .i64 0] 33, .cells #[.int .i64 0] 3, .cells #[.slice none 0 0] 43, .cells #[.int .i64 0] 3, .cells #[.string ⟨s.toArray⟩] 9, .cells #[.string ⟨#[10]⟩] 9,
      .cells #[.int .i64 0] 3, .deferred (some []), .loop (LP .ready none)][k]? := fun k hk W1 h => by
        rw [h, Array.getElem?_append_right (by omega)]; simp
    refine ⟨⟨?_, g 0 (by omega) _ e, g 1 (by omega) _ e, g 2 (by omega) _ e, g 4 (by omega) _ e, ⟨_, g 5 (by omega) _ e⟩, ⟨_, g 6 (by omega) _ e⟩, ⟨_, g 7 (by omega) _ e⟩, ⟨_, [], _, rfl, rfl, g 3 (by omega) _ e, ⟨rfl, .inl ⟨rfl, rfl⟩⟩, Nat.le_refl _⟩, g 8 (by omega) _ e, g 9 (by omega) _ e⟩,
      g 6 (by omega) _ e, g 5 (by omega) _ e, g 7 (by omega) _ e⟩
    refine ((((((((((Go.RowKit.Below.refl _ w).alloc (by simp) _).alloc (by first | (simp; done) | (simp; omega)) _).alloc (by first | (simp; done) | (simp; omega)) _).alloc (by first | (simp; done) | (simp; omega)) _).alloc (by first | (simp; done) | (simp; omega)) _).alloc (by first | (simp; done) | (simp; omega)) _).alloc (by first | (simp; done) | (simp; omega)) _).alloc (by first | (simp; done) | (simp; omega)) _).alloc (by first | (simp; done) | (simp; omega)) _).alloc (by first | (simp; done) | (simp; omega)) _
  obtain ⟨hJ1, hp1, hs1, hv1⟩ := hJ0 _ rfl
  refine (splitSeq1_in 8 (by omega) (H + 9) (H + 6) (H + 5) (H + 7) (by omega) (by omega) s (by omega) (LnJ w H s (LP .ready none)) (fun _ W => LnX w H s W ∧ W.heap[H + 9]? = some (.loop (LP .done (some .ret))))
    (fun pre v W h => h.box v) ?round _ hp1 hs1 hv1 hJ1).mono ?post
  case post =>
    rintro e W ⟨⟨v, rfl⟩, hj | ⟨pre, hx, hl⟩⟩
    · refine ⟨v, true, rfl, hj.L, fun o => ?_⟩
      have hj2 := hj.put o
      generalize W.putObj (H + 9) (.loop o) = W2 at hj2 ⊢
      obtain ⟨rest, acc, sv, e1, e2, h3, hr, hal⟩ := hj2.row
      have hrest : rest = [] := by
        have := congrArg List.length e1
        rw [List.length_append] at this
        exact List.eq_nil_of_length_eq_zero (by omega)
      subst hrest
      have hsv : sv = .slice none 0 0 ∨ ∃ g cap, sv = .slice (some ⟨g, 0, none⟩) acc.length cap := by
        rcases hr.2 with ⟨h, _⟩ | ⟨g, cap, cur, h, _⟩
        · exact .inl h
        · exact .inr ⟨g, cap, h⟩
      have c3 := h3.cell
      have c0 := hj2.b0.cell
      have c1 := hj2.b1.cell
      have c2 := hj2.b2.cell
      have f0 := hj2.b0.frozen
      have f1 := hj2.b1.frozen
      have f2 := hj2.b2.frozen
      have hK := hj2.K
      rw [if_pos rfl]
      rcases hsv with rfl | ⟨g, cap, rfl⟩
      · gi_wp2
        have q0 := Boxed.off (Boxed.off (hj2.b0.set (.slice none 0 0)) (b' := H + 1) (by omega) (.int .i64 0)) (b' := H + 2) (by omega) (.int .i64 0)
        have q1 := Boxed.off ((Boxed.off hj2.b1 (b' := H) (by omega) (.slice none 0 0)).set (.int .i64 0)) (b' := H + 2) (by omega) (.int .i64 0)
        have q2 := (Boxed.off (Boxed.off hj2.b2 (b' := H) (by omega) (.slice none 0 0)) (b' := H + 1) (by omega) (.int .i64 0)).set (.int .i64 0)
        have qK : (((W2.setCell ⟨H, 0, none⟩ (.slice none 0 0)).setCell ⟨H + 1, 0, none⟩ (.int .i64 0)).setCell ⟨H + 2, 0, none⟩ (.int .i64 0)).heap[H + 8]? = some (.deferred (some [])) :=
          (((Go.RowKit.Below.heap_setCell _ _ _ _ (by simp)).trans (Go.RowKit.Below.heap_setCell _ _ _ _ (by simp))).trans (Go.RowKit.Below.heap_setCell _ _ _ _ (by simp))).trans hK
        have qr := ((hr.kept (grownBy_setCell' W2 H (.slice none 0 0)) (.inr (hj2.b0.not_row (by decide) hr).symm)).kept (grownBy_setCell' _ (H + 1) (.int .i64 0)) (.inr (hj2.b1.not_row (by decide) hr).symm)).kept (grownBy_setCell' _ (H + 2) (.int .i64 0)) (.inr (hj2.b2.not_row (by decide) hr).symm)
        have qb := ((hj2.below.setCell (p := ⟨H, 0, none⟩) (by simp) (.slice none 0 0)).setCell (p := ⟨H + 1, 0, none⟩) (by simp) (.int .i64 0)).setCell (p := ⟨H + 2, 0, none⟩) (by simp) (.int .i64 0)
        generalize ((W2.setCell ⟨H, 0, none⟩ (.slice none 0 0)).setCell ⟨H + 1, 0, none⟩ (.int .i64 0)).setCell ⟨H + 2, 0, none⟩ (.int .i64 0) = W5 at q0 q1 q2 qK qr qb ⊢
        have p0 : Boxed (W5.putObj (H + 8) (.deferred none)) H 43 (.slice none 0 0) := (heap_put_ne _ _ _ _ (by omega)).trans q0
        have p1 : Boxed (W5.putObj (H + 8) (.deferred none)) (H + 1) 33 (.int .i64 0) := (heap_put_ne _ _ _ _ (by omega)).trans q1
        have p2 : Boxed (W5.putObj (H + 8) (.deferred none)) (H + 2) 3 (.int .i64 0) := (heap_put_ne _ _ _ _ (by omega)).trans q2
        have d0 := p0.cell
        have d1 := p1.cell
        have d2 := p2.cell
        refine ⟨by simp, .inl ⟨_, _, rfl, run_takeDeferred qK, ?_⟩⟩
        refine ⟨.tuple #[(.slice none 0 0), .int .i64 0, .int .i64 0], by simp [results, Tryz.f12, go_sem, d0, d1, d2], (.slice none 0 0), ?_, ?_, ?_⟩
        · rw [e2]; rfl
        · rw [e2, hH]; exact ownsRow_putObj qr _ qK rfl
        · rw [hH]; exact qb.grown (grownBy_putObj' _ _ _) (Nat.le_of_lt q0.lt) (fun k e => by cases e; omega)
      · gi_wp2
        have q0 := Boxed.off (Boxed.off (hj2.b0.set (.slice (some ⟨g, 0, none⟩) acc.length cap)) (b' := H + 1) (by omega) (.int .i64 0)) (b' := H + 2) (by omega) (.int .i64 0)
        have q1 := Boxed.off ((Boxed.off hj2.b1 (b' := H) (by omega) (.slice (some ⟨g, 0, none⟩) acc.length cap)).set (.int .i64 0)) (b' := H + 2) (by omega) (.int .i64 0)
        have q2 := (Boxed.off (Boxed.off hj2.b2 (b' := H) (by omega) (.slice (some ⟨g, 0, none⟩) acc.length cap)) (b' := H + 1) (by omega) (.int .i64 0)).set (.int .i64 0)
        have qK : (((W2.setCell ⟨H, 0, none⟩ (.slice (some ⟨g, 0, none⟩) acc.length cap)).setCell ⟨H + 1, 0, none⟩ (.int .i64 0)).setCell ⟨H + 2, 0, none⟩ (.int .i64 0)).heap[H + 8]? = some (.deferred (some [])) :=
          (((Go.RowKit.Below.heap_setCell _ _ _ _ (by simp)).trans (Go.RowKit.Below.heap_setCell _ _ _ _ (by simp))).trans (Go.RowKit.Below.heap_setCell _ _ _ _ (by simp))).trans hK
        have qr := ((hr.kept (grownBy_setCell' W2 H (.slice (some ⟨g, 0, none⟩) acc.length cap)) (.inr (hj2.b0.not_row (by decide) hr).symm)).kept (grownBy_setCell' _ (H + 1) (.int .i64 0)) (.inr (hj2.b1.not_row (by decide) hr).symm)).kept (grownBy_setCell' _ (H + 2) (.int .i64 0)) (.inr (hj2.b2.not_row (by decide) hr).symm)
        have qb := ((hj2.below.setCell (p := ⟨H, 0, none⟩) (by simp) (.slice (some ⟨g, 0, none⟩) acc.length cap)).setCell (p := ⟨H + 1, 0, none⟩) (by simp) (.int .i64 0)).setCell (p := ⟨H + 2, 0, none⟩) (by simp) (.int .i64 0)
        generalize ((W2.setCell ⟨H, 0, none⟩ (.slice (some ⟨g, 0, none⟩) acc.length cap)).setCell ⟨H + 1, 0, none⟩ (.int .i64 0)).setCell ⟨H + 2, 0, none⟩ (.int .i64 0) = W5 at q0 q1 q2 qK qr qb ⊢
        have p0 : Boxed (W5.putObj (H + 8) (.deferred none)) H 43 (.slice (some ⟨g, 0, none⟩) acc.length cap) := (heap_put_ne _ _ _ _ (by omega)).trans q0
        have p1 : Boxed (W5.putObj (H + 8) (.deferred none)) (H + 1) 33 (.int .i64 0) := (heap_put_ne _ _ _ _ (by omega)).trans q1
        have p2 : Boxed (W5.putObj (H + 8) (.deferred none)) (H + 2) 3 (.int .i64 0) := (heap_put_ne _ _ _ _ (by omega)).trans q2
        have d0 := p0.cell
        have d1 := p1.cell
        have d2 := p2.cell
        refine ⟨by simp, .inl ⟨_, _, rfl, run_takeDeferred qK, ?_⟩⟩
        refine ⟨.tuple #[(.slice (some ⟨g, 0, none⟩) acc.length cap), .int .i64 0, .int .i64 0], by simp [results, Tryz.f12, go_sem, d0, d1, d2], (.slice (some ⟨g, 0, none⟩) acc.length cap), ?_, ?_, ?_⟩
        · rw [e2]; rfl
        · rw [e2, hH]; exact ownsRow_putObj qr _ qK rfl
        · rw [hH]; exact qb.grown (grownBy_putObj' _ _ _) (Nat.le_of_lt q0.lt) (fun k e => by cases e; omega)
    · refine ⟨v, false, rfl, hl, fun o => ?_⟩
      have hx2 := hx.put (.loop o)
      generalize W.putObj (H + 9) (.loop o) = W2 at hx2 ⊢
      rw [if_neg (by decide)]
      obtain ⟨e, k, e1, h0, h1, h2⟩ := hx2.res
      have c0 := h0.cell
      have c1 := h1.cell
      have c2 := h2.cell
      have hK := hx2.K
      gi_wp2
      generalize hW5 : W2 = W5 at h0 h1 h2 hK hx2 ⊢
      have q0 := h0
      have q1 : Boxed W5 (H + 1) 33 (.int .i64 e) := h1
      have q2 : Boxed W5 (H + 2) 3 (.int .i64 k) := h2
      have qK := hK
      have p0 : Boxed (W5.putObj (H + 8) (.deferred none)) H 43 (.slice none 0 0) := (heap_put_ne _ _ _ _ (by omega)).trans q0
      have p1 : Boxed (W5.putObj (H + 8) (.deferred none)) (H + 1) 33 (.int .i64 e) := (heap_put_ne _ _ _ _ (by omega)).trans q1
      have p2 : Boxed (W5.putObj (H + 8) (.deferred none)) (H + 2) 3 (.int .i64 k) := (heap_put_ne _ _ _ _ (by omega)).trans q2
      have d0 := p0.cell
      have d1 := p1.cell
      have d2 := p2.cell
      refine ⟨by simp, .inl ⟨_, _, rfl, run_takeDeferred qK, ?_⟩⟩
      refine ⟨.tuple #[(.slice none 0 0), .int .i64 e, .int .i64 k], by simp [results, Tryz.f12, go_sem, d0, d1, d2], (.slice none 0 0), ?_, ?_, ?_⟩
      · rw [e1]; rfl
      · rw [e1]; exact ⟨rfl, .inl ⟨rfl, rfl⟩⟩
      · rw [hH]; exact hx2.below.grown (grownBy_putObj' _ _ _) (Nat.le_of_lt q0.lt) (fun k e => by cases e; omega)
  case round =>
    rintro pre x W hJ hlen ⟨rest, hrest⟩
    have hL := hJ.L
    rw [← hLP] at hL
    obtain ⟨R, hR⟩ : ∃ R : Bool → World → Prop, R = fun b W3 => (b = true → LnJ w H s (LP .busy none) (pre ++ [x]) W3 ∧ SameAt [H + 6, H + 5, H + 7] W W3) ∧ (b = false → LnX w H s W3) := ⟨_, rfl⟩
    have hJb := hJ.put (LP .busy none)
    have hsm : SameAt [H + 6, H + 5, H + 7] W (W.putObj (H + 9) (.loop (LP .busy none))) := fun b hb => heap_put_ne _ _ _ _ (by simp at hb; omega)
    refine YieldAt.mono' (rf_round (F := Fence.wide) (n := 8 - 1) (P := Tryz.prog) (R := R) #[.string ⟨x.toArray⟩] hfn rfl hL
      { tmps := #[.string ⟨s.toArray⟩, undef, .pointer (some ⟨H, 0, none⟩), .pointer (some ⟨H + 1, 0, none⟩), .pointer (some ⟨H + 2, 0, none⟩), .pointer (some ⟨H + 3, 0, none⟩), .pointer (some ⟨H + 4, 0, none⟩), .string ⟨x.toArray⟩, undef, undef,
        .string ⟨s.toArray⟩, .func (.func 72) #[] #[.pointer (some ⟨H + 6, 0, none⟩), .pointer (some ⟨H + 5, 0, none⟩), .pointer (some ⟨H + 7, 0, none⟩)], .string ⟨x.toArray⟩, undef, undef, undef, undef, undef, undef, undef, undef, undef, undef, undef, undef, undef, undef, undef, undef, undef, undef, undef, undef, undef, undef, undef, undef, undef, undef], defers := [] } ?assign ?body) ?out
    case out =>
      rintro e W' ⟨b, W3, rfl, hr, hl3, rfl⟩
      subst hR
      simp only [hLP] at hl3 ⊢
      cases b with
      | true =>
        obtain ⟨h1, h2⟩ := hr.1 rfl
        refine .inl ⟨rfl, h1.put _, h2.trans fun b hb => heap_put_ne _ _ _ _ (by simp at hb; omega)⟩
      | false =>
        exact .inr ⟨rfl, (hr.2 rfl).put _, World.putObj_heap_same (Array.getElem?_eq_some_iff.1 hl3).1⟩
    case assign =>
      intro K hK
      gi_wp2
      exact hK
    case body =>
      simp only [hLP]
      generalize W.putObj (H + 9) (.loop (LP .busy none)) = W2 at hJb hsm ⊢
      clear hJ hL hLP hJ0 hJ1 hp1 hs1 hv1
      obtain ⟨rest', acc, sv, e1, e2, h3, hr, hal⟩ := hJb.row
      have hrest' : rest' = x :: rest := by
        rw [hrest] at e1
        exact (List.append_cancel_left e1).symm
      subst hrest'
      have c4 : W2.cell? ⟨H + 4, 0, none⟩ = some (.int .i64 (pre.length : Int)) := hJb.b4.cell
      have h9 : Fence.wide.fn 9 := trivial
      have f4 := hJb.b4.frozen
      have hlen2 : pre.length ≤ 100000 := by omega
      have mixed : Tryz.prog.follows .mixedOrders = true := by kernel_rfl
      have f0 := hJb.b0.frozen
      have f1 := hJb.b1.frozen
      have f2 := hJb.b2.frozen
      have c0 := hJb.b0.cell
      have c1 := hJb.b1.cell
      have c2 := hJb.b2.cell
      by_cases hrow : 512 < pre.length + 1
      · have hf := (hJb.toB.row (.int .i64 ((pre.length : Int) + 1))).fail (s := s) (e := 4) (k := (pre.length : Int) + 1) (by rw [e2, linesGo, if_pos hrow]; simp)
        have hrf : ∀ W3, LnX w H s W3 → R false W3 := fun W3 h => by rw [hR]; exact ⟨fun h => Bool.noConfusion h, fun _ => h⟩
        clear hR
        gi_wp2
        · gi_region_with_o gi_in
          all_goals
            rename_i hk
            exact hk _ _ (wpIn_ret ⟨hf.1, hrf _ hf.2⟩)
        all_goals (exfalso; omega)
      · have hrt : ∀ W3, LnJ w H s (LP .busy none) (pre ++ [x]) W3 → SameAt [H + 6, H + 5, H + 7] W2 W3 → R true W3 := fun W3 h k => by rw [hR]; exact ⟨fun _ => ⟨h, hsm.trans k⟩, fun h => Bool.noConfusion h⟩
        by_cases hx0 : x = [] ∨ x.head? = some 35
        · have hn := hJb.next e1 (by rw [e2, linesGo, if_neg hrow, if_pos hx0]) h3 hr hal
          have hs4 := same_set [H + 6, H + 5, H + 7] W2 (H + 4) (.int .i64 ((pre.length : Int) + 1)) (by simp)
          have hg : R true (W2.setCell ⟨H + 4, 0, none⟩ (.int .i64 ((pre.length : Int) + 1))) := hrt _ hn hs4
          clear hR
          rcases x with _ | ⟨a, q⟩
          · gi_wp2
            all_goals first | (exfalso; omega) | skip
            all_goals exact ⟨hn.L, hg⟩
          · obtain rfl : a = 35 := by rcases hx0 with h | h <;> simp at h; exact h
            gi_wp2
            all_goals first | (exfalso; omega) | skip
            all_goals exact ⟨hn.L, hg⟩
        · have hbw : Go.RowKit.Below w.heap.size w (W2.setCell ⟨H + 4, 0, none⟩ (.int .i64 ((pre.length : Int) + 1))) := by rw [hH]; exact hJb.below.setCell (p := ⟨H + 4, 0, none⟩) (by simp) _
          have hxl : x.length ≤ 100000 := Nat.le_trans (split_mem 10 s x (by rw [e1]; simp)) hs
          have hcall := parse_raw hE hG him hbw x hxl
          have hrf : ∀ W3, LnX w H s W3 → R false W3 := fun W3 h => by rw [hR]; exact ⟨fun h => Bool.noConfusion h, fun _ => h⟩
          rw [linesGo, if_neg hrow, if_neg hx0] at e2
          generalize parseA x = pa at hcall e2
          obtain ⟨ask, er⟩ := pa
          clear hR
          rcases x with _ | ⟨a, q⟩
          · exact absurd (.inl rfl) hx0
          have ha : a ≠ 35 := fun e => hx0 (.inr (by rw [e]; rfl))
          have ha2 : ((a.toNat : Int) == 35) = false := by
            have : a.toNat ≠ 35 := fun e => ha (UInt8.toNat_inj.1 (by simpa using e))
            simp; omega
          gi_wp2_with (gi_at_call 9; refine (CallsIn.inRound _ (callsIn_wide.2 hcall)).mono ?_; rintro e w' ⟨rfl, hbp⟩)
          all_goals first | (exfalso; omega) | skip
          · rename_i h
            have h2 : ((a.toNat : Int) == 35) = true := h
            rw [ha2] at h2; cases h2
          · rw [ask_store ask]
            have hb4 := hbp.alloc hbp.size (.cells (akC ask).toArray 29)
            have hC4 := (hJb.toC ((pre.length : Int) + 1)).on hb4
            obtain ⟨u5, hu5⟩ := hJb.b5
            obtain ⟨u6, hu6⟩ := hJb.b6
            obtain ⟨u7, hu7⟩ := hJb.b7
            have hS4 := (same_set [H + 6, H + 5, H + 7] W2 (H + 4) (.int .i64 ((pre.length : Int) + 1)) (by simp)).trans (same_on hb4 (fun b hb => by
              simp only [List.mem_cons, List.not_mem_nil, or_false] at hb
              have l5 := (Boxed.off hu5 (b' := H + 4) (by omega) (.int .i64 ((pre.length : Int) + 1))).lt
              have l6 := (Boxed.off hu6 (b' := H + 4) (by omega) (.int .i64 ((pre.length : Int) + 1))).lt
              have l7 := (Boxed.off hu7 (b' := H + 4) (by omega) (.int .i64 ((pre.length : Int) + 1))).lt
              rcases hb with rfl | rfl | rfl <;> assumption))
            have h3s := Boxed.off h3 (b' := H + 4) (by omega) (.int .i64 ((pre.length : Int) + 1))
            have h34 := (hb4.block _ h3s.lt).trans h3s
            have hr4 := ownsRow_on (hr.kept (grownBy_setCell' W2 (H + 4) (.int .i64 ((pre.length : Int) + 1))) (.inr (hJb.b4.not_row (by decide) hr).symm)) hb4
            have hG4 : (w'.alloc (.cells (akC ask).toArray 29)).heap[w'.heap.size]? = some (.cells (akC ask).toArray 29 (0, 0)) := World.alloc_heap_new w' _
            clear hb4 h3s hbp hcall hbw c0 c1 c2 f0 f1 f2 c4 f4 hu5 hu6 hu7 hJb h3 hr
            generalize w'.alloc (.cells (akC ask).toArray 29) = W4 at hC4 hS4 h34 hr4 hG4 ⊢
            generalize w'.heap.size = G at hG4 ⊢
            have c4 : W4.cell? ⟨H + 4, 0, none⟩ = some (.int .i64 ((pre.length : Int) + 1)) := hC4.b4.cell
            have hld := ask_load ask hG4
            by_cases her : er = 0
            · subst her
              have c3 : W4.cell? ⟨H + 3, 0, none⟩ = some sv := Boxed.cell h34
              have f3 : W4.frozen? ⟨H + 3, 0, none⟩ = false := Boxed.frozen h34
              obtain ⟨i0, hi, hz0, hz1, hz2⟩ := info_parts info29
              clear hld
              gi_wp2_with (first
                | (refine load_ask rfl (.tmp 8) rfl G rfl ask hG4 ?_)
                | (refine mk_ask rfl (.tmp 35) rfl ask rfl ?_)
                | (gi_at_builtin; refine wpListIn_append_own _ rfl _ _ 43 rfl H 29 i0 (.agg (akC zeroA).toArray) 29 320 Tryz.underlying43 hi hz0 hz1 hz2 rfl (by decide) sv acc.length (acc.flatMap akC) rfl (hr4.alloc _) ⟨W4.heap.size, 0, none⟩ 1 1 (akC ask) rfl rfl ?c1 ?c2 ?c3 ?c4 ?c5 ?_)
                | gi_in)
              case c1 =>
                intro j u hj
                rw [Go.Abs.add_none]
                have hn := World.alloc_heap_new W4 (.cells (akC ask).toArray 29)
                simp only [World.cell?, hn, Nat.zero_add]
                simpa using hj
              case c2 => exact akC_one ask
              case c3 => unfold maxLen; omega
              case c4 => omega
              case c5 => have := hC4.B.b0.lt; simp; omega
              all_goals first | (exfalso; omega) | skip
              · intro v' w1 hown' hgrow _
                obtain ⟨g', cap', rfl⟩ := ownsRow_succ hown'
                have hA := hC4.app h34 hr4 hown' hgrow e1 (by rw [e2, if_neg (by decide)]) hal
                have d3 := hA.1.cell
                have df := hA.1.frozen
                have hg := hrt _ hA.2.2.1 (hS4.trans hA.2.2.2)
                have hgl := hA.2.1
                clear hown' hgrow hA hr4 h34 hC4 hrt hrf
                gi_wp2
                exact ⟨hgl, hg⟩
            · have c0 := hC4.B.b0.cell
              have c1 := hC4.B.b1.cell
              have c2 := hC4.B.b2.cell
              have f0 := hC4.B.b0.frozen
              have f1 := hC4.B.b1.frozen
              have f2 := hC4.B.b2.frozen
              have hf4 := hC4.B.fail (s := s) (e := er) (k := (pre.length : Int) + 1) (by rw [e2, if_pos her]; simp)
              clear hr4 h34
              gi_wp2
              · gi_region_with_o gi_in
                all_goals
                  rename_i hk
                  exact hk _ _ (wpIn_ret ⟨hf4.1, hrf _ hf4.2⟩)
end Go.Proofs.YtfchlkeekmabfaaGreatDoor
end
section
set_option linter.unusedVariables false
set_option linter.unusedSimpArgs false

/- text.Lines: its contract. -/
namespace Go.Proofs.YtfchlkeekmabfaaGreatDoor
open Go Go.Abs Go.RowKit Go.Txt Go.Msg Go.Bk

theorem flat_get {α β : Type} {k : Nat} (f : α → List β) (hk : ∀ a, (f a).length = k) : ∀ (L : List α) (i j : Nat) (a : α), L[i]? = some a → j < k → (L.flatMap f)[i * k + j]? = (f a)[j]?
  | [], i, j, a, h, _ => by simp at h
  | b :: L, 0, j, a, h, hj => by
    simp only [List.getElem?_cons_zero, Option.some.injEq] at h
    subst h
    rw [List.flatMap_cons, List.getElem?_append_left (by rw [hk]; omega)]
    simp
  | b :: L, i + 1, j, a, h, hj => by
    have ih := flat_get f hk L i j a (by simpa using h) hj
    have hm : (i + 1) * k = i * k + k := Nat.succ_mul i k
    rw [List.flatMap_cons, List.getElem?_append_right (by rw [hk]; omega), hk, ← ih]
    congr 1; omega
theorem cells_asks {im : Im} {L : List Ak} {cs : List Value} (h : cs.take (L.length * 29) = L.flatMap akC) : Cells im 29 (L.map akV) cs := by
  have hl : ∀ a : Ak, (akV a).leaves = (akC a).map AV.v := fun a => rfl
  refine ⟨fun i e he => ?_, fun i e j y he hy => ?_⟩
  · rw [List.getElem?_map] at he
    cases ha : L[i]? with
    | none => simp [ha] at he
    | some a => simp only [ha, Option.map_some, Option.some.injEq] at he; subst he; rfl
  · rw [List.getElem?_map] at he
    cases ha : L[i]? with
    | none => simp [ha] at he
    | some a =>
      simp only [ha, Option.map_some, Option.some.injEq] at he; subst he
      rw [hl, List.getElem?_map] at hy
      cases hu : (akC a)[j]? with
      | none => simp [hu] at hy
      | some u =>
        simp only [hu, Option.map_some, Option.some.injEq] at hy; subst hy
        have hj : j < 29 := by have := (List.getElem?_eq_some_iff.1 hu).1; rw [akC_len] at this; exact this
        have hi : i < L.length := (List.getElem?_eq_some_iff.1 ha).1
        have h1 : (cs.take (L.length * 29))[i * 29 + j]? = cs[i * 29 + j]? := by rw [List.getElem?_take, if_pos (by omega)]
        refine ⟨u, ?_, .v _, akC_one a u (List.mem_of_getElem? hu)⟩
        rw [← h1, h, flat_get akC akC_len L i j a ha hj, hu]
theorem vr3 {c : Ctx} {x y z : AV} {u v w : Value} (h1 : VR c x u) (h2 : VR c y v) (h3 : VR c z w) : VR c (.tup [x, y, z]) (.tuple #[u, v, w]) :=
  .tup [x, y, z] [u, v, w] rfl (fun i a b e1 e2 => by
    match i with
    | 0 => cases e1; cases e2; exact h1
    | 1 => cases e1; cases e2; exact h2
    | 2 => cases e1; cases e2; exact h3
    | i + 3 => simp at e1)
theorem tlines_c (s : List UInt8) (hs : s.length ≤ 100000) : ACalls E 12 [str s] (fun r t => r = .tup [.sl (some 0) 29 ((linesA s).1.map akV), i64 (linesA s).2.1, i64 (linesA s).2.2] ∧ t = [(linesA s).1.length]) := by
  refine ACalls.of_rel fun w im vs hE hG hok hpw => ?_
  obtain ⟨hn, hp⟩ := hpw
  match vs, hn with
  | [v], _ =>
    have hv := hp 0 _ v rfl rfl
    have hve : v = .string ⟨s.toArray⟩ := by cases hv; rfl
    subst hve
    refine (callsIn_wide.1 (lines_in s hs w hE hG hok)).mono ?_
    rintro e w' ⟨sv, rfl, hrow, hb0⟩
    have hb : Go.Abs.Below E.dr w.heap.size w w' := ⟨hb0, fun d => absurd d (fun h => h)⟩
    have r0 := Rel.start E hG hok
    refine ⟨_, rfl, ?_⟩
    generalize linesA s = res at hrow ⊢
    obtain ⟨L, er, k⟩ := res
    rcases hrow.2 with ⟨rfl, hz⟩ | ⟨g, cap, cur, rfl, hbase, hg, h1, h2, h3, h4⟩
    · have hl : L = [] := List.eq_nil_of_length_eq_zero hz
      subst hl
      exact ⟨_, _, _, r0.ext hb, .tup [.nilS, i64 er, i64 k], vr3 (.base .nilS) (.base (.v _)) (.base (.v _)), [(false, 29)], .tup [.sl (some 0) 29 [], i64 er, i64 k], rfl, ⟨rfl, rfl, rfl, trivial⟩, rfl, rfl⟩
    · obtain ⟨c', hle, r1, hv⟩ := r0.newTok (k := 29) (cap := cap) (es := L.map akV) (cs := cur) hb hbase hg (.inl rfl) (by rw [h3]; exact Nat.le_refl _) (by simpa using h1) (cells_asks h4)
      rw [List.length_map] at hv r1
      exact ⟨c', _, _, r1, .tup [.sl (some 0) 29 (L.map akV), i64 er, i64 k], vr3 hv (.base (.v _)) (.base (.v _)), [(true, 0)], .tup [.sl (some 0) 29 (L.map akV), i64 er, i64 k], rfl, ⟨⟨rfl, rfl, rfl⟩, rfl, rfl, trivial⟩, rfl, by simp [selLens]⟩
end Go.Proofs.YtfchlkeekmabfaaGreatDoor
end
section
set_option linter.unusedVariables false
set_option linter.unusedSimpArgs false
namespace Go.Proofs.YtfchlkeekmabfaaGreatDoor
open Go Go.Abs Go.RowKit Go.Bk Go.Msg Go.Txt
theorem eq_no1 {α : Type} [DecidableEq α] {a b : List α} (h : ¬ a.length = b.length) : decide (a = b) = false := decide_eq_false fun e => h (by rw [e])
theorem eq_no2 {α : Type} [DecidableEq α] {a b : List α} {i : Nat} {x y : α} (h1 : a[i]? = some x) (h2 : b[i]? = some y) (h : x ≠ y) : decide (a = b) = false := decide_eq_false fun e => h (by rw [e, h2, Option.some.injEq] at h1; exact h1.symm)
theorem eq_yes {α : Type} [DecidableEq α] {a b : List α} {i : Nat} (h0 : a.length = b.length) (hi : a.length ≤ i) (h : a.take i = b.take i) : decide (a = b) = true := by
  rw [List.take_of_length_le hi, List.take_of_length_le (by omega)] at h
  exact decide_eq_true h
theorem eq_next {α : Type} {a b : List α} {i : Nat} {x y : α} (h1 : a[i]? = some x) (h2 : b[i]? = some y) (h : x = y) (h3 : a.take i = b.take i) : a.take (i + 1) = b.take (i + 1) := by rw [Fld.take_next h1, Fld.take_next h2, h3, h]
theorem ak_ne {x y : Ak} (h : x.kind = y.kind → x.venue = y.venue → x.ord.id = y.ord.id → x.ord.acc = y.ord.acc → x.ord.sym = y.ord.sym → x.ord.buy = y.ord.buy → x.ord.qty = y.ord.qty → x.ord.price = y.ord.price → x.ord.done = y.ord.done → x.ord.opn = y.ord.opn → x.id = y.id → x.exec.id = y.exec.id → x.exec.ref = y.exec.ref → x.exec.ord = y.exec.ord → x.exec.acc = y.exec.acc → x.exec.sym = y.exec.sym → x.exec.kind = y.exec.kind → x.exec.buy = y.exec.buy → x.exec.qty = y.exec.qty → x.exec.price = y.exec.price → x.exec.time = y.exec.time → x.now = y.now → x.on = y.on → x.lim.acc = y.lim.acc → x.lim.sym = y.lim.sym → x.lim.long = y.lim.long → x.lim.short = y.lim.short → x.lim.qty = y.lim.qty → ¬ x.lim.value = y.lim.value) : x ≠ y := by
  rintro rfl
  exact h rfl rfl rfl rfl rfl rfl rfl rfl rfl rfl rfl rfl rfl rfl rfl rfl rfl rfl rfl rfl rfl rfl rfl rfl rfl rfl rfl rfl rfl
theorem ak_of {x y : Ak} (h : x.kind = y.kind ∧ x.venue = y.venue ∧ x.ord.id = y.ord.id ∧ x.ord.acc = y.ord.acc ∧ x.ord.sym = y.ord.sym ∧ x.ord.buy = y.ord.buy ∧ x.ord.qty = y.ord.qty ∧ x.ord.price = y.ord.price ∧ x.ord.done = y.ord.done ∧ x.ord.opn = y.ord.opn ∧ x.id = y.id ∧ x.exec.id = y.exec.id ∧ x.exec.ref = y.exec.ref ∧ x.exec.ord = y.exec.ord ∧ x.exec.acc = y.exec.acc ∧ x.exec.sym = y.exec.sym ∧ x.exec.kind = y.exec.kind ∧ x.exec.buy = y.exec.buy ∧ x.exec.qty = y.exec.qty ∧ x.exec.price = y.exec.price ∧ x.exec.time = y.exec.time ∧ x.now = y.now ∧ x.on = y.on ∧ x.lim.acc = y.lim.acc ∧ x.lim.sym = y.lim.sym ∧ x.lim.long = y.lim.long ∧ x.lim.short = y.lim.short ∧ x.lim.qty = y.lim.qty ∧ x.lim.value = y.lim.value) : x = y := by
  obtain ⟨k, v, ⟨o1, o2, o3, o4, o5, o6, o7, o8⟩, i, ⟨e1, e2, e3, e4, e5, e6, e7, e8, e9, e10⟩, n, o, ⟨l1, l2, l3, l4, l5, l6⟩⟩ := x
  obtain ⟨k2, v2, ⟨p1, p2, p3, p4, p5, p6, p7, p8⟩, i2, ⟨f1, f2, f3, f4, f5, f6, f7, f8, f9, f10⟩, n2, o2, ⟨m1, m2, m3, m4, m5, m6⟩⟩ := y
  dsimp only at h
  obtain ⟨rfl, rfl, rfl, rfl, rfl, rfl, rfl, rfl, rfl, rfl, rfl, rfl, rfl, rfl, rfl, rfl, rfl, rfl, rfl, rfl, rfl, rfl, rfl, rfl, rfl, rfl, rfl, rfl, rfl⟩ := h
  rfl

set_option maxHeartbeats 4000000 in
set_option maxRecDepth 8000 in
theorem r23same_c (p q : List Ak) (hl : p.length ≤ 1000000) : ACalls E 14 [.sl none 29 (p.map akV), .sl none 29 (q.map akV)] (fun r t => r = bl (decide (p = q)) ∧ t = []) := by -- checkroll/checkrollref23.Same
  refine ACalls.of_awp (n := 26) (rs := [.tmp 4]) Tryz.func14 rfl Tryz.ntmps14 rfl ?_
  repeat' (first
    | refine AWP.seqk fun K hK => ?_
    | (refine AWP.region ?_; simp only [go_sem])
    | (refine AWP.here 6 17 9 rfl ?_; refine AWP.regionO [0, 1, 2, 3, 4, 5, 6, 7, 8] [] (by kernel_rfl) (by kernel_rfl) rfl ?_; simp only [go_sem])
    | (refine hK _ ?_; clear hK K)
    | refine AWP.block ?_
    | refine AWP.cond rfl (fun c => ?_) (fun c => ?_) <;> first | exact Bool.noConfusion c | (try simp only [dD] at c)
    | refine AWP.skip ?_
    | (refine AWP.exit ?_; simp only [go_sem])
    | (refine AGet.haveM (by assumption) ?_; (try simp only [go_sem]))
    | (refine AGet.have' (by assumption) ?_; (try simp only [go_sem]))
    | ((first | refine AGet.nth ?_ (fun b hb => ?_) | refine AGet.nth1 ?_ (fun b hb => ?_) | with_reducible refine And.intro ?_ ?_); (focus (first | omega | assumption | exact List.length_pos_iff.2 (by assumption) | (simp only [List.length_append, List.length_cons, List.length_nil, List.length_map, List.length_take, List.length_drop] at *; omega) | (rw [wrap64_id (by omega) (by omega)]; omega) | (simp; done) | (simp [spare_len]; done) | (exact ⟨by omega, by omega⟩))); (try simp only [hb, go_sem]))
    | (
        refine AWP.here 4 11 4 rfl ?_
        refine AWP.loopN (ι := Nat) [4, 11, 12, 13, 14, 15, 16, 17, 18, 19, 20, 21, 22, 23, 24, 25] (fun (i : Nat) => [(5, i64 i)]) (fun (i : Nat) => i ≤ p.length ∧ p.length = q.length ∧ p.take i = q.take i) (fun (i : Nat) => p.length - i) (0) ?_ ?_ ?_
        · (try simp only [go_sem]); (repeat' (first | refine And.intro ?_ ?_ | exact .inl rfl | exact .inr rfl | exact .inr ⟨rfl, rfl⟩ | trivial | exact .inr (oblA rfl) | exact .inr ⟨rfl, oblA rfl⟩ | exact .inr bel_strs | exact .inr ⟨rfl, bel_strs⟩ | exact .inr ⟨by simp, bel_strs⟩ | (simp; done) | exact .inr ⟨rfl, by simp⟩ | exact .inr ⟨by simp, by simp⟩)); done
        · exact ⟨by omega, by omega, by simp⟩
        rintro i ⟨h1, h2, h3⟩
        simp only [go_sem])
    | (
        refine ⟨i + 1, ?_, ?_, ?_⟩
        · (try simp only [go_sem]); (try rw [wrap64_id (by omega) (by omega)]); (repeat' (first | refine And.intro ?_ ?_ | exact .inl rfl | exact .inr rfl | exact .inr ⟨rfl, rfl⟩ | trivial | exact .inr (oblA rfl) | exact .inr ⟨rfl, oblA rfl⟩ | exact .inr bel_strs | exact .inr ⟨rfl, bel_strs⟩ | exact .inr ⟨by simp, bel_strs⟩ | (simp; done) | exact .inr ⟨rfl, by simp⟩ | exact .inr ⟨by simp, by simp⟩)); done
        · exact ⟨by omega, by omega, eq_next (a := p) (b := q) (by assumption) (by assumption) (by exact ak_of (by assumption)) h3⟩
        · (try simp only []); omega)
    | (
        refine AWP.ret ?_
        refine AEnd.is ?_; simp only [go_sem, out_v, out_s, out_n, v_int, v_bool, v_str] <;> (first
        | (rw [eq_no1 (by omega)]; done)
        | (rw [eq_no2 (a := p) (b := q) (by assumption) (by assumption) (by exact ak_ne (by assumption))]; done)
        | (rw [eq_yes h2 (by omega) h3]; done)
        | skip))
    | refine AWP.fin (by assumption) ?_
    | fail)


end Go.Proofs.YtfchlkeekmabfaaGreatDoor
end
section
set_option linter.unusedVariables false
set_option linter.unusedSimpArgs false
namespace Go.Proofs.YtfchlkeekmabfaaGreatDoor
open Go Go.Abs Go.RowKit Go.Bk Go.Msg Go.Txt
theorem tparse_b {a : Ak} (h : mayA a = true) : ACalls E 9 [str (joinW 32 (wordsA a))] (fun r t => r = .tup [akV (plainA a), i64 0] ∧ t = []) :=
  (tparse_c _ (by have := show_short h; omega)).mono (by rintro r t ⟨rfl, rfl⟩; rw [parse_show h]; exact ⟨rfl, rfl⟩)
theorem r23same_b (x : Ak) : ACalls E 14 [.sl none 29 [akV x, akV x], .sl none 29 [akV x, akV x]] (fun r t => r = bl true ∧ t = []) :=
  (r23same_c [x, x] [x, x] (by simp)).mono (by rintro r t ⟨rfl, rfl⟩; exact ⟨by simp, rfl⟩)
theorem tlines_b {a : Ak} (h : mayA a = true) : ACalls E 12 [str (35 :: 32 :: 120 :: 10 :: 10 :: (joinW 32 (wordsA a) ++ [10, 35] ++ joinW 32 (wordsA a) ++ [10] ++ joinW 32 (wordsA a)))]
    (fun r t => r = .tup [.sl (some 0) 29 [akV (plainA a), akV (plainA a)], i64 0, i64 0] ∧ t = [2]) := by
  have hl := lines_back h
  have e : ([35, 32, 120, 10, 10] ++ joinW 32 (wordsA a) ++ [10, 35] ++ joinW 32 (wordsA a) ++ [10] ++ joinW 32 (wordsA a)) = (35 :: 32 :: 120 :: 10 :: 10 :: (joinW 32 (wordsA a) ++ [10, 35] ++ joinW 32 (wordsA a) ++ [10] ++ joinW 32 (wordsA a))) := rfl
  rw [e] at hl
  have hc := tlines_c (35 :: 32 :: 120 :: 10 :: 10 :: (joinW 32 (wordsA a) ++ [10, 35] ++ joinW 32 (wordsA a) ++ [10] ++ joinW 32 (wordsA a))) (by have := show_short h; simp only [List.length_cons, List.length_append, List.length_nil]; omega)
  rw [hl] at hc
  exact hc

set_option maxHeartbeats 4000000 in
set_option maxRecDepth 8000 in
theorem textBack_c (a : Ak) (l : List UInt8) : ACalls E 5 [akV a, str l] (fun r t => r = bl true ∧ t = []) := by -- checkroll/checkrolllaw23.TextBack
  refine ACalls.of_awp (n := 97) (rs := [.tmp 4]) Tryz.func5 rfl Tryz.ntmps5 rfl ?_
  repeat' (first
    | refine AWP.seqk fun K hK => ?_
    | (
        refine AWP.here 7 29 8 rfl ?_
        have hm := show_may (by assumption)
        have hsh := show_eq hm
        have hsl := show_short hm
        simp only [hsh]
        refine AWP.region ?_; simp only [go_sem])
    | (refine AWP.region ?_; simp only [go_sem])
    | (refine AWP.here 9 46 24 rfl ?_; refine AWP.regionAs [0, 1, 2, 3, 4, 5, 6, 7, 8, 9, 10, 11, 12, 13, 14, 15, 16, 17, 18, 19, 20, 21, 22, 23] [[], [0], [0, 1], [0, 1, 2], [0, 1, 2], [0, 1, 2, 4], [0, 1, 2, 3, 4, 5], [0, 1, 2, 3, 4, 5, 6], [0, 1, 2, 3, 4, 5, 6, 7], [0, 1, 2, 3, 4, 5, 6, 7, 8], [0, 1, 2, 3, 4, 5, 6, 7, 8, 9], [0, 1, 2, 3, 4, 5, 6, 7, 8, 9, 10], [0, 1, 2, 3, 4, 5, 6, 7, 8, 9, 10, 11], [0, 1, 2, 3, 4, 5, 6, 7, 8, 9, 10, 11, 12], [0, 1, 2, 3, 4, 5, 6, 7, 8, 9, 10, 11, 12, 13], [0, 1, 2, 3, 4, 5, 6, 7, 8, 9, 10, 11, 12, 13, 14], [0, 1, 2, 3, 4, 5, 6, 7, 8, 9, 10, 11, 12, 13, 14, 15], [0, 1, 2, 3, 4, 5, 6, 7, 8, 9, 10, 11, 12, 13, 14, 15, 16], [0, 1, 2, 3, 4, 5, 6, 7, 8, 9, 10, 11, 12, 13, 14, 15, 16], [0, 1, 2, 3, 4, 5, 6, 7, 8, 9, 10, 11, 12, 13, 14, 15, 16], [0, 1, 2, 3, 4, 5, 6, 7, 8, 9, 10, 11, 12, 13, 14, 15, 16, 18, 19], [0, 1, 2, 3, 4, 5, 6, 7, 8, 9, 10, 11, 12, 13, 14, 15, 16, 17, 18, 19, 20], [0, 1, 2, 3, 4, 5, 6, 7, 8, 9, 10, 11, 12, 13, 14, 15, 16, 17, 18, 19, 20, 21], [0, 1, 2, 3, 4, 5, 6, 7, 8, 9, 10, 11, 12, 13, 14, 15, 16, 17, 18, 19, 20, 21, 22]] [] (by kernel_rfl) (by kernel_rfl) (by decide) rfl ?_; simp only [go_sem])
    | (refine hK _ ?_; clear hK K)
    | refine AWP.block ?_
    | refine AWP.cond rfl (fun c => ?_) (fun c => ?_) <;> first | exact Bool.noConfusion c | (try simp only [dD] at c)
    | refine AWP.skip ?_
    | (refine AWP.exit ?_; simp only [go_sem])
    | (refine ACall.one (awake23_c ) (by kernel_rfl) rfl ?_; simp only [go_sem])
    | (refine ACall.of (r20short_c a) (by kernel_rfl) rfl ?_; rintro r t ⟨⟨bb, rfl⟩, rfl⟩; simp only [go_sem])
    | (refine ACall.one (tshow_c a) (by kernel_rfl) rfl ?_; simp only [go_sem])
    | (refine ACall.one (tshow_c (parseA (List.take (min (l.length : Int) 1000).toNat l)).1) (by kernel_rfl) rfl ?_; simp only [go_sem])
    | (refine ACall.one (tparse_b hm) (by kernel_rfl) rfl ?_; simp only [go_sem])
    | (refine ACall.one (tparse_c _ (by first | omega | (simp; omega))) (by kernel_rfl) rfl ?_; simp only [go_sem])
    | (refine ACall.of (tlines_b hm) (by kernel_rfl) rfl ?_; rintro r t ⟨rfl, rfl⟩; simp only [go_sem])
    | (refine ACall.one (r20plain_c a) (by kernel_rfl) rfl ?_; simp only [go_sem])
    | (refine ACall.one (r23same_b (plainA a)) (by kernel_rfl) rfl ?_; simp only [go_sem])
    | (refine AGuard.splitN (fun h => ?_) (fun h => ?_) <;> simp only [h, go_sem] <;> (try simp only [dD] at h))
    | (refine AGuard.split (fun h => ?_) (fun h => ?_) <;> simp only [h, go_sem] <;> (try simp only [dD] at h))
    | (refine AGet.haveM (by assumption) ?_; (try simp only [go_sem]))
    | (refine AGet.have' (by assumption) ?_; (try simp only [go_sem]))
    | ((first | refine AGet.nth ?_ (fun b hb => ?_) | refine AGet.nth1 ?_ (fun b hb => ?_) | with_reducible refine And.intro ?_ ?_); (focus (first | omega | assumption | exact List.length_pos_iff.2 (by assumption) | (simp only [List.length_append, List.length_cons, List.length_nil, List.length_map, List.length_take, List.length_drop] at *; omega) | (rw [wrap64_id (by omega) (by omega)]; omega) | (simp; done) | (simp [spare_len]; done) | (exact ⟨by omega, by omega⟩))); (try simp only [hb, go_sem]))
    | (
        refine AWP.ret ?_
        refine AEnd.is ?_; simp only [go_sem, out_v, out_s, out_n, v_int, v_bool, v_str] <;> (first | rfl | (have he := Txt.parse_err (by assumption); rw [he]; rfl) | (simp [parse_back (by assumption)]; done) | (have he := parse_back (by assumption); simp_all; done) | (simp_all; done) | skip))
    | refine AWP.fin (by assumption) ?_
    | fail)


end Go.Proofs.YtfchlkeekmabfaaGreatDoor
end
