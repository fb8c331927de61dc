/- Texts of one chain, put together (Lc, Ld, Lm, Ln, Facts, FldP, FldQ, FldR, FldS, FldT, FrmA). -/
import Derived.Test.YtfchlkeekmabfaaGreatDoorKaC
import Derived.ProofKit
import Derived.Lib.UnsafeStr
import Derived.Laws.Externs
import Derived.Test.YtfchlkeekmabfaaGreatDoorRows
import Derived.Lib.ParseIntB
import Derived.Lib.ItoaNum
import Derived.Lib.IndexMore
import Derived.Lib.Strings
import GoSem.Core.Utf8
import Derived.WalkKit
section
/- The layer, the plain facts: several texts of one chain, put together (AbsQ, AbsR, AbsS, AbsT, AbsU, AbsV, AbsW, AbsX). -/
/- How a region is worked off by rules: what hangs on a guard, and what a call hands on, waits. -/
namespace Go.Abs
open Go Go.RowKit
set_option linter.unusedVariables false
set_option linter.unusedSimpArgs false

/-- What hangs on a guard; what is handed on is kept as data, so that rules wait for the guard. -/
def AGuard (q : Option Bool) (E : Env) (ops : Array Oper) (o : Oper) (l : List Oper) (st : St) (K : St → Prop) : Prop :=
  ∃ b, q = some b ∧ (b = true → AOp E o st fun s => AList E ops l s K) ∧ (b = false → AList E ops l (st.put o.dst (.v undef)) K)
def AV1 (F : (AV → Prop) → Prop) (E : Env) (ops : Array Oper) (d : Option Tmp) (l : List Oper) (st : St) (K : St → Prop) : Prop := F fun y => AList E ops l (st.put d y) K
def AV2 (F : (St → AV → Prop) → Prop) (E : Env) (ops : Array Oper) (d : Option Tmp) (l : List Oper) (K : St → Prop) : Prop := F fun s y => AList E ops l (s.put d y) K
def AV3 (F : (St → Prop) → Prop) (E : Env) (ops : Array Oper) (d : Option Tmp) (l : List Oper) (K : St → Prop) : Prop := F fun s => AList E ops l (s.put d (.v undef)) K
def ACall (E : Env) (ops : Array Oper) (f : AV) (xs : List AV) (d : Option Tmp) (l : List Oper) (st : St) (K : St → Prop) : Prop := ACallOp E st f xs fun s y => AList E ops l (s.put d y) K
def AOp1 (E : Env) (ops : Array Oper) (o : Oper) (l : List Oper) (st : St) (K : St → Prop) : Prop := AOp E o st fun s => AList E ops l s K
def AConvO (u : Option TypeDesc) (E : Env) (ops : Array Oper) (o : Oper) (s d : TypeId) (x : Operand) (l : List Oper) (st : St) (K : St → Prop) : Prop :=
  match u with
  | some (.slice _) => AV2 (fun k => ABytes E.P s d (st.ev x) st k) E ops o.dst l K
  | _ => AV1 (fun k => AConv E.P s d (st.ev x) k) E ops o.dst l st K

@[congr] theorem AV1.congr {F G : (AV → Prop) → Prop} {E : Env} {ops : Array Oper} {d : Option Tmp} {l : List Oper} {st : St} {K : St → Prop} (h : ∀ k, F k = G k) : AV1 F E ops d l st K = AV1 G E ops d l st K := by rw [funext h]
@[congr] theorem AV2.congr {F G : (St → AV → Prop) → Prop} {E : Env} {ops : Array Oper} {d : Option Tmp} {l : List Oper} {K : St → Prop} (h : ∀ k, F k = G k) : AV2 F E ops d l K = AV2 G E ops d l K := by rw [funext h]
@[congr] theorem AV3.congr {F G : (St → Prop) → Prop} {E : Env} {ops : Array Oper} {d : Option Tmp} {l : List Oper} {K : St → Prop} (h : ∀ k, F k = G k) : AV3 F E ops d l K = AV3 G E ops d l K := by rw [funext h]

section
variable {E : Env} {ops : Array Oper} {o : Oper} {d : Option Tmp} {l : List Oper} {st : St} {K : St → Prop}

@[go_sem] theorem alist_nil : AList E ops [] st K = K st := rfl
@[go_sem] theorem alist_cons : AList E ops (o :: l) st K = AGuard (AWant ops o st) E ops o l st K := rfl
@[go_sem] theorem AGuard.yes : AGuard (some true) E ops o l st K = AOp1 E ops o l st K := by simp [AGuard, AOp1]
@[go_sem] theorem AGuard.no : AGuard (some false) E ops o l st K = AList E ops l (st.put o.dst (.v undef)) K := by simp [AGuard]
theorem AGuard.split {b : Bool} (h1 : b = true → AOp1 E ops o l st K) (h2 : b = false → AList E ops l (st.put o.dst (.v undef)) K) : AGuard (some b) E ops o l st K := ⟨b, rfl, h1, h2⟩
theorem AGuard.splitN {b : Bool} (h1 : b = true → AList E ops l (st.put o.dst (.v undef)) K) (h2 : b = false → AOp1 E ops o l st K) : AGuard (some (!b)) E ops o l st K := ⟨!b, rfl, fun h => h2 (by simpa using h), fun h => h1 (by simpa using h)⟩

@[go_sem] theorem AV1.at {x : AV} : AV1 (fun k => k x) E ops d l st K = AList E ops l (st.put d x) K := rfl
@[go_sem] theorem AV1.and {p : Prop} {F : (AV → Prop) → Prop} : AV1 (fun k => p ∧ F k) E ops d l st K = (p ∧ AV1 F E ops d l st K) := rfl
@[go_sem] theorem AV1.ex {α : Type} {F : α → (AV → Prop) → Prop} : AV1 (fun k => ∃ x, F x k) E ops d l st K = (∃ x, AV1 (F x) E ops d l st K) := rfl
@[go_sem] theorem AV1.all {p : Bool → Prop} {g : Bool → AV} : AV1 (fun k => ∀ b, p b → k (g b)) E ops d l st K = (∀ b, p b → AList E ops l (st.put d (g b)) K) := rfl
@[go_sem] theorem AV1.none : AV1 (fun _ => False) E ops d l st K = False := rfl
@[go_sem] theorem AV2.at {s : St} {x : AV} : AV2 (fun k => k s x) E ops d l K = AList E ops l (s.put d x) K := rfl
@[go_sem] theorem AV2.and {p : Prop} {F : (St → AV → Prop) → Prop} : AV2 (fun k => p ∧ F k) E ops d l K = (p ∧ AV2 F E ops d l K) := rfl
@[go_sem] theorem AV2.ex {α : Type} {F : α → (St → AV → Prop) → Prop} : AV2 (fun k => ∃ x, F x k) E ops d l K = (∃ x, AV2 (F x) E ops d l K) := rfl
@[go_sem] theorem AV2.none : AV2 (fun _ => False) E ops d l K = False := rfl
@[go_sem] theorem AV3.at {s : St} : AV3 (fun k => k s) E ops d l K = AList E ops l (s.put d (.v undef)) K := rfl
@[go_sem] theorem AV3.and {p : Prop} {F : (St → Prop) → Prop} : AV3 (fun k => p ∧ F k) E ops d l K = (p ∧ AV3 F E ops d l K) := rfl
@[go_sem] theorem AV3.ex {α : Type} {F : α → (St → Prop) → Prop} : AV3 (fun k => ∃ x, F x k) E ops d l K = (∃ x, AV3 (F x) E ops d l K) := rfl
@[go_sem] theorem AV3.none : AV3 (fun _ => False) E ops d l K = False := rfl

theorem ACall.of {g : FuncId} {caps xs ys : List AV} {R : AV → List Nat → Prop} (hc : ACalls E g ys R) (hb : callable E.P g = true) (hy : cleanArgs (xs ++ caps) = some ys)
    (h : ∀ r t, R r t → AList E ops l (St.put { st with tk := st.tk ++ t } d (r.shift st.tk.length)) K) : ACall E ops (.fn g caps) xs d l st K := ⟨hb, .inl ⟨ys, hy, R, hc, h⟩⟩
/-- A call whose new row is taken as one's own. -/
theorem ACall.take {g : FuncId} {caps xs ys : List AV} {R : AV → List Nat → Prop} (hc : ACalls E g ys R) (hb : callable E.P g = true) (hr : st.rsv = none) (hy : All2 (Snap st.own) (xs ++ caps) ys)
    (h : ∀ r tks, R r tks → ∃ t k es, r = .sl (some t) k es ∧ tks[t]? = some es.length ∧ (∀ e ∈ es, e.leaves.length = k ∧ ∀ y ∈ e.leaves, ∃ z, y = .v z) ∧
      ∀ m, AList E ops l (St.put { st with own := st.own ++ [some (es ++ spare k m)] } d (.mu st.own.length k 0 es.length (es.length + m))) K) : ACall E ops (.fn g caps) xs d l st K := ⟨hb, .inr ⟨hr, ys, hy, R, hc, .inr h⟩⟩
/-- A call that yields one value and nothing new. -/
theorem ACall.one {g : FuncId} {caps xs ys : List AV} {x : AV} (hc : ACalls E g ys fun r t => r = x ∧ t = []) (hb : callable E.P g = true) (hy : cleanArgs (xs ++ caps) = some ys)
    (h : AList E ops l (st.put d (x.shift st.tk.length)) K) : ACall E ops (.fn g caps) xs d l st K := ACall.of hc hb hy fun r t ⟨h1, h2⟩ => by
  subst h1; subst h2
  rw [List.append_nil]; exact h

variable {ty : TypeId} {pos : String} {after : Array Edge} {guard : Option (Nat × Bool)}
@[go_sem] theorem op_alloc {t : TypeId} : AOp1 E ops ⟨d, .alloc t, ty, pos, after, guard⟩ l st K = AV2 (fun k => AAllocD E.P t d st k) E ops d l K := rfl
@[go_sem] theorem op_box {t : TypeId} {x : Operand} : AOp1 E ops ⟨d, .box t x, ty, pos, after, guard⟩ l st K = AV2 (fun k => ABox (st.ev x) st k) E ops d l K := rfl
@[go_sem] theorem op_store {t : TypeId} {x y : Operand} : AOp1 E ops ⟨d, .store t x y, ty, pos, after, guard⟩ l st K = AV3 (fun k => AStore E.P t (st.ev x) (st.ev y) st k) E ops d l K := rfl
@[go_sem] theorem op_mkslice {t : TypeId} {n : Nat} {ps : Array (Nat × Operand)} : AOp1 E ops ⟨d, .buildSlice t n ps, ty, pos, after, guard⟩ l st K = AV2 (fun k => AMkSlice E.P t n (evParts st ps) st k) E ops d l K := rfl
@[go_sem] theorem op_convert {s t : TypeId} {x : Operand} : AOp1 E ops ⟨d, .convert s t x, ty, pos, after, guard⟩ l st K = AConvO (E.P.underlying t) E ops ⟨d, .convert s t x, ty, pos, after, guard⟩ s t x l st K := by
  simp only [AOp1, AOp, AConvO]
  generalize E.P.underlying t = u
  cases u with
  | none => rfl
  | some u => cases u <;> rfl
@[go_sem] theorem op_append {t tx : TypeId} {x y : Operand} : AOp1 E ops ⟨d, .call ⟨.builtin .append, #[x, y], #[t, tx]⟩, ty, pos, after, guard⟩ l st K = AV2 (fun k => AAppend E.P t tx (st.ev x) (st.ev y) st k) E ops d l K := rfl
@[go_sem] theorem op_call {f : Operand} {xs : Array Operand} {ts : Array TypeId} : AOp1 E ops ⟨d, .call ⟨.value f, xs, ts⟩, ty, pos, after, guard⟩ l st K = ACall E ops (st.ev f) (xs.toList.map st.ev) d l st K := rfl
@[go_sem] theorem op_len {xs : Array Operand} {ts : Array TypeId} : AOp1 E ops ⟨d, .call ⟨.builtin .len, xs, ts⟩, ty, pos, after, guard⟩ l st K = AV1 (fun k => ALight E.P st (.call ⟨.builtin .len, xs, ts⟩) k) E ops d l st K := rfl
@[go_sem] theorem op_min {xs : Array Operand} {ts : Array TypeId} : AOp1 E ops ⟨d, .call ⟨.builtin .min, xs, ts⟩, ty, pos, after, guard⟩ l st K = AV1 (fun k => ALight E.P st (.call ⟨.builtin .min, xs, ts⟩) k) E ops d l st K := rfl
@[go_sem] theorem op_max {xs : Array Operand} {ts : Array TypeId} : AOp1 E ops ⟨d, .call ⟨.builtin .max, xs, ts⟩, ty, pos, after, guard⟩ l st K = AV1 (fun k => ALight E.P st (.call ⟨.builtin .max, xs, ts⟩) k) E ops d l st K := rfl
@[go_sem] theorem op_move {x : Operand} : AOp1 E ops ⟨d, .move x, ty, pos, after, guard⟩ l st K = AV1 (fun k => ALight E.P st (.move x) k) E ops d l st K := rfl
@[go_sem] theorem op_assign {x : Operand} : AOp1 E ops ⟨d, .assign x, ty, pos, after, guard⟩ l st K = AV1 (fun k => ALight E.P st (.assign x) k) E ops d l st K := rfl
@[go_sem] theorem op_pick {x y z : Operand} : AOp1 E ops ⟨d, .pick x y z, ty, pos, after, guard⟩ l st K = AV1 (fun k => ALight E.P st (.pick x y z) k) E ops d l st K := rfl
@[go_sem] theorem op_load {t : TypeId} {x : Operand} : AOp1 E ops ⟨d, .load t x, ty, pos, after, guard⟩ l st K = AV1 (fun k => ALight E.P st (.load t x) k) E ops d l st K := rfl
@[go_sem] theorem op_nilCheck {x : Operand} : AOp1 E ops ⟨d, .nilCheck x, ty, pos, after, guard⟩ l st K = AV1 (fun k => ALight E.P st (.nilCheck x) k) E ops d l st K := rfl
@[go_sem] theorem op_binOp {b : BinOp} {t : TypeId} {x y : Operand} {u : TypeId} : AOp1 E ops ⟨d, .binOp b t x y u, ty, pos, after, guard⟩ l st K = AV1 (fun k => ALight E.P st (.binOp b t x y u) k) E ops d l st K := rfl
@[go_sem] theorem op_unOp {u : UnOp} {t : TypeId} {x : Operand} : AOp1 E ops ⟨d, .unOp u t x, ty, pos, after, guard⟩ l st K = AV1 (fun k => ALight E.P st (.unOp u t x) k) E ops d l st K := rfl
@[go_sem] theorem op_slice {t : TypeId} {x : Operand} {lo hi mx : Option Operand} : AOp1 E ops ⟨d, .slice t x lo hi mx, ty, pos, after, guard⟩ l st K = AV1 (fun k => ALight E.P st (.slice t x lo hi mx) k) E ops d l st K := rfl
@[go_sem] theorem op_fieldAddr {t : TypeId} {x : Operand} {f : Nat} : AOp1 E ops ⟨d, .fieldAddr t x f, ty, pos, after, guard⟩ l st K = AV1 (fun k => ALight E.P st (.fieldAddr t x f) k) E ops d l st K := rfl
@[go_sem] theorem op_field {t : TypeId} {x : Operand} {f : Nat} : AOp1 E ops ⟨d, .field t x f, ty, pos, after, guard⟩ l st K = AV1 (fun k => ALight E.P st (.field t x f) k) E ops d l st K := rfl
@[go_sem] theorem op_indexAddr {t : TypeId} {x i : Operand} : AOp1 E ops ⟨d, .indexAddr t x i, ty, pos, after, guard⟩ l st K = AV1 (fun k => ALight E.P st (.indexAddr t x i) k) E ops d l st K := rfl
@[go_sem] theorem op_index {t : TypeId} {x i : Operand} : AOp1 E ops ⟨d, .index t x i, ty, pos, after, guard⟩ l st K = AV1 (fun k => ALight E.P st (.index t x i) k) E ops d l st K := rfl
@[go_sem] theorem op_extract {x : Operand} {i : Nat} : AOp1 E ops ⟨d, .extract x i, ty, pos, after, guard⟩ l st K = AV1 (fun k => ALight E.P st (.extract x i) k) E ops d l st K := rfl
@[go_sem] theorem op_build {t : TypeId} {ps : Array (Nat × Operand)} : AOp1 E ops ⟨d, .build t ps, ty, pos, after, guard⟩ l st K = AV1 (fun k => ALight E.P st (.build t ps) k) E ops d l st K := rfl
@[go_sem] theorem op_makeInterface {t : TypeId} {x : Operand} : AOp1 E ops ⟨d, .makeInterface t x, ty, pos, after, guard⟩ l st K = AV1 (fun k => ALight E.P st (.makeInterface t x) k) E ops d l st K := rfl
@[go_sem] theorem op_makeFunc {f : Fn} {a b : Array Operand} : AOp1 E ops ⟨d, .makeFunc f a b, ty, pos, after, guard⟩ l st K = AV1 (fun k => ALight E.P st (.makeFunc f a b) k) E ops d l st K := rfl
end

theorem aplan_take {i : Nat} {E : Env} {ops : Array Oper} {st : St} {K : St → Prop} {p : Plan} {o : Oper} (h : ops[i]? = some o) :
    APlan E ops K (.take i p) st = ∃ b, AWant ops o st = some b ∧ (b = true → AOp E o st fun s => APlan E ops K p s) ∧ (b = false → APlan E ops K p (st.put o.dst (.v undef))) := by
  show AStep E ops i (APlan E ops K p) st = _
  unfold AStep; rw [h]
theorem astep_list {E : Env} {ops : Array Oper} {i : Nat} {C : St → Prop} {st : St} : AStep E ops i C st = AList E ops (ops[i]?).toList st C := by
  unfold AStep
  cases ops[i]? <;> rfl
@[go_sem] theorem ap_done {E : Env} {ops : Array Oper} {st : St} {K : St → Prop} : APlan E ops K .done st = K st := rfl
@[go_sem] theorem ap_take {E : Env} {ops : Array Oper} {st : St} {K : St → Prop} {i : Nat} {p : Plan} : APlan E ops K (.take i p) st = AList E ops (ops[i]?).toList st (APlan E ops K p) := astep_list
@[go_sem] theorem ap_fork {E : Env} {ops : Array Oper} {st : St} {K : St → Prop} {p : Plan} : APlan E ops K (.fork p) st = APlan E ops K p st := rfl
@[go_sem] theorem ap_alt {E : Env} {ops : Array Oper} {st : St} {K : St → Prop} {i : Nat} {p r : Plan} : APlan E ops K (.alt i p r) st = (AList E ops (ops[i]?).toList st (APlan E ops K p) ∧ APlan E ops K r st) := by
  rw [← astep_list]; rfl
@[go_sem] theorem ap_ends {E : Env} {ops : Array Oper} {st : St} {K : St → Prop} : APlan E ops K .ends st = True := rfl
attribute [go_sem] and_self Done St.keep mkRsv Option.toList_some Option.toList_none

/-- A plan that only takes. -/
def Plan.ofList : List Nat → Plan
  | [] => .done
  | i :: is => .take i (Plan.ofList is)
def nthO : List Oper → Nat → Option Oper
  | [], _ => none
  | x :: _, 0 => some x
  | _ :: xs, n + 1 => nthO xs n
theorem nthO_eq : ∀ (l : List Oper) (n : Nat), nthO l n = l[n]?
  | [], _ => by simp [nthO]
  | _ :: _, 0 => rfl
  | _ :: xs, n + 1 => by simp [nthO, nthO_eq xs n]
def pickOps (ops : List Oper) : List Nat → Option (List Oper)
  | [] => some []
  | i :: is => match nthO ops i, pickOps ops is with
    | some o, some l => some (o :: l)
    | _, _ => none
theorem aplan_list {E : Env} {ops : List Oper} {K : St → Prop} : ∀ {is : List Nat} {l : List Oper} {st : St}, pickOps ops is = some l → AList E ops.toArray l st K → APlan E ops.toArray K (Plan.ofList is) st
  | [], l, st, h, hl => by
    simp only [pickOps, Option.some.injEq] at h; subst h; exact hl
  | i :: is, l, st, h, hl => by
    simp only [pickOps] at h
    split at h
    · rename_i o l' h1 h2
      simp only [Option.some.injEq] at h; subst h
      show APlan E ops.toArray K (.take i (Plan.ofList is)) st
      rw [nthO_eq] at h1
      rw [aplan_take (o := o) (by simpa using h1)]
      obtain ⟨b, h3, h4, h5⟩ := hl
      exact ⟨b, h3, fun hb => aop_mono (h4 hb) fun s hs => aplan_list h2 hs, fun hb => aplan_list h2 (h5 hb)⟩
    · simp at h
theorem AWP.regionAs {E : Env} {st : St} {id : Nat} {l : List Oper} {Q : Exit → St → Prop} (is : List Nat) (anc : List (List Nat)) (ds : List Tmp) (hm : E.P.follows .mixedOrders = true)
    (hx : (listedOK l.toArray anc && planOK E.P l.toArray anc true (Plan.ofList is) (Array.replicate l.toArray.size false) l.toArray.size) = true) (hd : ds.Nodup) {l' : List Oper} (hl : pickOps l is = some l') (h : AList E l.toArray l' (st.keep ds) (Done (Q .normal))) : AWP E (.region id l.toArray true) Q st :=
  AWP.regionAny (Plan.ofList is) anc ds hm hx hd (aplan_list hl h)

theorem b_beq_true (b : Bool) : (b == true) = b := by cases b <;> rfl
theorem b_beq_false (b : Bool) : (b == false) = !b := by cases b <;> rfl
attribute [go_sem] b_beq_true b_beq_false Option.getD_some Option.getD_none List.getElem?_nil Nat.succ_eq_add_one
/-- What is looked for, ahead of what follows. -/
def AGet {α : Type} (f : Option α) (p : α → Prop) : Prop := ∃ y, f = some y ∧ p y
@[congr] theorem AGet.congr {α : Type} {f g : Option α} {p : α → Prop} (h : f = g) : AGet f p = AGet g p := by rw [h]
@[go_sem] theorem AGet.some {α : Type} {a : α} {p : α → Prop} : AGet (some a) p = p a := by simp [AGet]
@[go_sem] theorem AGet.none {α : Type} {p : α → Prop} : AGet (none : Option α) p = False := by simp [AGet]
@[go_sem ↓] theorem to_get {α : Type} {f : Option α} {p : α → Prop} : (∃ y, f = Option.some y ∧ p y) = AGet f p := rfl
def AGet2 {α : Type} (f : Option (Option α)) (p : α → Prop) : Prop := ∃ y, f = some (some y) ∧ p y
@[congr] theorem AGet2.congr {α : Type} {f g : Option (Option α)} {p : α → Prop} (h : f = g) : AGet2 f p = AGet2 g p := by rw [h]
@[go_sem] theorem AGet2.some {α : Type} {a : α} {p : α → Prop} : AGet2 (some (some a)) p = p a := by simp [AGet2]
@[go_sem ↓] theorem to_get2 {α : Type} {f : Option (Option α)} {p : α → Prop} : (∃ y, f = Option.some (Option.some y) ∧ p y) = AGet2 f p := rfl

theorem nn_int {k : IntKind} {n : Int} : (AV.v (.int k n) = AV.v .nilIface) = False := by simp
theorem nn_bool {b : Bool} : (AV.v (.bool b) = AV.v .nilIface) = False := by simp
theorem nn_str {s : ByteArray} : (AV.v (.string s) = AV.v .nilIface) = False := by simp
theorem nn_agg {cs : List AV} : (AV.agg cs = AV.v .nilIface) = False := by simp
theorem nn_nilS : (AV.nilS = AV.v .nilIface) = False := by simp
theorem nn_sl {t : Option Nat} {k : Nat} {es : List AV} : (AV.sl t k es = AV.v .nilIface) = False := by simp
theorem nn_iface {t : TypeId} {v : Value} : (AV.v (.iface t v) = AV.v .nilIface) = False := by simp
theorem nn_ptr {i j k : Nat} : (AV.ptr i j k = AV.v .nilIface) = False := by simp
theorem ex_const {x : Value} : (∃ z, Operand.const x = Operand.const z) = True := by simp
theorem ex_some2 {α : Type} {a : α} {p : α → Prop} : (∃ y, some (some a) = some (some y) ∧ p y) ↔ p a := by simp
@[go_sem] theorem ex_any {α : Type} {a : α} : (∃ y, some a = some y) = True := by simp
theorem AStore_eq {P : Program} {t : TypeId} {id idx off : Nat} {x : AV} {st : St} {K : St → Prop} : AStore P t (.ptr id idx off) x st K ↔
    ∃ n, tsz P t = some n ∧ ∃ es, st.own[id]? = some (some es) ∧ ∃ e, es[idx]? = some e ∧ x.plain = true ∧ x.leaves.all AV.leafy = true ∧ x.leaves.length = n ∧ off + n ≤ e.leaves.length ∧
      K { st with own := st.own.set id (some (es.set idx (stEl e off x))) } := by
  constructor
  · rintro ⟨n, es, e, h1, h2, h3, h4⟩; exact ⟨n, h1, es, h2, e, h3, h4⟩
  · rintro ⟨n, h1, es, h2, e, h3, h4⟩; exact ⟨n, es, e, h1, h2, h3, h4⟩
attribute [go_sem] aggD AConvO nn_int nn_bool nn_str nn_agg nn_nilS nn_sl nn_iface nn_ptr ex_const ex_some2 AStore_eq Bool.not_not Nat.reduceEqDiff Nat.reduceMul Int.reduceToNat Int.reduceLE Int.reduceLT Nat.reduceLeDiff Int.cast_ofNat_Int
  Nat.one_ne_zero Int.reduceNeg Nat.succ_ne_zero Int.reduceEq Int.reduceNe Bool.false_eq_true Bool.true_eq_false Int.reduceAdd Int.reduceSub Int.zero_le_ofNat Int.toNat_zero Nat.zero_mul Nat.mul_one Nat.zero_le Nat.reduceLT
  Bool.not_eq_true' Bool.not_eq_false'
end Go.Abs

/- Loops, told by what changes. -/
namespace Go.Abs
open Go Go.RowKit
set_option linter.unusedVariables false
set_option linter.unusedSimpArgs false

def havoc : List Nat → List AV → List AV
  | [], l => l
  | i :: is, l => havoc is (l.set i .any)
def putsL : List (Nat × AV) → List AV → List AV
  | [], l => l
  | p :: ps, l => putsL ps (l.set p.1 p.2)
/-- The state at a loop's head: the slots hv are unknown, the slots ps are told, the own blocks and tokens are these. -/
def St.at (st : St) (hv : List Nat) (ps : List (Nat × AV)) (own : List (Option (List AV))) (tk : List Nat) : St := { st with tmps := putsL ps (havoc hv st.tmps), own := own, tk := tk }

theorem AWP.loopH {E : Env} {Q : Exit → St → Prop} {st : St} {ι : Type} {c : Code} (hv : List Nat) (ps : ι → List (Nat × AV)) (I : ι → Prop) (μ : ι → Nat) (i : ι)
    (hw0 : st.Wk (st.at hv (ps i) st.own st.tk)) (hI : I i)
    (round : ∀ i, I i → AWP E c (AThen (fun s' => ∃ j, s'.Wk (st.at hv (ps j) st.own st.tk) ∧ I j ∧ μ j < μ i) Q) (st.at hv (ps i) st.own st.tk)) : AWP E (.loop c) Q st :=
  AWP.loopS (fun i => st.at hv (ps i) st.own st.tk) I μ i hw0 hI round
theorem AWP.loopO {E : Env} {Q : Exit → St → Prop} {st : St} {ι : Type} {c : Code} (hv : List Nat) (ps : ι → List (Nat × AV)) (own : ι → List (Option (List AV))) (tk : ι → List Nat) (I : ι → Prop) (μ : ι → Nat) (i : ι)
    (hw0 : st.Wk (st.at hv (ps i) (own i) (tk i))) (hI : I i)
    (round : ∀ i, I i → AWP E c (AThen (fun s' => ∃ j, s'.Wk (st.at hv (ps j) (own j) (tk j)) ∧ I j ∧ μ j < μ i) Q) (st.at hv (ps i) (own i) (tk i))) : AWP E (.loop c) Q st :=
  AWP.loopS (fun i => st.at hv (ps i) (own i) (tk i)) I μ i hw0 hI round

theorem wkT_nil {no nt : Nat} : WkT no nt [] [] = True := rfl
theorem wkT_cons {no nt : Nat} {x y : AV} {xs ys : List AV} : WkT no nt (x :: xs) (y :: ys) = ((y = .any ∨ (y = x ∧ x.bel no nt = true)) ∧ WkT no nt xs ys) := rfl
theorem wkO_nil {no nt : Nat} {xs : List (Option (List AV))} : WkO no nt xs [] = True := by cases xs <;> rfl
theorem wkO_cons {no nt : Nat} {x y : Option (List AV)} {xs ys : List (Option (List AV))} : WkO no nt (x :: xs) (y :: ys) = ((y = none ∨ (y = x ∧ ∀ es, x = some es → ∀ e ∈ es, ∀ z ∈ e.leaves, z.bel no nt = true)) ∧ WkO no nt xs ys) := rfl
theorem wkK_nil {xs : List Nat} : WkK xs [] = True := by cases xs <;> rfl
theorem wkK_cons {x y : Nat} {xs ys : List Nat} : WkK (x :: xs) (y :: ys) = (y = x ∧ WkK xs ys) := rfl
/-- An own block that stays as it is. -/
theorem wkB_same {no nt : Nat} {x : List AV} : (∀ es, some x = some es → ∀ e ∈ es, ∀ z ∈ e.leaves, z.bel no nt = true) = (x.all fun e => e.leaves.all fun z => z.bel no nt) := by
  simp [List.all_eq_true]
theorem wkB_none {no nt : Nat} : (∀ es, (none : Option (List AV)) = some es → ∀ e ∈ es, ∀ z ∈ e.leaves, z.bel no nt = true) = True := by simp
attribute [go_sem] St.at havoc putsL St.Wk wkT_nil wkT_cons wkO_nil wkO_cons wkK_nil wkK_cons wkB_same wkB_none true_or or_true AV.bel AV.bel1 AV.bel2 Bool.and_self

theorem bif_bool {c a b : Bool} : (bif c then AV.v (.bool a) else AV.v (.bool b)) = AV.v (.bool (bif c then a else b)) := by cases c <;> rfl
theorem bif_false {c a : Bool} : (bif c then a else false) = (c && a) := by cases c <;> rfl
theorem bif_true {c b : Bool} : (bif c then true else b) = (c || b) := by cases c <;> rfl
attribute [go_sem] bif_bool bif_false bif_true Bool.and_false Bool.false_and Bool.or_true Bool.true_or Bool.or_false Bool.false_or
theorem wrap64_id {x : Int} (h1 : -9223372036854775808 ≤ x) (h2 : x ≤ 9223372036854775807) : IntKind.i64.wrap x = x := by
  rw [IntKind.wrap_i64]; omega
end Go.Abs

/- From a contract to a law's row: what is answered is true; the arguments read as they did. -/
namespace Go.Abs
open Go Go.RowKit Go.ChangeShapes
set_option linter.unusedVariables false
set_option linter.unusedSimpArgs false

section
variable {H : Type} {enc : TypeId × Value → H} {P : Program}

theorem trodAll_below (hl : laidOutB P = true) {W W' : World} (hB : Go.RowKit.Below W.heap.size W W') : ∀ {ts : List TypeId} {vs : List Value} {ds : List (DataW H)} {ps : List MemPlace},
    (ts.all fun t => P.readableRec t && decide (t < P.types.size)) = true → (∀ x ∈ ps, x.block < W.heap.size) → DataW.TrodAll enc P W 0 (fun _ => true) true ts vs ds ps →
    DataW.TrodAll enc P W' 0 (fun b => decide (b < W.heap.size)) true ts vs ds ps
  | [], [], [], ps, _, _, h => h
  | t :: ts, v :: vs, d :: ds, ps, hr, hlt, h => by
    obtain ⟨p, q, h1, h2, rfl⟩ := h
    simp only [List.all_cons, Bool.and_eq_true, decide_eq_true_eq] at hr
    exact ⟨p, q, Go.RowKit.Below.trod hl hr.1.1 hr.1.2 h1 hB (fun x hx => hlt x (List.mem_append_left _ hx)), trodAll_below hl hB hr.2 (fun x hx => hlt x (List.mem_append_right _ hx)) h2, rfl⟩
  | [], _ :: _, _, _, _, _, h => by cases h
  | [], [], _ :: _, _, _, _, h => by cases h
  | _ :: _, [], _, _, _, _, h => by cases h
  | _ :: _, _ :: _, [], _, _, _, h => by cases h

theorem law_post {f : Func} {s : ChangeSpec} {apart fresh : Bool} {W W' : World} {args : Array Value} {ds gs : List (DataW H)} {before : List MemPlace} {tb : TypeId}
    (hl : laidOutB P = true) (hr : (f.params.toList.all fun t => P.readableRec t && decide (t < P.types.size)) = true) (hv : s.vars = []) (ht : f.resultTypes = #[tb]) (hb : P.underlying tb = some .bool)
    (hW : DataW.Whole enc P f.params.toList s.vars apart W args.toList ds gs before) (hB : Go.RowKit.Below W.heap.size W W') (hfn : s.fn H (ds ++ gs) = { results := [.lit (.bool true)], args := ds, vars := gs }) :
    s.post enc P f apart fresh false false W args (.bool true) W' := by
  have hW' := hW
  obtain ⟨p, q, hA, hV, rfl, _, _⟩ := hW
  rw [hv] at hV
  obtain ⟨rfl, rfl⟩ := trodVars_none hV
  refine ⟨ds, [], p ++ [], [], p, [], hW', ?_, ?_, ?_, hB.frame _, fun h => by cases h⟩
  · rw [hfn, ht]
    exact ⟨[], [], shut_bool hb true, rfl, rfl⟩
  · rw [hfn]
    exact trodAll_below hl hB hr (fun x hx => hW'.lt x (by simpa using hx)) hA
  · rw [hfn]
    rw [hv]; rfl
end
end Go.Abs

/- What an argument's reading tells of its cells, as abstract values: one law a type. -/
namespace Go.Abs
open Go Go.RowKit Go.ChangeShapes Go.WideShapes
set_option linter.unusedVariables false
set_option linter.unusedSimpArgs false

def imOf (w : World) : Im := fun b o => w.cell? ⟨b, o, none⟩

/-- Leaves tell cells. -/
structure Leafs (im : Im) (ls : List AV) (cs : List Value) : Prop where
  len : cs.length = ls.length
  at' : ∀ (i : Nat) (x : AV) (v : Value), ls[i]? = some x → cs[i]? = some v → VR0 im x v ∧ v.oneCell' = true ∧ x.leaves = [x]

/-- Whatever is read at this type are leaves of this shape. -/
def Reads {H : Type} (enc : TypeId × Value → H) (P : Program) (t : TypeId) (k : Nat) (S : List AV → Prop) : Prop :=
  ∀ (w : World) (base : Nat) (spare : Nat → Bool) (held : Bool) (fuel : Nat) (cs : List Value) (x : DataW H × List MemPlace), DataW.trod enc P w base spare held fuel t cs = some x → ∃ ls, S ls ∧ ls.length = k ∧ Leafs (imOf w) ls cs

section
variable {H : Type} {enc : TypeId × Value → H} {P : Program} {t : TypeId}

theorem Leafs.one {im : Im} {x : AV} {v : Value} (h : VR0 im x v) (h1 : v.oneCell' = true) (h2 : x.leaves = [x]) : Leafs im [x] [v] := by
  refine ⟨rfl, fun i y u e1 e2 => ?_⟩
  cases i with
  | zero => simp only [List.getElem?_cons_zero, Option.some.injEq] at e1 e2; subst e1; subst e2; exact ⟨h, h1, h2⟩
  | succ i => simp at e1

theorem reads_int {kd : IntKind} (ht : P.underlying t = some (.int kd)) : Reads enc P t 1 fun ls => ∃ n, (Lit.int kd n).wf = true ∧ ls = [.v (.int kd n)] := fun w base spare held fuel cs x h => by
  obtain ⟨n, rfl, _, hw⟩ := DataW.trod_int ht h
  exact ⟨_, ⟨n, hw, rfl⟩, rfl, .one (.v _) rfl rfl⟩
theorem reads_bool (ht : P.underlying t = some .bool) : Reads enc P t 1 fun ls => ∃ b : Bool, ls = [bl b] := fun w base spare held fuel cs x h => by
  obtain ⟨b, rfl, _⟩ := DataW.trod_bool ht h
  exact ⟨_, ⟨b, rfl⟩, rfl, .one (.v _) rfl rfl⟩
theorem reads_string (ht : P.underlying t = some .string) : Reads enc P t 1 fun ls => ∃ l : List UInt8, l.length ≤ maxLen ∧ ls = [str l] := fun w base spare held fuel cs x h => by
  obtain ⟨s, rfl, _, hw⟩ := DataW.trod_string ht h
  have e : (⟨s.data.toList.toArray⟩ : ByteArray) = s := by cases s; simp
  refine ⟨[str s.data.toList], ⟨s.data.toList, by simpa using hw, rfl⟩, rfl, .one ?_ rfl rfl⟩
  have h0 : VR0 (imOf w) (.v (.string s)) (.string s) := .v _
  rw [← e] at h0 ⊢
  simpa using h0

theorem Leafs.app {im : Im} {a b : List AV} {cs ds : List Value} (h : Leafs im a cs) (k : Leafs im b ds) : Leafs im (a ++ b) (cs ++ ds) := by
  refine ⟨by simp [h.len, k.len], fun i x v h1 h2 => ?_⟩
  rcases getElem?_app' _ _ _ _ h1 with ⟨l1, h1⟩ | ⟨l1, h1⟩
  · rw [List.getElem?_append_left (by rw [h.len]; exact l1)] at h2
    exact h.at' i x v h1 h2
  · rw [List.getElem?_append_right (by rw [h.len]; exact l1), h.len] at h2
    exact k.at' _ x v h1 h2

/-- Fields, one behind the other. -/
def ReadsF {H : Type} (enc : TypeId × Value → H) (P : Program) (fl : List Field) (off : Nat) (S : List AV → Prop) (total : Nat) : Prop :=
  ∀ (w : World) (base : Nat) (spare : Nat → Bool) (held : Bool) (n : Nat) (cs : List Value), cs.length = total →
    (∀ f ∈ fl, ∃ y, DataW.trod enc P w base spare held n f.type ((cs.drop f.offset).take (P.cellsOf f.type)) = some y) → ∃ ls, S ls ∧ ls.length + off = total ∧ Leafs (imOf w) ls (cs.drop off)
theorem readsF_nil (total : Nat) : ReadsF enc P [] total (fun ls => ls = []) total := fun w base spare held n cs hl _ =>
  ⟨[], rfl, by simp, by rw [List.drop_eq_nil_of_le (by omega)]; exact ⟨rfl, by simp⟩⟩
theorem readsF_cons {f : Field} {fl : List Field} {off k total : Nat} {Sf Sr : List AV → Prop} (hf : Reads enc P f.type k Sf) (hc : P.cellsOf f.type = k) (ho : f.offset = off) (hr : ReadsF enc P fl (off + k) Sr total) :
    ReadsF enc P (f :: fl) off (fun ls => ∃ a b, Sf a ∧ Sr b ∧ ls = a ++ b) total := fun w base spare held n cs hl h => by
  obtain ⟨y, hy⟩ := h f (List.mem_cons_self ..)
  rw [ho, hc] at hy
  obtain ⟨a, a1, a2, a3⟩ := hf w base spare held n _ y hy
  obtain ⟨b, b1, b2, b3⟩ := hr w base spare held n cs hl (fun g hg => h g (List.mem_cons_of_mem _ hg))
  refine ⟨a ++ b, ⟨a, b, a1, b1, rfl⟩, by simp; omega, ?_⟩
  have e : cs.drop off = (cs.drop off).take k ++ cs.drop (off + k) := by rw [← List.drop_drop, List.take_append_drop]
  rw [e]
  exact a3.app b3
theorem reads_struct {fs : Array Field} {fl : List Field} {S : List AV → Prop} {total : Nat} (ht : P.underlying t = some (.struct fs)) (hl : fs.toList = fl) (hc : P.cellsOf t = total) (h : ReadsF enc P fl 0 S total) : Reads enc P t total S := fun w base spare held fuel cs x hx => by
  obtain ⟨xs, n, _, _, h1, h2, h3⟩ := DataW.trod_struct ht hx
  subst hl
  obtain ⟨ls, g1, g2, g3⟩ := h w base spare held n cs (h1.trans hc) (fun f hf => by
    obtain ⟨i, hi⟩ := List.mem_iff_getElem?.1 hf
    have hi2 : fs[i]? = some f := by simpa using hi
    have hlt : i < xs.length := by rw [h2]; exact (Array.getElem?_eq_some_iff.1 hi2).1
    exact ⟨xs[i], by rw [h3 i f hi2, List.getElem?_eq_getElem hlt]⟩)
  exact ⟨ls, g1, by omega, by simpa using g3⟩

/-! ### an argument -/
section
variable {w : World} {base : Nat} {spare : Nat → Bool} {held : Bool} {r : Reach} {b0 : Nat} {v : Value} {d : DataW H} {ps : List MemPlace}

theorem arg_one {S : List AV → Prop} (hc : v.cells.toList = [v]) (hR : Reads enc P t 1 S) (hd : DataW.Trod enc P w base spare held t v d ps) : ∃ x, S [x] ∧ VR0 (imOf w) x v := by
  obtain ⟨fuel, hf⟩ := hd
  rw [hc] at hf
  obtain ⟨ls, h1, h2, h3⟩ := hR _ _ _ _ _ _ _ hf
  obtain ⟨x, rfl⟩ : ∃ x, ls = [x] := by
    cases ls with
    | nil => simp at h2
    | cons x l => cases l with
      | nil => exact ⟨x, rfl⟩
      | cons => simp at h2
  exact ⟨x, h1, (h3.at' 0 x v rfl rfl).1⟩
theorem arg_int {kd : IntKind} (ht : P.underlying t = some (.int kd)) (hv : Value.okWide P w r b0 t v) (hd : DataW.Trod enc P w base spare held t v d ps) : ∃ n, (Lit.int kd n).wf = true ∧ VR0 (imOf w) (.v (.int kd n)) v := by
  obtain ⟨n, rfl⟩ := okWide_int ht hv
  obtain ⟨x, ⟨m, h1, h2⟩, h3⟩ := arg_one (by simp [Value.cells]) (reads_int ht) hd
  simp only [List.cons.injEq, and_true] at h2; subst h2
  exact ⟨m, h1, h3⟩
theorem arg_struct {fs : Array Field} {k : Nat} {S : List AV → Prop} (ht : P.underlying t = some (.struct fs)) (hR : Reads enc P t k S) (hv : Value.okWide P w r b0 t v) (hd : DataW.Trod enc P w base spare held t v d ps) : ∃ ls, S ls ∧ VR0 (imOf w) (.agg ls) v := by
  obtain ⟨cs, rfl, hsz⟩ := okWide_struct ht hv
  obtain ⟨fuel, hf⟩ := hd
  obtain ⟨ls, h1, h2, h3⟩ := hR _ _ _ _ _ _ _ hf
  refine ⟨ls, h1, ?_⟩
  have := VR0.agg (im := imOf w) ls cs.toList (by simpa [Value.cells] using h3.len) (fun i c u e1 e2 => (h3.at' i c u e1 (by simpa [Value.cells] using e2)).1)
  simpa using this
end
end

theorem pw0_nil {im : Im} : Pw0 im [] [] := ⟨rfl, by simp⟩
theorem pw0_cons {im : Im} {x : AV} {v : Value} {xs : List AV} {vs : List Value} (h : VR0 im x v) (k : Pw0 im xs vs) : Pw0 im (x :: xs) (v :: vs) := by
  refine ⟨by simp [k.1], fun i y u h1 h2 => ?_⟩
  cases i with
  | zero => simp only [List.getElem?_cons_zero, Option.some.injEq] at h1 h2; subst h1; subst h2; exact h
  | succ i => exact k.2 i y u (by simpa using h1) (by simpa using h2)

/-- A law's contract, at what is read at the start. -/
theorem calls_law {E : Env} {f : FuncId} {xs : List AV} {args : Array Value} {W : World} (hok : E.ok W) (hg : GOK E (imOf W)) (h : ACalls E f xs fun r t => r = bl true ∧ t = []) (hp : Pw0 (imOf W) xs args.toList) :
    Calls E.P f args W fun e W' => e = .returned (.bool true) ∧ Go.RowKit.Below W.heap.size W W' := by
  have := h W (imOf W) args.toList hok hg (fun b o x e => e) hp
  refine (show Calls E.P f args.toList.toArray W _ from this).mono ?_
  rintro e W' ⟨v, r, tks, im', rfl, hB, _, _, _, _, hv, rfl, _⟩
  cases hv.inv_v
  exact ⟨rfl, hB.toBelow⟩
end Go.Abs

/- Lists of elements told by a function; contracts that a library's contract gives. -/
set_option linter.unusedVariables false
set_option linter.unusedSimpArgs false
namespace Go.Abs
open Go Go.RowKit

theorem map_take' {α β : Type} {f : α → β} {l : List α} {n : Nat} : (l.map f).take n = (l.take n).map f := List.map_take.symm
theorem map_drop' {α β : Type} {f : α → β} {l : List α} {n : Nat} : (l.map f).drop n = (l.drop n).map f := List.map_drop.symm
theorem map_app' {α β : Type} {f : α → β} {l m : List α} : l.map f ++ m.map f = (l ++ m).map f := List.map_append.symm
theorem map_len {α β : Type} {f : α → β} {l : List α} : (l.map f).length = l.length := List.length_map f
theorem map_get {α β : Type} {f : α → β} {l : List α} {i : Nat} : (l.map f)[i]? = (l[i]?).map f := List.getElem?_map
theorem u8_at (b : UInt8) : u8 b = .v (.int .u8 b.toNat) := rfl
theorem app_lit {l : List UInt8} {n : Int} (h0 : 0 ≤ n) (h1 : n < 256) : l.map u8 ++ [.v (.int .u8 n)] = (l ++ [UInt8.ofNat n.toNat]).map u8 := by
  rw [List.map_append]
  congr 1
  have : ((UInt8.ofNat n.toNat).toNat : Int) = n := by simp; omega
  simp only [List.map_cons, List.map_nil, u8_at, this]
theorem app_u8 {l : List UInt8} {b : UInt8} : l.map u8 ++ [.v (.int .u8 b.toNat)] = (l ++ [b]).map u8 := by
  rw [List.map_append]; rfl
theorem ba_eq {A B : List UInt8} : ((⟨A.toArray⟩ : ByteArray) = ⟨B.toArray⟩) = (A = B) := by
  simp only [ByteArray.mk.injEq, eq_iff_iff]
  exact ⟨fun h => by simpa using h, fun h => by rw [h]⟩
theorem ba_list {A : List UInt8} : (⟨A.toArray⟩ : ByteArray).data.toList = A := rfl
theorem AGet.nth {α β : Type} {l : List α} {i : Nat} {f : α → β} {p : β → Prop} (h : i < l.length) (hp : ∀ b, l[i]? = Option.some b → p (f b)) : AGet ((l[i]?).map f) p := by
  obtain ⟨b, hb⟩ : ∃ b, l[i]? = Option.some b := ⟨_, List.getElem?_eq_getElem h⟩
  exact ⟨f b, by rw [hb]; rfl, hp b hb⟩
theorem AGet.nth1 {β : Type} {l : List β} {i : Nat} {p : β → Prop} (h : i < l.length) (hp : ∀ b, l[i]? = Option.some b → p b) : AGet (l[i]?) p := by
  obtain ⟨b, hb⟩ : ∃ b, l[i]? = Option.some b := ⟨_, List.getElem?_eq_getElem h⟩
  exact ⟨b, hb, hp b hb⟩
theorem arr_get {A : List UInt8} {i : Nat} : (A.toArray)[i]? = A[i]? := by simp
theorem toNat_cast {n : Nat} : ((n : Int)).toNat = n := rfl
theorem nn_cast {n : Nat} : (0 ≤ (n : Int)) = True := by simp
section
variable {E : Env} {ops : Array Oper} {d : Option Tmp} {l : List Oper} {st : St} {K : St → Prop}
@[go_sem] theorem AV1.get {α : Type} {o : Option α} {F : α → (AV → Prop) → Prop} : AV1 (fun k => AGet o fun y => F y k) E ops d l st K = AGet o (fun y => AV1 (F y) E ops d l st K) := rfl
@[go_sem] theorem AV2.get {α : Type} {o : Option α} {F : α → (St → AV → Prop) → Prop} : AV2 (fun k => AGet o fun y => F y k) E ops d l K = AGet o (fun y => AV2 (F y) E ops d l K) := rfl
@[go_sem] theorem AV3.get {α : Type} {o : Option α} {F : α → (St → Prop) → Prop} : AV3 (fun k => AGet o fun y => F y k) E ops d l K = AGet o (fun y => AV3 (F y) E ops d l K) := rfl
end
attribute [go_sem] map_take' map_drop' map_app' map_len map_get u8_at app_lit app_u8 ba_eq ba_list arr_get toNat_cast nn_cast List.length_append List.length_map Option.map_some Option.map_none

section
variable {E : Env} {f : FuncId} {R : AV → List Nat → Prop}

theorem pw0_vals {im : Im} : ∀ {xs vs : List Value}, Pw0 im (xs.map .v) vs → vs = xs
  | [], vs, h => List.eq_nil_of_length_eq_zero (by simpa using h.1)
  | x :: xs, vs, h => by
    cases vs with
    | nil => have := h.1; simp at this
    | cons v vs =>
      have h0 := h.2 0 (.v x) v rfl rfl
      cases h0
      have := pw0_vals (im := im) (xs := xs) (vs := vs) ⟨by have := h.1; simpa using this, fun i y u h1 h2 => h.2 (i + 1) y u (by simpa using h1) (by simpa using h2)⟩
      rw [this]
/-- A function of values that leaves the world as it was. -/
theorem ACalls.of_pure {xs : List Value} {S : Value → Prop} (h : ∀ w, E.ok w → Calls E.P f xs.toArray w fun e w' => (∃ v, e = .returned v ∧ S v) ∧ w' = w) (hR : ∀ v, S v → ∃ r, (∀ im, VR0 im r v) ∧ R r []) : ACalls E f (xs.map .v) R := by
  intro w im vs hok hg him hpw
  rw [pw0_vals hpw]
  refine (h w hok).mono ?_
  rintro e w' ⟨⟨v, rfl, hs⟩, rfl⟩
  obtain ⟨r, h1, h2⟩ := hR v hs
  exact ⟨v, r, [], im, rfl, Below.refl _ _, .refl _, fun _ _ _ => rfl, him, ⟨by simp, by simp⟩, .base (h1 im), h2⟩
/-- A function of values that leaves old memory as it was. -/
theorem ACalls.of_below {xs : List Value} {S : Value → Prop} (h : ∀ w, E.ok w → Calls E.P f xs.toArray w fun e w' => (∃ v, e = .returned v ∧ S v) ∧ Below E.dr w.heap.size w w') (hR : ∀ v, S v → ∃ r, (∀ im, VR0 im r v) ∧ R r []) : ACalls E f (xs.map .v) R := by
  intro w im vs hok hg him hpw
  rw [pw0_vals hpw]
  refine (h w hok).mono ?_
  rintro e w' ⟨⟨v, rfl, hs⟩, hb⟩
  obtain ⟨r, h1, h2⟩ := hR v hs
  refine ⟨v, r, [], im, rfl, hb, .refl _, fun _ _ _ => rfl, fun b o x hx => ?_, ⟨by simp, by simp⟩, .base (h1 im), h2⟩
  have := him b o x hx
  rw [← this]
  exact cell_of_block (hb.block b (World.block_lt_of_cell? w ⟨b, o, none⟩ this)) o
end
end Go.Abs
namespace Go.Abs
open Go Go.RowKit
end Go.Abs
namespace Go.Abs
open Go Go.RowKit
end Go.Abs
namespace Go.Abs
theorem AGet.have' {α : Type} {o : Option α} {b : α} {p : α → Prop} (h : o = Option.some b) (hp : p b) : AGet o p := ⟨b, h, hp⟩
theorem AGet.haveM {α β : Type} {o : Option α} {b : α} {f : α → β} {p : β → Prop} (h : o = Option.some b) (hp : p (f b)) : AGet (o.map f) p := ⟨f b, by rw [h]; rfl, hp⟩
end Go.Abs
namespace Go.Abs
open Go Go.RowKit
def AAppTo (s : AV) (k n : Nat) (xs : List AV) (st : St) (K : St → AV → Prop) : Prop :=
  match s with
    | .sl (some tk) q es => q = k ∧ st.tk[tk]? = some es.length ∧ es.length + xs.length ≤ 4611686018427387904 ∧ (es.length + xs.length) * n ≤ 140737488355328 ∧
        K { st with tk := st.tk.set tk (es.length + xs.length) } (.sl (some tk) k (es ++ xs))
    | .nilS => xs.length ≤ 4611686018427387904 ∧ xs.length * n ≤ 140737488355328 ∧ K { st with tk := st.tk ++ [xs.length] } (.sl (some st.tk.length) k xs)
    | .mu id q off len cap => q = k ∧ off = 0 ∧ xs ≠ [] ∧ len + xs.length ≤ 4611686018427387904 ∧ (len + xs.length) * n ≤ 140737488355328 ∧
        AGet2 st.own[id]? fun l => len ≤ l.length ∧ cap = l.length ∧
        ∀ m, K { st with own := st.own.set id none ++ [some (l.take len ++ xs ++ spare k m)] } (.mu st.own.length k 0 (len + xs.length) (len + xs.length + m))
    | _ => False
@[go_sem] theorem AAppend_eq {P : Program} {t tx : TypeId} {s x : AV} {st : St} {K : St → AV → Prop} : AAppend P t tx s x st K =
    (srcTy P tx = true ∧ AGet (appInfo P t) fun p => AGet (ASrc x p.2.1) fun xs => AAppTo s p.2.1 p.2.2 xs st K) := by
  simp only [AAppend, AGet, AAppTo, eq_iff_iff]
  constructor
  · rintro ⟨h0, e, k, n, xs, h1, h2, h3⟩; exact ⟨h0, (e, k, n), h1, xs, h2, h3⟩
  · rintro ⟨h0, ⟨e, k, n⟩, h1, xs, h2, h3⟩; exact ⟨h0, e, k, n, xs, h1, h2, h3⟩
attribute [go_sem] AAppTo
end Go.Abs
namespace Go.Abs
open Go Go.RowKit
@[go_sem] theorem AMkSlice_eq {P : Program} {t : TypeId} {len : Nat} {ps : List (Nat × AV)} {st : St} {K : St → AV → Prop} : AMkSlice P t len ps st K =
    (AGet (appInfo P t) fun p => ps.length = len ∧ idxFrom 0 ps = true ∧ len * p.2.1 ≤ 16777216 ∧ AGet (cleanAll p.2.1 ps) fun ys => K { st with tk := st.tk ++ [ys.length] } (.sl (some st.tk.length) p.2.1 ys)) := by
  simp only [AMkSlice, AGet, eq_iff_iff]
  constructor
  · rintro ⟨e, k, n, ys, h1, h2, h3, h4, h5, h6⟩; exact ⟨(e, k, n), h1, h2, h3, h4, ys, h5, h6⟩
  · rintro ⟨⟨e, k, n⟩, h1, h2, h3, h4, ys, h5, h6⟩; exact ⟨e, k, n, ys, h1, h2, h3, h4, h5, h6⟩
end Go.Abs
namespace Go.Abs
open Go Go.RowKit
@[go_sem] theorem ASlice_str {P : Program} {t : TypeId} {s : ByteArray} {lo hi : Option AV} {k : AV → Prop} : ASlice P t (.v (.string s)) lo hi k =
    (P.underlying t = some .string ∧ AGet (bnd lo 0) fun l => AGet (bnd hi s.data.toList.length) fun h => 0 ≤ l ∧ l ≤ h ∧ h ≤ (s.data.toList.length : Int) ∧ k (.v (.string ⟨(cutL lo hi s.data.toList).toArray⟩))) := by
  simp only [ASlice, AGet, eq_iff_iff]
  constructor
  · rintro ⟨h0, l, h, h1, h2, h3⟩; exact ⟨h0, l, h1, h, h2, h3⟩
  · rintro ⟨h0, l, h1, h, h2, h3⟩; exact ⟨h0, l, h, h1, h2, h3⟩
@[go_sem] theorem ASlice_sl {P : Program} {t : TypeId} {t' : Option Nat} {q : Nat} {es : List AV} {lo hi : Option AV} {k : AV → Prop} : ASlice P t (.sl t' q es) lo hi k =
    ((∃ e, P.underlying t = some (.slice e) ∧ tsz P e = some q) ∧ AGet (bnd lo 0) fun l => AGet (bnd hi es.length) fun h => 0 ≤ l ∧ l ≤ h ∧ h ≤ (es.length : Int) ∧ k (.sl (loTok lo t') q (cutL lo hi es))) := by
  simp only [ASlice, AGet, eq_iff_iff]
  constructor
  · rintro ⟨h0, l, h, h1, h2, h3⟩; exact ⟨h0, l, h1, h, h2, h3⟩
  · rintro ⟨h0, l, h1, h, h2, h3⟩; exact ⟨h0, l, h, h1, h2, h3⟩
@[go_sem] theorem ASlice_nil {P : Program} {t : TypeId} {lo hi : Option AV} {k : AV → Prop} : ASlice P t .nilS lo hi k =
    ((∃ e n, P.underlying t = some (.slice e) ∧ tsz P e = some n) ∧ bnd lo 0 = some 0 ∧ bnd hi 0 = some 0 ∧ k .nilS) := rfl
@[go_sem] theorem ASlice_mu {P : Program} {t : TypeId} {id q off len cap : Nat} {lo hi : Option AV} {k : AV → Prop} : ASlice P t (.mu id q off len cap) lo hi k =
    ((∃ e n, P.underlying t = some (.slice e) ∧ tsz P e = some n) ∧ lo = none ∧ AGet (bnd hi len) fun h => 0 ≤ h ∧ h ≤ (len : Int) ∧ k (.mu id q off h.toNat cap)) := rfl
@[go_sem] theorem ASlice_rptr {P : Program} {t : TypeId} {cs : List AV} {lo hi : Option AV} {k : AV → Prop} : ASlice P t (.rptr cs) lo hi k =
    (∃ L e, P.underlying t = some (.array L e) ∧ tsz P e = some 1 ∧ lo = none ∧ AGet (bnd hi L) fun h => 0 ≤ h ∧ h ≤ (cs.length : Int) ∧ h ≤ (L : Int) ∧ (∀ c ∈ cs, c.leaves = [c]) ∧ k (.sl none 1 (cs.take h.toNat))) := rfl
theorem ex_slice {e : TypeId} {p : TypeId → Prop} : (∃ x, some (TypeDesc.slice e) = some (TypeDesc.slice x) ∧ p x) = p e := by simp
theorem ex_slice2 {e : TypeId} {p : TypeId → Nat → Prop} : (∃ x n, some (TypeDesc.slice e) = some (TypeDesc.slice x) ∧ p x n) = ∃ n, p e n := by simp
theorem pair_eta {α β : Type} {p : α × β} : (p.1, p.2) = p := rfl
attribute [go_sem] pair_eta ex_slice ex_slice2
end Go.Abs
namespace Go.Abs
open Go Go.RowKit
section
variable {P : Program} {t : TypeId} {k : Bool → Prop}
@[go_sem] theorem AEq_bool {a b : Bool} : AEq P t (.v (.bool a)) (.v (.bool b)) k = (P.underlying t = some .bool ∧ k (decide (a = b))) := rfl
@[go_sem] theorem AEq_nn : AEq P t .nilS .nilS k = ((∃ e, P.underlying t = some (.slice e)) ∧ k true) := rfl
@[go_sem] theorem AEq_sn {x : Option Nat} {y : Nat} {es : List AV} : AEq P t (.sl x y es) .nilS k = ((∃ e, P.underlying t = some (.slice e)) ∧ ∀ b, (es ≠ [] → b = false) → k b) := rfl
@[go_sem] theorem AEq_ns {x : Option Nat} {y : Nat} {es : List AV} : AEq P t .nilS (.sl x y es) k = ((∃ e, P.underlying t = some (.slice e)) ∧ ∀ b, (es ≠ [] → b = false) → k b) := rfl
@[go_sem] theorem AEq_mn {i x y z u : Nat} : AEq P t (.mu i x y z u) .nilS k = ((∃ e, P.underlying t = some (.slice e)) ∧ ∀ b, (z ≠ 0 → b = false) → k b) := rfl
@[go_sem] theorem AEq_ii : AEq P t (.v .nilIface) (.v .nilIface) k = ((∃ ms, P.underlying t = some (.interface ms)) ∧ k true) := rfl
@[go_sem] theorem AEq_fi {x : TypeId} {y : Value} : AEq P t (.v (.iface x y)) (.v .nilIface) k = ((∃ ms, P.underlying t = some (.interface ms)) ∧ k false) := rfl
@[go_sem] theorem AEq_agg {xs ys : List AV} : AEq P t (.agg xs) (.agg ys) k = (AGet (flatKinds P t) fun ks => AGet (aggEq ks xs ys) k) := by
  simp only [AEq, AGet, eq_iff_iff]
  constructor
  · rintro ⟨ks, b, h1, h2, h3⟩; exact ⟨ks, h1, b, h2, h3⟩
  · rintro ⟨ks, h1, b, h2, h3⟩; exact ⟨ks, b, h1, h2, h3⟩
end
end Go.Abs
namespace Go.Abs
/-- What a test says, as a proposition. -/
theorem dD : (∀ (p : Prop) [Decidable p], (decide p = true) = p) ∧ (∀ (p : Prop) [Decidable p], (decide p = false) = ¬ p) ∧ (∀ b : Bool, ((!b) = true) = (b = false)) ∧ (∀ b : Bool, ((!b) = false) = (b = true)) ∧
    (∀ a b : Bool, ((a || b) = true) = (a = true ∨ b = true)) ∧ (∀ a b : Bool, ((a && b) = true) = (a = true ∧ b = true)) ∧ (∀ a b : Bool, ((a || b) = false) = (a = false ∧ b = false)) ∧
    (∀ a b : Bool, ((a && b) = false) = (a = true → b = false)) ∧ ((!true) = false) ∧ ((!false) = true) ∧ ((true = false) = False) ∧ ((false = true) = False) ∧ (∀ (α : Type) (a b : α), (a ≠ b) = ¬ (a = b)) :=
  ⟨fun p _ => by simp, fun p _ => by simp, by decide, by decide, by decide, by decide, by decide, by decide, rfl, rfl, by simp, by simp, fun _ _ _ => rfl⟩
end Go.Abs

/- A call whose body is walked in the caller's state: own blocks and tokens are shared. -/
set_option linter.unusedVariables false
set_option linter.unusedSimpArgs false
namespace Go.Abs
open Go Go.RowKit

def AInPost (P : Program) (rs : List ResultVar) (st : St) (K : St → AV → Prop) : Exit → St → Prop
  | .normal, s | .ret, s => s.up = st.tmps ++ st.up ∧ ARes P s rs fun l => K { s with tmps := st.tmps, up := st.up } (tupOf l)
  | _, _ => False
/-- The rest of a region. -/
def AWPL (E : Env) (ops : Array Oper) (l : List Oper) (Q : Exit → St → Prop) (st : St) : Prop :=
  ∀ (w0 : World) (im0 : Base) (cx : Ctx) (a : Act) (w : World), E.ok w0 → GOB E im0 → Rel w0 im0 cx st a w → wpList E.P ops (fun e a' w' => Hands w0 im0 (Q e) a' w') l a w

section
variable {E : Env} {Q : Exit → St → Prop} {st : St} {ops : Array Oper} {l l1 l2 : List Oper}

theorem AWP.regionL {id : Nat} (h : AWPL E l.toArray l Q st) : AWP E (.region id l.toArray false) Q st := fun w0 im0 cx a w h0 hG r => wp_region_lit (h w0 im0 cx a w h0 hG r)
theorem AWPL.of (h : AList E ops l st (Q .normal)) : AWPL E ops l Q st := fun w0 im0 cx a w h0 hG r => alist_sound h0 hG (K := Q .normal) (fun _ _ hh => hh) l r h

theorem alist_app {w0 : World} {im0 : Base} (h0 : E.ok w0) (hG : GOB E im0) {K : St → Prop} {R : Exit → Act → World → Prop} (hQ : ∀ a w, Hands w0 im0 K a w → wpList E.P ops R l2 a w) :
    ∀ (l : List Oper) {c : Ctx} {st : St} {a : Act} {w : World}, Rel w0 im0 c st a w → AList E ops l st K → wpList E.P ops R (l ++ l2) a w
  | [], c, st, a, w, r, h => hQ _ _ ⟨c, st, r, h⟩
  | o :: rest, c, st, a, w, r, h => by
    obtain ⟨q, hq, h1, h2⟩ := h
    have hw := want_ok r hq
    rw [List.cons_append]
    refine wpList_step (fun K' hK' => ?_)
    cases q with
    | true =>
      rw [if_pos hw]
      refine Oper.wp_mono (fun a' w' hh => ?_) (aop_sound (Q := R) h0 hG r (h1 rfl))
      obtain ⟨c', st', r', h'⟩ := hh
      exact hK' _ _ (alist_app h0 hG hQ rest r' h')
    | false =>
      rw [if_neg (by rw [hw]; exact Bool.false_ne_true)]
      exact hK' _ _ (alist_app h0 hG hQ rest (r.put o.dst (.base (.v undef))) (h2 rfl))
theorem AWPL.app (h : AList E ops l1 st (AWPL E ops l2 Q)) : AWPL E ops (l1 ++ l2) Q st := fun w0 im0 cx a w h0 hG r =>
  alist_app h0 hG (K := AWPL E ops l2 Q) (fun a' w' hh => by obtain ⟨c, s, r', k⟩ := hh; exact k w0 im0 c a' w' h0 hG r') l1 r h

/-- A call, its body walked here. -/
theorem AWPL.call {g : FuncId} {fn : Func} {body : Code} {n : Nat} {rs : List ResultVar} {caps : List AV} {dst : Option Tmp} {f : Operand} {xs : Array Operand} {tys : Array TypeId} {ty : TypeId} {pos : String} {after : Array Edge}
    (hf : E.P.funcs[g]? = some fn) (hb : fn.body = some body) (hn : fn.ntmps = n) (hr : fn.results.toList = rs) (hc : callable E.P g = true) (he : st.ev f = .fn g caps) (hrsv : st.rsv = none)
    (h : AWP E body (AInPost E.P rs st fun s z => AWPL E ops l Q (s.put dst z)) { st with tmps := (xs.toList.map st.ev ++ caps) ++ List.replicate (n - (xs.toList.map st.ev ++ caps).length) (.v undef), up := st.tmps ++ st.up }) :
    AWPL E ops (⟨dst, .call ⟨.value f, xs, tys⟩, ty, pos, after, none⟩ :: l) Q st := by
  intro w0 im0 cx a w h0 hG r
  subst hn; subst hr
  refine wpList_step (fun K' hK' => ?_)
  have hw : Region.wanted ⟨dst, .call ⟨.value f, xs, tys⟩, ty, pos, after, none⟩ (yielded ops a.tmps) = true := rfl
  rw [if_pos hw]
  have hv := r.ev f
  rw [he] at hv
  obtain ⟨us, hfe, hnu, hpu⟩ := hv.inv_fn
  have hargs : Pw cx (xs.toList.map st.ev ++ caps) (xs.toList.map a.eval ++ us) := by
    refine ⟨by simp [hnu], fun i x v h1 h2 => ?_⟩
    rcases getElem?_app _ _ _ _ h1 with ⟨l1, h1⟩ | ⟨l1, h1⟩
    · rw [List.getElem?_append_left (by simpa using l1)] at h2
      rw [List.getElem?_map] at h1 h2
      cases hc : xs.toList[i]? with
      | none => simp [hc] at h1
      | some z => simp only [hc, Option.map_some, Option.some.injEq] at h1 h2; subst h1; subst h2; exact r.ev z
    · rw [List.getElem?_append_right (by simpa using l1)] at h2
      have : (xs.toList.map a.eval).length = (xs.toList.map st.ev).length := by simp
      rw [this] at h2
      exact hpu _ _ _ h1 h2
  have hrun : (execOp a.eval ⟨dst, .call ⟨.value f, xs, tys⟩, ty, pos, after, none⟩).run E.P w = .ok (.enter g (xs.toList.map a.eval ++ us).toArray) w := by
    unfold callable at hc
    simp only [hf, Bool.and_eq_true, Bool.not_eq_true'] at hc
    obtain ⟨hn1, hn2⟩ := hc
    have hbn : fn.body.isNone = false := by rw [hb]; rfl
    have harr : Array.map a.eval xs ++ us.toArray = (xs.toList.map a.eval ++ us).toArray := by
      apply Array.ext'
      simp
    have he' : a.eval f = .func (.func g) #[] us.toArray := hfe
    simp only [execOp, resolve, he', Deferred.ofValue, Sem.run_bind, Sem.run_pure, Result.andThen_ok, invoke, callFunc, run_program, hf, hn1, Bool.false_eq_true, if_false, hbn, Array.empty_append, harr]
  unfold Oper.wp
  rw [hrun]
  simp only [Oper.upon]
  generalize hvs : xs.toList.map a.eval ++ us = vs at *
  generalize hys : xs.toList.map st.ev ++ caps = ys at *
  have hrel : Rel w0 ⟨im0.im, a.tmps.toList ++ im0.ex, im0.dr⟩ cx { st with tmps := ys ++ List.replicate (fn.ntmps - ys.length) (.v undef), up := st.tmps ++ st.up } { tmps := vs.toArray ++ Array.replicate (fn.ntmps - vs.toArray.size) undef, defers := [] } w := by
    refine ⟨⟨rfl, r.defers.2⟩, by simp [hargs.1], ?_, r.below, r.imle, r.imold, r.imok, r.ownlen, r.own, r.tklen, r.tail, r.tok, r.apart, r.glob, ⟨?_, ?_⟩, r.hole⟩
    · intro i x v h1 h2
      rcases getElem?_app _ _ _ _ h1 with ⟨l1, h1⟩ | ⟨l1, h1⟩
      · have : i < vs.length := by rw [hargs.1]; exact l1
        rw [Array.getElem?_append_left (by simpa using this)] at h2
        exact hargs.2 i x v h1 (by simpa using h2)
      · have hlen : vs.length = ys.length := hargs.1
        rw [Array.getElem?_append_right (by simp; omega)] at h2
        have e1 : x = .v undef := by
          have := List.mem_of_getElem? h1
          simp only [List.mem_replicate] at this
          exact this.2
        have e2 : v = undef := by
          have := Array.mem_of_getElem? h2
          simp only [Array.mem_replicate] at this
          exact this.2
        subst e1; subst e2
        exact .base (.v _)
    · show (a.tmps.toList ++ im0.ex).length = (st.tmps ++ st.up).length
      rw [List.length_append, List.length_append, r.up.1, Array.length_toList, r.size]
    · intro i x v h1 h2
      have h1 : (st.tmps ++ st.up)[i]? = some x := h1
      have h2 : (a.tmps.toList ++ im0.ex)[i]? = some v := h2
      rcases getElem?_app _ _ _ _ h1 with ⟨l1, h1⟩ | ⟨l1, h1⟩
      · rw [List.getElem?_append_left (by rw [Array.length_toList, r.size]; exact l1)] at h2
        exact r.tmps i x v h1 (by simpa using h2)
      · rw [List.getElem?_append_right (by rw [Array.length_toList, r.size]; exact l1), Array.length_toList, r.size] at h2
        exact r.up.2 _ x v h1 h2
  have hsz : vs.toArray.size = vs.length := by simp
  refine (calls_of_wp (R := fun e w' => ∃ v, e = .returned v ∧ K' (a.put dst v) w') hf hb ?_).mono ?_
  · refine wp_mono (h w0 ⟨im0.im, a.tmps.toList ++ im0.ex, im0.dr⟩ _ _ w h0 hG hrel) fun e a' w' hh => ?_
    obtain ⟨c', st', r', q⟩ := hh
    have fin : (st'.up = st.tmps ++ st.up ∧ ARes E.P st' fn.results.toList fun l' => AWPL E ops l Q (St.put { st' with tmps := st.tmps, up := st.up } dst (tupOf l'))) →
        a'.defers = [] ∧ ∃ v, (results fn a'.tmps).run E.P w' = .ok v w' ∧ ∃ v', Ending.returned v = .returned v' ∧ K' (a.put dst v') w' := by
      rintro ⟨hup, q⟩
      obtain ⟨l', us', h1, h2, h3⟩ := res_ok r' q
      refine ⟨r'.defers.1, _, results_run h1, _, rfl, hK' _ _ ?_⟩
      have hup1 := r'.up.1
      have hup2 := r'.up.2
      rw [hup] at hup1 hup2
      have hup2' : ∀ (i : Nat) (x : AV) (v : Value), (st.tmps ++ st.up)[i]? = some x → (a.tmps.toList ++ im0.ex)[i]? = some v → VR c' x v := hup2
      have rb : Rel w0 im0 c' { st' with tmps := st.tmps, up := st.up } a w' := by
        refine ⟨r.defers, r.size, fun i x v e1 e2 => ?_, r'.below, r'.imle, r'.imold, r'.imok, r'.ownlen, r'.own, r'.tklen, r'.tail, r'.tok, r'.apart, r'.glob, ⟨r.up.1, fun i x v e1 e2 => ?_⟩, r'.hole⟩
        · have e1 : st.tmps[i]? = some x := e1
          have hlt : i < st.tmps.length := (List.getElem?_eq_some_iff.1 e1).1
          refine hup2' i x v ?_ ?_
          · rw [List.getElem?_append_left hlt]; exact e1
          · rw [List.getElem?_append_left (by rw [Array.length_toList, r.size]; exact hlt)]; simpa using e2
        · have e1 : st.up[i]? = some x := e1
          refine hup2' (st.tmps.length + i) x v ?_ ?_
          · rw [List.getElem?_append_right (by omega)]
            rw [Nat.add_sub_cancel_left]; exact e1
          · rw [List.getElem?_append_right (by rw [Array.length_toList, r.size]; omega), Array.length_toList, r.size, Nat.add_sub_cancel_left]; exact e2
      refine h3 w0 im0 c' _ w' h0 hG (rb.put dst ?_)
      cases l' with
      | nil =>
        have : us' = [] := List.eq_nil_of_length_eq_zero h2.1
        subst this
        exact .tup [] [] rfl (by simp)
      | cons x l' => cases l' with
        | nil =>
          cases us' with
          | nil => have := h2.1; simp at this
          | cons u us' =>
            have : us' = [] := List.eq_nil_of_length_eq_zero (by have := h2.1; simpa using this)
            subst this
            exact h2.2 0 x u rfl rfl
        | cons z l' =>
          have hl2 : us'.length = (x :: z :: l').length := h2.1
          rw [if_neg (by rw [hl2]; simp)]
          exact .tup _ us' h2.1 h2.2
    cases e <;> simp only [AInPost] at q <;> first | exact q.elim | skip
    case normal => exact fin q
    case ret => exact fin q
  · rintro e w' ⟨v, rfl, hk⟩; exact hk
end
end Go.Abs

/- A row of bytes that lies in new memory; values of slots that were put. -/
set_option linter.unusedVariables false
set_option linter.unusedSimpArgs false
namespace Go.Abs
open Go Go.RowKit

end Go.Abs

/- An own block that is written no more becomes cells that never change; a token's row becomes an own block, to be written. -/
set_option linter.unusedVariables false
set_option linter.unusedSimpArgs false
namespace Go.Abs
open Go Go.RowKit

section
variable {w0 : World} {im0 : Base} {c : Ctx} {st : St} {a : Act} {w : World}

def pubIm (im : Im) (w : World) (g n : Nat) : Im := fun b o => if b = g then (if o < n then w.cell? ⟨g, o, none⟩ else none) else im b o

/-- An own block is written no more. -/
theorem Rel.publish (r : Rel w0 im0 c st a w) {id g k : Nat} {es : List AV} (h1 : c.β[id]? = some (some (g, k))) (h2 : st.own[id]? = some (some es)) {es' : List AV} {n : Nat} (hes : es' = es.take n) (hc : ∀ e ∈ es', ∀ x ∈ e.leaves, x.clean1 = some x) :
    ∃ c', c.le c' ∧ c'.β = c.β ∧ c'.tk = c.tk ∧ (∀ o, es'.length * k ≤ o → c'.im g o = none) ∧ Rel w0 im0 c' { st with own := st.own.set id none } a w ∧ ∃ cv : Nat → Nat → Value,
      (∀ (i : Nat) (e : AV), es'[i]? = some e → e.leaves.length = k) ∧
      (∀ (i : Nat) (e : AV) (j : Nat) (y : AV), es'[i]? = some e → e.leaves[j]? = some y → c'.im g (i * k + j) = some (cv i j)) ∧
      (∀ (i : Nat) (e : AV) (j : Nat) (y : AV), es'[i]? = some e → e.leaves[j]? = some y → (cv i j).oneCell' = true) ∧
      ∀ (i : Nat) (e : AV) (j : Nat) (y : AV), es'[i]? = some e → e.leaves[j]? = some y → VR0 c'.im y (cv i j) := by
  have ho := r.own id g k es h1 h2
  obtain ⟨cs, ty, lo, hi, hblk, _, hsz, hlv, hcell⟩ := ho.blk
  have hsub : ∀ (i : Nat) (e : AV), es'[i]? = some e → es[i]? = some e := fun i e he => by
    rw [hes, List.getElem?_take] at he
    split at he
    · exact he
    · simp at he
  have hle : c.im.le (pubIm c.im w g (es'.length * k)) := by
    intro b o v hv
    unfold pubIm
    rw [if_neg (fun e => by subst e; rw [ho.im o] at hv; simp at hv)]
    exact hv
  have hcle : c.le ⟨c.β, c.tk, pubIm c.im w g (es'.length * k)⟩ := ⟨fun _ _ h => h, fun t T h => ⟨T, h, rfl, .inl rfl⟩, hle⟩
  have hgo : ∀ b o, b ≠ g → pubIm c.im w g (es'.length * k) b o = c.im b o := fun b o hb => by unfold pubIm; rw [if_neg hb]
  refine ⟨⟨c.β, c.tk, pubIm c.im w g (es'.length * k)⟩, hcle, rfl, rfl, fun o ho' => ?_, ?_, fun i j => cs.getD (i * k + j) undef, fun i e he => hlv i e (hsub i e he), ?_, ?_, ?_⟩
  · show pubIm c.im w g (es'.length * k) g o = none
    unfold pubIm
    rw [if_pos rfl, if_neg (by omega)]
  · refine ⟨r.defers, r.size, fun i x v e1 e2 => (r.tmps i x v e1 e2).mono hcle, r.below, r.imle.trans hle, fun b o hb => ?_, fun b o x hx => ?_, by simp [r.ownlen], fun i g' k' es2 e1 e2 => ?_, r.tklen, r.tail, fun t T b e1 e2 => ?_, ?_, fun g' cs' h => (r.glob g' cs' h).mono hle, ⟨r.up.1, fun i x v e1 e2 => (r.up.2 i x v e1 e2).mono hcle⟩, r.hole⟩
    · show pubIm c.im w g (es'.length * k) b o = _
      rw [hgo b o (fun e => by have := ho.new; omega)]; exact r.imold b o hb
    · have hx : pubIm c.im w g (es'.length * k) b o = some x := hx
      unfold pubIm at hx
      split at hx
      · rename_i hb; subst hb
        split at hx
        · exact hx
        · simp at hx
      · exact r.imok b o x hx
    · have e2 : (st.own.set id none)[i]? = some (some es2) := e2
      rw [List.getElem?_set] at e2
      by_cases hi' : id = i
      · subst hi'; rw [if_pos rfl] at e2; split at e2 <;> simp at e2
      · rw [if_neg hi'] at e2
        have hne := r.apart.oo i id g' k' g k es2 es e1 h1 e2 h2 (Ne.symm hi')
        exact (r.own i g' k' es2 e1 e2).mono hcle (fun o => by show pubIm c.im w g (es'.length * k) g' o = none; rw [hgo g' o hne]; exact (r.own i g' k' es2 e1 e2).im o) rfl
    · have ht := r.tok t T b e1 e2
      have hne := r.apart.ot id t g k es T b h1 h2 e1 e2
      exact ⟨ht.new, ht.room, fun o ho' => by show pubIm c.im w g (es'.length * k) b o = none; rw [hgo b o (Ne.symm hne)]; exact ht.im o ho', ht.blk⟩
    · have conv : ∀ {i : Nat} {e : List AV}, (st.own.set id none)[i]? = some (some e) → st.own[i]? = some (some e) := by
        intro i e he
        rw [List.getElem?_set] at he
        by_cases hi' : id = i
        · subst hi'; rw [if_pos rfl] at he; split at he <;> simp at he
        · rw [if_neg hi'] at he; exact he
      exact ⟨fun i j g1 k1 g2 k2 e1 e2 a1 a2 a3 a4 hij => r.apart.oo i j g1 k1 g2 k2 e1 e2 a1 a2 (conv a3) (conv a4) hij, fun i t g1 k1 e1 T b a1 a2 a3 a4 => r.apart.ot i t g1 k1 e1 T b a1 (conv a2) a3 a4, r.apart.tt⟩
  · intro i e j y he hy
    have hlt : i * k + j < es'.length * k := idx_lt (lt_of_get he) (by rw [← hlv i e (hsub i e he)]; exact lt_of_get hy)
    show pubIm c.im w g (es'.length * k) g (i * k + j) = _
    unfold pubIm
    rw [if_pos rfl, if_pos hlt]
    obtain ⟨v, hv, _⟩ := hcell i e j y (hsub i e he) hy
    simp [World.cell?, hblk, hv, Array.getD_eq_getD_getElem?]
  · intro i e j y he hy
    obtain ⟨v, hv, _, h1⟩ := hcell i e j y (hsub i e he) hy
    simp only [Array.getD_eq_getD_getElem?, hv, Option.getD_some]
    rcases h1 with rfl | h1
    · have := hc e (List.mem_of_getElem? he) _ (List.mem_of_getElem? hy)
      simp [AV.clean1] at this
    · exact h1
  · intro i e j y he hy
    obtain ⟨v, hv, hvr, h1⟩ := hcell i e j y (hsub i e he) hy
    simp only [Array.getD_eq_getD_getElem?, hv, Option.getD_some]
    exact ((clean1_ok hvr (hc e (List.mem_of_getElem? he) y (List.mem_of_getElem? hy))).1).mono hle
end

section
variable {E : Env} {c : Code} {Q : Exit → St → Prop} {s : St}
theorem Rel.setTmp {w0 : World} {im0 : Base} {c : Ctx} {st : St} {a : Act} {w : World} (r : Rel w0 im0 c st a w) {i : Nat} {y : AV} (h : ∀ v, a.tmps[i]? = some v → VR c y v) : Rel w0 im0 c { st with tmps := st.tmps.set i y } a w := by
  refine ⟨r.defers, by simp [r.size], fun j x v h1 h2 => ?_, r.below, r.imle, r.imold, r.imok, r.ownlen, r.own, r.tklen, r.tail, r.tok, r.apart, r.glob, r.up, r.hole⟩
  have h1 : (st.tmps.set i y)[j]? = some x := h1
  rw [List.getElem?_set] at h1
  by_cases hj : i = j
  · subst hj
    rw [if_pos rfl] at h1
    split at h1
    · simp only [Option.some.injEq] at h1; subst h1; exact h v h2
    · simp at h1
  · rw [if_neg hj] at h1; exact r.tmps j x v h1 h2

/-- An own block is let go. -/
theorem Rel.dropOwn {w0 : World} {im0 : Base} {c : Ctx} {st : St} {a : Act} {w : World} (r : Rel w0 im0 c st a w) (id : Nat) : Rel w0 im0 c { st with own := st.own.set id none } a w := by
  have conv : ∀ {i : Nat} {e : List AV}, (st.own.set id none)[i]? = some (some e) → st.own[i]? = some (some e) := by
    intro i e he
    rw [List.getElem?_set] at he
    by_cases hi' : id = i
    · subst hi'; rw [if_pos rfl] at he; split at he <;> simp at he
    · rw [if_neg hi'] at he; exact he
  exact ⟨r.defers, r.size, r.tmps, r.below, r.imle, r.imold, r.imok, by simp [r.ownlen], fun i g k es h1 h2 => r.own i g k es h1 (conv h2), r.tklen, r.tail, r.tok,
    ⟨fun i j g1 k1 g2 k2 e1 e2 a1 a2 a3 a4 hij => r.apart.oo i j g1 k1 g2 k2 e1 e2 a1 a2 (conv a3) (conv a4) hij, fun i t g1 k1 e1 T b a1 a2 a3 a4 => r.apart.ot i t g1 k1 e1 T b a1 (conv a2) a3 a4, r.apart.tt⟩, r.glob, r.up, r.hole⟩

/-- A struct, an array that is written no more. -/
theorem AWP.publish (i id : Nat) (e : AV) (hi : s.tmps[i]? = some (.ptr id 0 0)) (ho : s.own[id]? = some (some [e])) (hc : ∀ x ∈ e.leaves, x.clean1 = some x)
    (hw : AWP E c Q { s with tmps := s.tmps.set i (.rptr e.leaves), own := s.own.set id none }) : AWP E c Q s := by
  intro w0 im0 cx a w h0 hG r
  have hlt : i < a.tmps.size := by rw [r.size]; exact lt_of_get hi
  obtain ⟨g, k, hb, hv⟩ := (r.tmps i _ _ hi (Array.getElem?_eq_getElem hlt)).inv_ptr
  obtain ⟨c', hle, hβ, _, _, r', cv, _, hm, h1, hvr⟩ := r.publish (n := 1) hb ho rfl (fun x hx => by simp at hx; subst hx; exact hc)
  refine hw w0 im0 c' a w h0 hG (r'.setTmp fun v hv' => ?_)
  rw [Array.getElem?_eq_getElem hlt, Option.some.injEq] at hv'
  rw [← hv', hv]
  have := VR0.rptr (im := c'.im) e.leaves g 0 (fun j => cv 0 j) (fun j x hj => by have := hm 0 e j x rfl hj; simpa using this) (fun j x hj => h1 0 e j x rfl hj) (fun j x hj => hvr 0 e j x rfl hj)
  simpa using VR.base this
/-- A row that is written no more. -/
theorem AWP.publishSl (i id k cap : Nat) (es : List AV) (hi : s.tmps[i]? = some (.mu id k 0 es.length cap)) (ho : s.own[id]? = some (some es)) (hc : ∀ e ∈ es, ∀ x ∈ e.leaves, x.clean1 = some x)
    (hw : AWP E c Q { s with tmps := s.tmps.set i (.sl none k es), own := s.own.set id none }) : AWP E c Q s := by
  intro w0 im0 cx a w h0 hG r
  have hlt : i < a.tmps.size := by rw [r.size]; exact lt_of_get hi
  rcases (r.tmps i _ _ hi (Array.getElem?_eq_getElem hlt)).inv_mu with ⟨g, hb, hcap, hv⟩ | ⟨hz, _, hv⟩
  · obtain ⟨c', hle, hβ, _, _, r', cv, hl, hm, h1, hvr⟩ := r.publish (n := es.length) hb ho (List.take_length).symm hc
    refine hw w0 im0 c' a w h0 hG (r'.setTmp fun v hv' => ?_)
    rw [Array.getElem?_eq_getElem hlt, Option.some.injEq] at hv'
    rw [← hv', hv]
    have := VR0.sl (im := c'.im) k es g (0 * k) cap cv hcap hl (fun i e j x he hj => by rw [Nat.zero_mul, Nat.zero_add]; exact hm i e j x he hj) h1 hvr
    exact .base this
  · have hes : es = [] := List.eq_nil_of_length_eq_zero hz
    subst hes
    have r' := r.setTmp (i := i) (y := .sl none k []) fun v hv' => by
      rw [Array.getElem?_eq_getElem hlt, Option.some.injEq] at hv'
      rw [← hv', hv]; exact .base (.sl0 k none 0)
    exact hw w0 im0 cx a w h0 hG (r'.dropOwn id)
end
end Go.Abs
end
section
/- The layer, the plain facts: several texts of one chain, put together (AbsY, AbsZ, Drv, Drv2, Drv3). -/
/- Who may append is forgotten; a row is taken back to be written; contracts at nil. -/
set_option linter.unusedVariables false
set_option linter.unusedSimpArgs false
namespace Go.Abs
open Go Go.RowKit
section
variable {E : Env} {c : Code} {Q : Exit → St → Prop} {s : St}
end
end Go.Abs
namespace Go.Abs
open Go Go.RowKit
section
variable {w0 : World} {im0 : Base} {c : Ctx} {st : St} {a : Act} {w : World}
end
end Go.Abs

/- Own blocks chosen and numbered anew; a leaf of an own struct told otherwise. -/
set_option linter.unusedVariables false
set_option linter.unusedSimpArgs false
namespace Go.Abs
open Go Go.RowKit

def AV.ren1 (σ : Nat → Option Nat) : AV → AV
  | .mu id k off n cap => match σ id with | some j => .mu j k off n cap | none => .any
  | .ptr id i o => match σ id with | some j => .ptr j i o | none => .any
  | .agg _ => .any
  | .tup _ => .any
  | .fn _ (_ :: _) => .any
  | x => x
def AV.ren2 (σ : Nat → Option Nat) : AV → AV
  | .agg cs => .agg (cs.map (AV.ren1 σ))
  | .fn f cs => .fn f (cs.map (AV.ren1 σ))
  | x => x.ren1 σ
def AV.ren (σ : Nat → Option Nat) : AV → AV
  | .tup cs => .tup (cs.map (AV.ren2 σ))
  | x => x.ren2 σ
def selAt (sel : List Nat) (id : Nat) : Option Nat := if id ∈ sel then some (sel.idxOf id) else none
theorem selAt_some {sel : List Nat} {id j : Nat} (h : selAt sel id = some j) : sel[j]? = some id := by
  unfold selAt at h
  split at h
  · rename_i hm
    simp only [Option.some.injEq] at h; subst h
    rw [List.getElem?_eq_getElem (List.idxOf_lt_length_of_mem hm)]
    simp
  · simp at h

def selβ (β : List (Option (Nat × Nat))) (sel : List Nat) : List (Option (Nat × Nat)) := sel.map fun id => (β[id]?).join
def selOwn (own : List (Option (List AV))) (sel : List Nat) : List (Option (List AV)) := sel.map fun id => ((own[id]?).join).map (·.map (AV.ren (selAt sel)))

section
variable {w0 : World} {im0 : Base} {c : Ctx} {st : St} {a : Act} {w : World} {sel : List Nat}

theorem selβ_at {β : List (Option (Nat × Nat))} {i : Nat} {p : Nat × Nat} (h : (selβ β sel)[i]? = some (some p)) : ∃ id, sel[i]? = some id ∧ β[id]? = some (some p) := by
  unfold selβ at h
  rw [List.getElem?_map] at h
  cases hs : sel[i]? with
  | none => simp [hs] at h
  | some id =>
    simp only [hs, Option.map_some, Option.some.injEq] at h
    refine ⟨id, rfl, ?_⟩
    cases hb : β[id]? with
    | none => simp [hb] at h
    | some q => simp only [hb, Option.join_some] at h; rw [h]
theorem selβ_of {β : List (Option (Nat × Nat))} {i id : Nat} {p : Nat × Nat} (h1 : sel[i]? = some id) (h2 : β[id]? = some (some p)) : (selβ β sel)[i]? = some (some p) := by
  unfold selβ
  rw [List.getElem?_map, h1]
  simp [h2]
theorem selOwn_at {own : List (Option (List AV))} {i : Nat} {es : List AV} (h : (selOwn own sel)[i]? = some (some es)) : ∃ id es0, sel[i]? = some id ∧ own[id]? = some (some es0) ∧ es = es0.map (AV.ren (selAt sel)) := by
  unfold selOwn at h
  rw [List.getElem?_map] at h
  cases hs : sel[i]? with
  | none => simp [hs] at h
  | some id =>
    simp only [hs, Option.map_some, Option.some.injEq] at h
    cases hb : own[id]? with
    | none => simp [hb] at h
    | some q =>
      cases q with
      | none => simp [hb] at h
      | some es0 =>
        simp only [hb, Option.join_some, Option.map_some, Option.some.injEq] at h
        exact ⟨id, es0, rfl, hb, h.symm⟩

abbrev selC (c : Ctx) (sel : List Nat) : Ctx := ⟨selβ c.β sel, c.tk, c.im⟩
theorem VR.ren1 {x : AV} {v : Value} (h : VR c x v) : VR (selC c sel) (x.ren1 (selAt sel)) v := by
  cases x with
  | any => exact .base (.any _)
  | v x => cases h.inv_v; exact .base (.v _)
  | agg cs => exact .base (.any _)
  | tup cs => exact .base (.any _)
  | nilS => cases h.inv_nilS; exact .base .nilS
  | sl t k es =>
    cases t with
    | none => exact .base h.sl_base
    | some t =>
      cases h with
      | base h => cases h
      | tok hT h0 hk hle hcur => exact .tok hT h0 hk hle hcur
  | mu id k off n cap =>
    simp only [AV.ren1]
    rcases h.inv_mu with ⟨g, hb, hcap, rfl⟩ | ⟨rfl, rfl, rfl⟩
    · cases hs : selAt sel id with
      | none => exact .base (.any _)
      | some j => exact .mu (selβ_of (selAt_some hs) hb) hcap
    · cases hs : selAt sel id with
      | none => exact .base (.any _)
      | some j => exact .muN
  | ptr id i o =>
    simp only [AV.ren1]
    obtain ⟨g, k, hb, rfl⟩ := h.inv_ptr
    cases hs : selAt sel id with
    | none => exact .base (.any _)
    | some j => exact .ptr (selβ_of (selAt_some hs) hb)
  | rptr cs => obtain ⟨b, o, rfl, h0⟩ := h.rptr_pt; exact .base h0
  | fn f cs =>
    cases cs with
    | nil =>
      obtain ⟨vs, rfl, hn, _⟩ := h.inv_fn
      have : vs = [] := List.eq_nil_of_length_eq_zero (by simpa using hn)
      subst this
      exact .base (.fn f [] [] rfl (by simp))
    | cons => exact .base (.any _)
theorem VR.renL {cs : List AV} {vs : List Value} {f : AV → AV} {d : Ctx} (hf : ∀ x v, VR c x v → VR d (f x) v) (hp : ∀ (i : Nat) (x : AV) (u : Value), cs[i]? = some x → vs[i]? = some u → VR c x u) : ∀ (i : Nat) (x : AV) (u : Value), (cs.map f)[i]? = some x → vs[i]? = some u → VR d x u := fun i x u h1 h2 => by
  rw [List.getElem?_map] at h1
  cases hc : cs[i]? with
  | none => simp [hc] at h1
  | some z => simp only [hc, Option.map_some, Option.some.injEq] at h1; subst h1; exact hf _ _ (hp i z u hc h2)
theorem VR.ren2 {x : AV} {v : Value} (h : VR c x v) : VR (selC c sel) (x.ren2 (selAt sel)) v := by
  cases x with
  | agg cs =>
    obtain ⟨vs, rfl, hn, hp⟩ := h.inv_agg
    exact .agg _ vs (by simp [hn]) (VR.renL (fun _ _ h => h.ren1) hp)
  | fn f cs =>
    obtain ⟨vs, rfl, hn, hp⟩ := h.inv_fn
    exact .fn f _ vs (by simp [hn]) (VR.renL (fun _ _ h => h.ren1) hp)
  | _ => exact h.ren1
theorem VR.ren {x : AV} {v : Value} (h : VR c x v) : VR (selC c sel) (x.ren (selAt sel)) v := by
  cases x with
  | tup cs =>
    obtain ⟨vs, rfl, hn, hp⟩ := h.inv_tup
    exact .tup _ vs (by simp [hn]) (VR.renL (fun _ _ h => h.ren2) hp)
  | _ => exact h.ren2

theorem ren_leaves (e : AV) (σ : Nat → Option Nat) : (e.ren σ).leaves.length = e.leaves.length ∧ ∀ (j : Nat) (y : AV), (e.ren σ).leaves[j]? = some y → ∃ x, e.leaves[j]? = some x ∧ (y = x.ren1 σ ∨ y = x.ren σ) := by
  cases e with
  | agg cs =>
    refine ⟨by simp [AV.ren, AV.ren2, AV.leaves], fun j y h => ?_⟩
    simp only [AV.ren, AV.ren2, AV.leaves, List.getElem?_map] at h
    cases hc : cs[j]? with
    | none => simp [hc] at h
    | some z => simp only [hc, Option.map_some, Option.some.injEq] at h; exact ⟨z, hc, .inl h.symm⟩
  | mu id k off n cap =>
    have hl : (AV.ren σ (.mu id k off n cap)).leaves = [AV.ren σ (.mu id k off n cap)] := by simp only [AV.ren, AV.ren2, AV.ren1]; cases σ id <;> rfl
    rw [hl]
    refine ⟨rfl, fun j y h => ?_⟩
    cases j with
    | zero => simp only [List.getElem?_cons_zero, Option.some.injEq] at h; exact ⟨_, rfl, .inr h.symm⟩
    | succ j => simp at h
  | ptr id i o =>
    have hl : (AV.ren σ (.ptr id i o)).leaves = [AV.ren σ (.ptr id i o)] := by simp only [AV.ren, AV.ren2, AV.ren1]; cases σ id <;> rfl
    rw [hl]
    refine ⟨rfl, fun j y h => ?_⟩
    cases j with
    | zero => simp only [List.getElem?_cons_zero, Option.some.injEq] at h; exact ⟨_, rfl, .inr h.symm⟩
    | succ j => simp at h
  | fn f cs =>
    refine ⟨rfl, fun j y h => ?_⟩
    cases j with
    | zero => simp only [AV.ren, AV.ren2, AV.leaves, List.getElem?_cons_zero, Option.some.injEq] at h; exact ⟨_, rfl, .inr h.symm⟩
    | succ j => simp [AV.ren, AV.ren2, AV.leaves] at h
  | _ =>
    refine ⟨rfl, fun j y h => ?_⟩
    cases j with
    | zero => simp only [AV.ren, AV.ren2, AV.ren1, AV.leaves, List.getElem?_cons_zero, Option.some.injEq] at h; exact ⟨_, rfl, .inr h.symm⟩
    | succ j => simp [AV.ren, AV.ren2, AV.ren1, AV.leaves] at h

theorem Rel.norm (r : Rel w0 im0 c st a w) (sel : List Nat) (hnd : sel.Nodup) (hrsv : st.rsv = none) (hup : st.up.map (AV.ren (selAt sel)) = st.up) :
    Rel w0 im0 (selC c sel) { st with tmps := st.tmps.map (AV.ren (selAt sel)), own := selOwn st.own sel } a w := by
  have inj : ∀ {i j id : Nat}, sel[i]? = some id → sel[j]? = some id → i = j := fun {i j id} h1 h2 => by
    have hi := lt_of_get h1
    have hj := lt_of_get h2
    rw [List.getElem?_eq_getElem hi, Option.some.injEq] at h1
    rw [List.getElem?_eq_getElem hj, Option.some.injEq] at h2
    have hp := List.pairwise_iff_getElem.1 hnd
    rcases Nat.lt_trichotomy i j with h | h | h
    · exact absurd (h1.trans h2.symm) (hp i j hi hj h)
    · exact h
    · exact absurd (h2.trans h1.symm) (hp j i hj hi h)
  refine ⟨r.defers, by simp [r.size], fun i x v h1 h2 => VR.renL (d := selC c sel) (vs := a.tmps.toList) (fun _ _ h => h.ren) (fun i x u e1 e2 => r.tmps i x u e1 (by simpa using e2)) i x v h1 (by simpa using h2), r.below, r.imle, r.imold, r.imok, by simp [selβ, selOwn], fun i g k es h1 h2 => ?_, r.tklen, r.tail, r.tok, ⟨fun i j g1 k1 g2 k2 e1 e2 a1 a2 a3 a4 hij => ?_, fun i t g1 k1 e1 T b a1 a2 a3 a4 => ?_, r.apart.tt⟩, r.glob, ⟨r.up.1, fun i x v h1 h2 => ?_⟩, fun l d i h1 => by rw [hrsv] at h1; simp at h1⟩
  · obtain ⟨id, hs, hb⟩ := selβ_at h1
    obtain ⟨id', es0, hs', ho, rfl⟩ := selOwn_at h2
    rw [hs, Option.some.injEq] at hs'; subst hs'
    obtain ⟨hnew, him, cs, ty, lo, hi, hblk, hfr, hsz, hlv, hcell⟩ := r.own id g k es0 hb ho
    refine ⟨hnew, him, cs, ty, lo, hi, hblk, hfr, by rw [List.length_map]; exact hsz, fun i e he => ?_, fun i e j y he hy => ?_⟩
    · rw [List.getElem?_map] at he
      cases hc : es0[i]? with
      | none => simp [hc] at he
      | some z => simp only [hc, Option.map_some, Option.some.injEq] at he; subst he; rw [(ren_leaves z _).1]; exact hlv i z hc
    · rw [List.getElem?_map] at he
      cases hc : es0[i]? with
      | none => simp [hc] at he
      | some z =>
        simp only [hc, Option.map_some, Option.some.injEq] at he; subst he
        obtain ⟨x, hx, hyx⟩ := (ren_leaves z _).2 j y hy
        obtain ⟨v, hv, hvr, h1⟩ := hcell i z j x hc hx
        refine ⟨v, hv, ?_, ?_⟩
        · rcases hyx with rfl | rfl
          · exact hvr.ren1
          · exact hvr.ren
        · rcases h1 with rfl | h1
          · rcases hyx with rfl | rfl <;> exact .inl rfl
          · exact .inr h1
  · obtain ⟨id, hs, hb⟩ := selβ_at a1
    obtain ⟨jd, hs2, hb2⟩ := selβ_at a2
    obtain ⟨id', es0, hs', ho, rfl⟩ := selOwn_at a3
    obtain ⟨jd', es2, hs2', ho2, rfl⟩ := selOwn_at a4
    rw [hs, Option.some.injEq] at hs'; subst hs'
    rw [hs2, Option.some.injEq] at hs2'; subst hs2'
    exact r.apart.oo id jd g1 k1 g2 k2 es0 es2 hb hb2 ho ho2 (fun e => hij (by subst e; exact inj hs hs2))
  · obtain ⟨id, hs, hb⟩ := selβ_at a1
    obtain ⟨id', es0, hs', ho, rfl⟩ := selOwn_at a2
    rw [hs, Option.some.injEq] at hs'; subst hs'
    exact r.apart.ot id t g1 k1 es0 T b hb ho a3 a4
  · have h3 : (st.up.map (AV.ren (selAt sel)))[i]? = some x := by rw [hup]; exact h1
    exact VR.renL (d := selC c sel) (fun _ _ h => h.ren) r.up.2 i x v h3 h2

end

section
variable {E : Env} {c : Code} {Q : Exit → St → Prop} {s : St} {ops : Array Oper} {l : List Oper}

/-- Own blocks chosen and numbered anew. -/
theorem AWP.norm (sel : List Nat) (hnd : sel.Nodup) (hrsv : s.rsv = none) (hup : s.up.map (AV.ren (selAt sel)) = s.up) (hw : AWP E c Q { s with tmps := s.tmps.map (AV.ren (selAt sel)), own := selOwn s.own sel }) : AWP E c Q s :=
  fun w0 im0 _ a w h0 hG r => hw w0 im0 _ a w h0 hG (r.norm sel hnd hrsv hup)
theorem AWPL.norm (sel : List Nat) (hnd : sel.Nodup) (hrsv : s.rsv = none) (hup : s.up.map (AV.ren (selAt sel)) = s.up) (hw : AWPL E ops l Q { s with tmps := s.tmps.map (AV.ren (selAt sel)), own := selOwn s.own sel }) : AWPL E ops l Q s :=
  fun w0 im0 _ a w h0 hG r => hw w0 im0 _ a w h0 hG (r.norm sel hnd hrsv hup)

end

end Go.Abs

/- A walk that steps by itself: what its steps want beyond the layer. -/
set_option linter.unusedVariables false
set_option linter.unusedSimpArgs false
namespace Go.Abs
open Go Go.RowKit

theorem AWP.fin {E : Env} {y : Code} {Q : Exit → St → Prop} {K : St → Prop} {s : St} (h : ∀ s, AWP E y Q s → K s) (g : AWP E y Q s) : K s := h s g
/-- The first region's number, its first slot, how many operations it has. -/
def codeSig : Nat → Code → Nat × Nat × Nat
  | _ + 1, .region i ops _ => (i, (match ops[0]? with | some o => o.dst.getD 0 | none => 0), ops.size)
  | n + 1, .seq a _ => codeSig n a
  | n + 1, .cond _ a _ => codeSig n a
  | n + 1, .block _ b => codeSig n b
  | n + 1, .loop b => codeSig n b
  | n + 1, .scope b => codeSig n b
  | _, _ => (0, 0, 0)
theorem AWP.loopN {E : Env} {Q : Exit → St → Prop} {st : St} {ι : Type} {c : Code} (hv : List Nat) (ps : ι → List (Nat × AV)) (I : ι → Prop) (μ : ι → Nat) (i : ι)
    (hw0 : st.Wk (st.at hv (ps i) st.own st.tk)) (hI : I i)
    (round : ∀ i, I i → AWP E c (AThen (fun s' => ∃ j, s'.Wk (st.at hv (ps j) st.own st.tk) ∧ I j ∧ μ j < μ i) Q) (st.at hv (ps i) st.own st.tk)) : AWP E (.loop c) Q st := AWP.loopH hv ps I μ i hw0 hI round
theorem AWP.loopM {E : Env} {Q : Exit → St → Prop} {st : St} {ι : Type} {c : Code} (hv : List Nat) (ps : ι → List (Nat × AV)) (own : ι → List (Option (List AV))) (tk : ι → List Nat) (I : ι → Prop) (μ : ι → Nat) (i : ι)
    (hw0 : st.Wk (st.at hv (ps i) (own i) (tk i))) (hI : I i)
    (round : ∀ i, I i → AWP E c (AThen (fun s' => ∃ j, s'.Wk (st.at hv (ps j) (own j) (tk j)) ∧ I j ∧ μ j < μ i) Q) (st.at hv (ps i) (own i) (tk i))) : AWP E (.loop c) Q st := AWP.loopO hv ps own tk I μ i hw0 hI round
/-- A mark: this place, and no other. -/
theorem AWP.here (n d k : Nat) {E : Env} {Q : Exit → St → Prop} {st : St} {c : Code} (hn : (codeSig 30 c == (n, d, k)) = true) (h : AWP E c Q st) : AWP E c Q st := h
theorem AInPost.ret {P : Program} {rs : List ResultVar} {st s : St} {K : St → AV → Prop} (hu : s.up = st.tmps ++ st.up) (h : ARes P s rs fun l => K { s with tmps := st.tmps, up := st.up } (tupOf l)) : AInPost P rs st K .ret s := ⟨hu, h⟩
/-- What a function tells is this. -/
theorem AEnd.is {P : Program} {rs : List ResultVar} {X : AV} {st : St} (h : ARes P st rs fun l => OutT [] (tupOf l) X) : AEnd P rs (fun r t => r = X ∧ t = []) st := by
  have key : ∀ (rs : List ResultVar) (k k' : List AV → Prop), (∀ l, k l → k' l) → ARes P st rs k → ARes P st rs k' := by
    intro rs
    induction rs with
    | nil => intro k k' hk h; exact hk _ h
    | cons r rs ih =>
      intro k k' hk h
      cases r with
      | tmp t => exact ih _ _ (fun l hl => hk _ hl) h
      | cell x t =>
        obtain ⟨cs, h1, h2⟩ := h
        refine ⟨cs, h1, ?_⟩
        split at h2
        · exact ⟨h2.1, ih _ _ (fun l hl => hk _ hl) h2.2⟩
        · obtain ⟨y, h3, h4⟩ := h2; exact ⟨y, h3, ih _ _ (fun l hl => hk _ hl) h4⟩
        · exact h2
  exact key rs _ _ (fun l hl => ⟨[], X, rfl, hl, rfl, rfl⟩) h
theorem out_v {x y : Value} {sel : List (Bool × Nat)} : OutV sel (.v x) (.v y) = (x = y) := rfl
theorem out_s {t : Option Nat} {k k' : Nat} {es es' : List AV} {sel : List (Bool × Nat)} : OutV sel (.sl t k es) (.sl none k' es') = (k = k' ∧ es = es') := by cases t <;> rfl
theorem out_n {k' : Nat} {es' : List AV} {sel : List (Bool × Nat)} : OutV sel .nilS (.sl none k' es') = (es' = []) := by cases es' <;> simp [OutV]
theorem v_int {k k' : IntKind} {n n' : Int} : (Value.int k n = Value.int k' n') = (k = k' ∧ n = n') := by simp
theorem v_bool {n n' : Bool} : (Value.bool n = Value.bool n') = (n = n') := by simp
theorem v_str {n n' : ByteArray} : (Value.string n = Value.string n') = (n = n') := by simp
end Go.Abs
namespace Go.Abs
open Go Go.RowKit
def ancOf : List Oper → List (List Nat) → List (List Nat)
  | [], acc => acc
  | o :: l, acc => ancOf l (acc ++ [(o.after.toList.filter (Region.binds .any)).flatMap fun e => e.on :: acc.getD e.on []])
/-- A region that draws its order, worked off in this one. -/
theorem AWP.regionO {E : Env} {st : St} {id : Nat} {l : List Oper} {Q : Exit → St → Prop} (is : List Nat) (ds : List Tmp) (hm : E.P.follows .mixedOrders = true)
    (hx : (let anc := ancOf l []; listedOK l.toArray anc && planOK E.P l.toArray anc true (Plan.ofList is) (Array.replicate l.toArray.size false) l.toArray.size && decide ds.Nodup) = true) {l' : List Oper} (hl : pickOps l is = some l') (h : AList E l.toArray l' (st.keep ds) (Done (Q .normal))) : AWP E (.region id l.toArray true) Q st := by
  simp only [Bool.and_eq_true, decide_eq_true_eq] at hx
  exact AWP.regionAs is (ancOf l []) ds hm (by simp only [Bool.and_eq_true]; exact hx.1) hx.2 hl h
end Go.Abs

/- A call whose contract speaks of the memory as it stands. -/
set_option linter.unusedVariables false
set_option linter.unusedSimpArgs false

namespace Go.Abs
open Go Go.RowKit
end Go.Abs
namespace Go.Abs
open Go Go.RowKit
/-- So many operations by rules; then the rest. -/
theorem AWPL.at (n k : Nat) {E : Env} {Q : Exit → St → Prop} {st : St} {ops : Array Oper} {l : List Oper} (hn : (l.length == n) = true) (h : AList E ops (l.take k) st (AWPL E ops (l.drop k) Q)) : AWPL E ops l Q st := by
  have := AWPL.app h
  rwa [List.take_append_drop] at this
end Go.Abs

/- Rows of one's own: begun at a nil slice; own blocks numbered anew, by rules. -/
set_option linter.unusedVariables false
set_option linter.unusedSimpArgs false
namespace Go.Abs
open Go Go.RowKit
theorem selAt_nil {n : Nat} : selAt [] n = none := by simp [selAt]
theorem selAt_cons {x n : Nat} {l : List Nat} : selAt (x :: l) n = if n = x then some 0 else (selAt l n).map (· + 1) := by
  unfold selAt
  by_cases h : n = x
  · subst h; simp
  · by_cases h2 : n ∈ l
    · have : ¬ x = n := fun e => h e.symm
      have hb : (x == n) = false := by simp [this]
      simp [h, h2, List.idxOf_cons, hb]
    · simp [h, h2]
theorem ren_row {α : Type} {f : α → AV} {σ : Nat → Option Nat} {l : List α} {k m : Nat} (h : ∀ x, AV.ren σ (f x) = f x) : (l.map f ++ spare k m).map (AV.ren σ) = l.map f ++ spare k m := by
  rw [List.map_append, List.map_map]
  congr 1
  · exact List.map_congr_left fun x _ => h x
  · simp [spare, AV.ren, AV.ren2, AV.ren1]
theorem ren_strs {σ : Nat → Option Nat} {l : List (List UInt8)} {m : Nat} : (l.map str ++ spare 1 m).map (AV.ren σ) = l.map str ++ spare 1 m := ren_row fun _ => rfl
attribute [go_sem] selAt_nil selAt_cons ren_strs Option.join_some Option.join_none
attribute [go_sem] AV.ren AV.ren1 AV.ren2
end Go.Abs
namespace Go.Abs
open Go Go.RowKit
theorem bel_row {α : Type} {no nt k m : Nat} {f : α → AV} {l : List α} (h : ∀ x, ∀ z ∈ (f x).leaves, z.bel no nt = true) : ∀ es, some (l.map f ++ spare k m) = some es → ∀ e ∈ es, ∀ z ∈ e.leaves, z.bel no nt = true := by
  intro es he e hm z hz
  cases he
  rcases List.mem_append.1 hm with hm | hm
  · obtain ⟨x, _, rfl⟩ := List.mem_map.1 hm
    exact h x z hz
  · have := (List.mem_replicate.1 hm).2
    subst this
    have := (List.mem_replicate.1 hz).2
    subst this; rfl
theorem bel_strs {no nt m : Nat} {l : List (List UInt8)} : ∀ es, some (l.map str ++ spare 1 m) = some es → ∀ e ∈ es, ∀ z ∈ e.leaves, z.bel no nt = true := bel_row fun x z hz => by
  simp only [AV.leaves, List.mem_cons, List.not_mem_nil, or_false] at hz
  subst hz; rfl
end Go.Abs
namespace Go.Abs
open Go Go.RowKit
theorem oblA {no nt : Nat} {r : List AV} (h : (r.all fun e => e.leaves.all (AV.bel no nt)) = true) : ∀ es, some r = some es → ∀ e ∈ es, ∀ z ∈ e.leaves, z.bel no nt = true := by
  intro es he e hm z hz
  cases he
  exact List.all_eq_true.1 (List.all_eq_true.1 h e hm) z hz
end Go.Abs
namespace Go.Abs
structure Stop (p : Prop) : Prop where
  out : p
theorem Stop.at {p : Prop} (h : Stop p) : p := h.out
theorem Stop.go {p : Prop} (h : p) : Stop p := ⟨h⟩
end Go.Abs
namespace Go.Abs
open Go Go.RowKit
theorem astep_mono {E : Env} {ops : Array Oper} {i : Nat} {C D : St → Prop} {st : St} (hcd : ∀ s, C s → D s) (h : AStep E ops i C st) : AStep E ops i D st := by
  unfold AStep at h ⊢
  split at h
  · exact hcd _ h
  · obtain ⟨q, h1, h2, h3⟩ := h
    exact ⟨q, h1, fun hq => aop_mono (h2 hq) hcd, fun hq => hcd _ (h3 hq)⟩
theorem aplan_mono {E : Env} {ops : Array Oper} {K L : St → Prop} (hk : ∀ s, K s → L s) : ∀ {p : Plan} {st : St}, APlan E ops K p st → APlan E ops L p st
  | .done, _, h => hk _ h
  | .take i p, _, h => astep_mono (fun s hs => aplan_mono hk hs) h
  | .fork p, _, h => aplan_mono (p := p) hk h
  | .alt i p r, _, h => ⟨astep_mono (fun s hs => aplan_mono hk hs) h.1, aplan_mono hk h.2⟩
  | .ends, _, h => h
/-- A region that draws its order, all orders of which come to one state. -/
theorem AWP.regionAnyJ {E : Env} {st : St} {id : Nat} {l : List Oper} {Q : Exit → St → Prop} (x : Plan) (anc : List (List Nat)) (ds : List Tmp) (hm : E.P.follows .mixedOrders = true)
    (hx : (listedOK l.toArray anc && planOK E.P l.toArray anc true x (Array.replicate l.toArray.size false) l.toArray.size) = true) (hd : ds.Nodup) (S : St) (h : APlan E l.toArray (Done fun s => s = S) x (st.keep ds)) (hk : Q .normal S) : AWP E (.region id l.toArray true) Q st :=
  AWP.regionAny x anc ds hm hx hd (aplan_mono (fun s (hs : Done (fun s => s = S) s) => (show Q .normal { s with rsv := none } from by
    have : ({ s with rsv := none } : St) = S := hs
    rw [this]; exact hk)) h)
end Go.Abs
end
section
/- Several texts of one chain, put together (Lf, Lg, Lj, Lk, Lh, Li). -/
/- A literal without elements, as a row of one's own. -/
set_option linter.unusedVariables false
set_option linter.unusedSimpArgs false
namespace Go.Abs
open Go Go.RowKit
end Go.Abs

/- Plans where what is appended goes to rows by content: what looks into memory may change places with an append. -/
set_option linter.unusedVariables false
set_option linter.unusedSimpArgs false
namespace Go.Abs
open Go Go.RowKit
def notMu : AV → Bool
  | .mu _ _ _ _ _ => false
  | _ => true
/-- What is appended to is no row of one's own. -/
def tokOp (st : St) : Option Oper → Prop
  | some o => match o.op with
    | .call cl => match cl.callee, cl.args.toList with
      | .builtin .append, x :: _ => notMu (st.ev x) = true
      | _, _ => True
    | _ => True
  | none => True
def AStepT (E : Env) (ops : Array Oper) (i : Nat) (C : St → Prop) (st : St) : Prop := tokOp st ops[i]? ∧ AStep E ops i C st
def APlanT (E : Env) (ops : Array Oper) (K : St → Prop) : Plan → St → Prop
  | .done, st => K st
  | .take i p, st => AStepT E ops i (APlanT E ops K p) st
  | .fork p, st => APlanT E ops K p st
  | .alt i p rest, st => AStepT E ops i (APlanT E ops K p) st ∧ APlanT E ops K rest st
  | .ends, _ => True
def AAnyT (E : Env) (ops : Array Oper) (K : St → Prop) : Nat → Array Bool → St → Prop
  | 0, L, st => Region.ready .any ops L = [] ∧ K st
  | n + 1, L, st => (Region.ready .any ops L = [] → K st) ∧ ∀ i ∈ Region.ready .any ops L, AStepT E ops i (AAnyT E ops K n (L.setIfInBounds i true)) st
section
variable {E : Env} {ops : Array Oper} {K : St → Prop} {anc : List (List Nat)}
theorem AStepT.mono {i : Nat} {C D : St → Prop} {st : St} (hk : AStepT E ops i C st) (h : ∀ s, C s → D s) : AStepT E ops i D st := ⟨hk.1, hk.2.mono h⟩
theorem AAnyT.drop : ∀ {n : Nat} {L : Array Bool} {st : St}, AAnyT E ops K n L st → AAny E ops K n L st
  | 0, _, _, h => h
  | _ + 1, _, _, h => ⟨h.1, fun i hi => (h.2 i hi).2.mono fun _ => AAnyT.drop⟩
@[go_sem] theorem apT_done {st : St} : APlanT E ops K .done st = K st := rfl
@[go_sem] theorem apT_take {st : St} {i : Nat} {p : Plan} : APlanT E ops K (.take i p) st = (tokOp st ops[i]? ∧ AList E ops (ops[i]?).toList st (APlanT E ops K p)) := by
  show (_ ∧ AStep E ops i (APlanT E ops K p) st) = _
  rw [astep_list]
@[go_sem] theorem apT_fork {st : St} {p : Plan} : APlanT E ops K (.fork p) st = APlanT E ops K p st := rfl
@[go_sem] theorem apT_alt {st : St} {i : Nat} {p r : Plan} : APlanT E ops K (.alt i p r) st = ((tokOp st ops[i]? ∧ AList E ops (ops[i]?).toList st (APlanT E ops K p)) ∧ APlanT E ops K r st) := by
  show ((_ ∧ AStep E ops i (APlanT E ops K p) st) ∧ _) = _
  rw [astep_list]
@[go_sem] theorem apT_ends {st : St} : APlanT E ops K .ends st = True := rfl
end
attribute [go_sem] tokOp notMu
end Go.Abs

/- Plans where some literals without elements, and what is appended to them, are rows of one's own. -/
set_option linter.unusedVariables false
set_option linter.unusedSimpArgs false
namespace Go.Abs
open Go Go.RowKit
/-- A literal without elements, an append to it, as a row of one's own. -/
def MuStep (E : Env) (o : Oper) (C : St → Prop) (st : St) : Prop := o.guard = none ∧
  ((∃ t e k n, o.op = .buildSlice t 0 #[] ∧ appInfo E.P t = some (e, k, n) ∧ C (St.put { st with own := st.own ++ [some []] } o.dst (.mu st.own.length k 0 0 0))) ∨
   ∃ t tx x y e k n id xs, o.op = .call ⟨.builtin .append, #[x, y], #[t, tx]⟩ ∧ srcTy E.P tx = true ∧ appInfo E.P t = some (e, k, n) ∧ st.ev x = .mu id k 0 0 0 ∧ ASrc (st.ev y) k = some xs ∧ st.own[id]? = some (some []) ∧ xs.length ≤ 4611686018427387904 ∧ xs.length * n ≤ 140737488355328 ∧
     ∀ m, C (St.put { st with own := st.own.set id none ++ [some (xs ++ spare k m)] } o.dst (.mu st.own.length k 0 xs.length (xs.length + m))))
def AStepM (E : Env) (ops : Array Oper) (ms : List Nat) (i : Nat) (C : St → Prop) (st : St) : Prop := if ms.contains i = true then ∃ o, ops[i]? = some o ∧ MuStep E o C st else tokOp st ops[i]? ∧ AStep E ops i C st
def APlanM (E : Env) (ops : Array Oper) (ms : List Nat) (K : St → Prop) : Plan → St → Prop
  | .done, st => K st
  | .take i p, st => AStepM E ops ms i (APlanM E ops ms K p) st
  | .fork p, st => APlanM E ops ms K p st
  | .alt i p rest, st => AStepM E ops ms i (APlanM E ops ms K p) st ∧ APlanM E ops ms K rest st
  | .ends, _ => True
section
variable {E : Env} {ops : Array Oper} {ms : List Nat} {K : St → Prop} {anc : List (List Nat)}
theorem MuStep.mono {o : Oper} {C D : St → Prop} {st : St} (h : MuStep E o C st) (hk : ∀ s, C s → D s) : MuStep E o D st := by
  obtain ⟨hg, ⟨t, e, k, n, ho, ha, hc⟩ | ⟨t, tx, x, y, e, k, n, id, xs, ho, h1, h2, h3, h4, h5, h6, h7, hc⟩⟩ := h
  · exact ⟨hg, .inl ⟨t, e, k, n, ho, ha, hk _ hc⟩⟩
  · exact ⟨hg, .inr ⟨t, tx, x, y, e, k, n, id, xs, ho, h1, h2, h3, h4, h5, h6, h7, fun m => hk _ (hc m)⟩⟩
theorem AStepM.mono {i : Nat} {C D : St → Prop} {st : St} (hk : AStepM E ops ms i C st) (h : ∀ s, C s → D s) : AStepM E ops ms i D st := by
  unfold AStepM at *
  split
  · rename_i hi; rw [if_pos hi] at hk; obtain ⟨o, h1, h2⟩ := hk; exact ⟨o, h1, h2.mono h⟩
  · rename_i hi; rw [if_neg hi] at hk; exact ⟨hk.1, hk.2.mono h⟩
@[go_sem] theorem apM_done {st : St} : APlanM E ops ms K .done st = K st := rfl
def AMuO (E : Env) (o : Option Oper) (C : St → Prop) (st : St) : Prop := match o with
  | some o => MuStep E o C st
  | none => False
theorem astepM_eq {i : Nat} {C : St → Prop} {st : St} : AStepM E ops ms i C st = if ms.contains i = true then AMuO E (ops[i]?) C st else (tokOp st ops[i]? ∧ AList E ops (ops[i]?).toList st C) := by
  unfold AStepM
  split
  · cases ops[i]? with
    | none => simp [AMuO]
    | some o => simp [AMuO]
  · rw [astep_list]
@[go_sem] theorem apM_take {st : St} {i : Nat} {p : Plan} : APlanM E ops ms K (.take i p) st = if ms.contains i = true then AMuO E (ops[i]?) (APlanM E ops ms K p) st else (tokOp st ops[i]? ∧ AList E ops (ops[i]?).toList st (APlanM E ops ms K p)) := astepM_eq
@[go_sem] theorem apM_fork {st : St} {p : Plan} : APlanM E ops ms K (.fork p) st = APlanM E ops ms K p st := rfl
@[go_sem] theorem apM_alt {st : St} {i : Nat} {p r : Plan} : APlanM E ops ms K (.alt i p r) st = ((if ms.contains i = true then AMuO E (ops[i]?) (APlanM E ops ms K p) st else (tokOp st ops[i]? ∧ AList E ops (ops[i]?).toList st (APlanM E ops ms K p))) ∧ APlanM E ops ms K r st) := by
  show (AStepM E ops ms i (APlanM E ops ms K p) st ∧ _) = _
  rw [astepM_eq]
@[go_sem] theorem apM_ends {st : St} : APlanM E ops ms K .ends st = True := rfl
def AMuTo (x : AV) (k n : Nat) (src : Option (List AV)) (st : St) (C : St → AV → Prop) : Prop := match x with
  | .mu id q off len cap => q = k ∧ off = 0 ∧ len = 0 ∧ cap = 0 ∧ AGet src fun xs => xs.length ≤ 4611686018427387904 ∧ xs.length * n ≤ 140737488355328 ∧ AGet2 st.own[id]? fun l => l = [] ∧
      ∀ m, C { st with own := st.own.set id none ++ [some (xs ++ spare k m)] } (.mu st.own.length k 0 xs.length (xs.length + m))
  | _ => False
@[go_sem] theorem mu_slice {d : Option Tmp} {t ty : TypeId} {pos : String} {after : Array Edge} {C : St → Prop} {st : St} : AMuO E (some ⟨d, .buildSlice t 0 #[], ty, pos, after, none⟩) C st = AGet (appInfo E.P t) fun q => C (St.put { st with own := st.own ++ [some []] } d (.mu st.own.length q.2.1 0 0 0)) := by
  refine propext ⟨?_, ?_⟩
  · rintro ⟨_, ⟨t', e, k, n, ho, ha, hc⟩ | ⟨_, _, _, _, _, _, _, _, _, ho, _⟩⟩
    · cases ho; exact ⟨_, ha, hc⟩
    · cases ho
  · rintro ⟨⟨e, k, n⟩, ha, hc⟩
    exact ⟨rfl, .inl ⟨t, e, k, n, rfl, ha, hc⟩⟩
@[go_sem] theorem mu_app {d : Option Tmp} {t tx ty : TypeId} {x y : Operand} {pos : String} {after : Array Edge} {C : St → Prop} {st : St} : AMuO E (some ⟨d, .call ⟨.builtin .append, #[x, y], #[t, tx]⟩, ty, pos, after, none⟩) C st =
    (srcTy E.P tx = true ∧ AGet (appInfo E.P t) fun q => AMuTo (st.ev x) q.2.1 q.2.2 (ASrc (st.ev y) q.2.1) st fun st' z => C (st'.put d z)) := by
  refine propext ⟨?_, ?_⟩
  · rintro ⟨_, ⟨_, _, _, _, ho, _⟩ | ⟨t', tx', x', y', e, k, n, id, xs, ho, h1, h2, h3, h4, h5, h6, h7, hc⟩⟩
    · cases ho
    · cases ho
      refine ⟨h1, _, h2, ?_⟩
      rw [h3]
      exact ⟨rfl, rfl, rfl, rfl, _, h4, h6, h7, _, h5, rfl, hc⟩
  · rintro ⟨h1, ⟨e, k, n⟩, h2, h3⟩
    unfold AMuTo at h3
    split at h3
    · rename_i id q off len cap hx
      obtain ⟨rfl, rfl, rfl, rfl, xs, h4, h6, h7, l, h5, rfl, hc⟩ := h3
      exact ⟨rfl, .inr ⟨t, tx, x, y, e, _, n, id, xs, rfl, h1, h2, hx, h4, h5, h6, h7, hc⟩⟩
    · exact h3.elim
end
attribute [go_sem] AMuTo
end Go.Abs

/- A state told behind a piece of code: the rest is walked once, whatever the piece forks into. -/
set_option linter.unusedVariables false
set_option linter.unusedSimpArgs false
namespace Go.Abs
open Go Go.RowKit
structure Cut (p : Prop) : Prop where
  out : p
theorem AWP.cutAt {E : Env} {Q : Exit → St → Prop} {K : St → Prop} {st : St} {x y : Code} {ι : Type} (hv : List Nat) (ps : ι → List (Nat × AV)) (own : ι → List (Option (List AV))) (tk : ι → List Nat) (hK : ∀ s, AWP E y Q s → K s)
    (rest : ∀ i, Cut (AWP E y Q (st.at hv (ps i) (own i) (tk i)))) (h : (∀ i, AWP E y Q (st.at hv (ps i) (own i) (tk i))) → AWP E x (AThen K Q) st) : AWP E x (AThen K Q) st := h fun i => (rest i).out
theorem AWP.cutTo {E : Env} {y : Code} {Q : Exit → St → Prop} {ι : Type} {S : ι → St} (hc : ∀ i, AWP E y Q (S i)) {s : St} (h : AWP E y Q s) : AWP E y Q s := h
end Go.Abs

/- A call of a function that the machine does itself. -/
set_option linter.unusedVariables false
set_option linter.unusedSimpArgs false
namespace Go.Abs
open Go Go.RowKit
end Go.Abs

/- Clearing the end of a row of one's own. -/
set_option linter.unusedVariables false
set_option linter.unusedSimpArgs false
namespace Go.Abs
open Go Go.RowKit
/-- The end of a row of one's own. -/
theorem AWPL.sliceMu {E : Env} {Q : Exit → St → Prop} {st : St} {ops : Array Oper} {rest : List Oper} {dst : Option Tmp} {t ty : TypeId} {x lo : Operand} {pos : String} {after : Array Edge} {e : TypeId} {k id off len cap l : Nat}
    (hu : E.P.underlying t = some (.slice e)) (hsz : tsz E.P e = some k) (hs : st.ev x = .mu id k off len cap) (hl : st.ev lo = i64 (l : Int)) (h1 : l ≤ len) (h2 : l < cap) (h0 : 0 < len)
    (h : AWPL E ops rest Q (st.put dst (.mu id k (off + l) (len - l) (cap - l)))) : AWPL E ops (⟨dst, .slice t x (some lo) none none, ty, pos, after, none⟩ :: rest) Q st := by
  intro w0 im0 cx a w h0' hG r
  refine wpList_step (fun K' hK' => ?_)
  have hw : Region.wanted ⟨dst, .slice t x (some lo) none none, ty, pos, after, none⟩ (yielded ops a.tmps) = true := rfl
  rw [if_pos hw]
  have hv := r.ev x
  rw [hs] at hv
  have hlv := r.ev lo
  rw [hl] at hlv
  have hlo := hlv.inv_v
  rcases hv.inv_mu with ⟨g, hb, hcap, hve⟩ | ⟨hz, _, _⟩
  rotate_left
  · omega
  have hbr := bounds_run (P := E.P) (w := w) (c := cx) (isS := true) (len := len) (cap := cap) (lo := some (i64 (l : Int))) (hi := none) (vl := some (a.eval lo)) (vh := none) (l := (l : Int)) (h := (len : Int))
    (fun y hy => by cases hy; exact ⟨_, rfl, hlv⟩) (fun hy => by cases hy) (fun y hy => by cases hy) (fun _ => rfl) rfl rfl (by omega) (by omega) (by omega) hcap
  have hrun : (Instr.sliceAt t (a.eval x) (some (a.eval lo)) none none).run E.P w = .ok (.slice (some ⟨g, (off + l) * k, none⟩) (len - l) (cap - l)) w := by
    rw [hve]
    simp only [Instr.sliceAt, Sem.run_bind, underlying_run hu, Result.andThen_ok, Instr.slice, hbr, tsz_run hsz, Sem.run_pure]
    have hne : ¬ cap = l := by omega
    simp [hne, Addr.add, Nat.add_mul]
  refine wp_value (w' := w) (v := .slice (some ⟨g, (off + l) * k, none⟩) (len - l) (cap - l)) ?_ (hK' _ _ (h w0 im0 _ _ _ h0' hG (r.put dst (.mu hb (by omega)))))
  simp only [execOp, Option.map_some, Option.map_none, Sem.run_bind, hrun, Result.andThen_ok, Sem.run_pure]
end Go.Abs
end
section
/- A contract that tells a new row with its token, without it. -/
set_option linter.unusedVariables false
set_option linter.unusedSimpArgs false
namespace Go.Abs
open Go Go.RowKit
theorem inb_ret {id : Nat} {Q : Exit → St → Prop} {s : St} : AInBlock id Q .ret s = Q .ret s := rfl
theorem athen_ret {n : St → Prop} {Q : Exit → St → Prop} {s : St} : AThen n Q .ret s = Q .ret s := rfl
end Go.Abs
end
section
/- Closed facts on the types and functions that the code names, for the abstract layer; made by program. -/
namespace Go.Proofs.YtfchlkeekmabfaaGreatDoor
open Go Go.Abs

theorem ld2 : loadInfo Tryz.prog 2 = some (false, 1) := by kernel_rfl
theorem ld3 : loadInfo Tryz.prog 3 = some (false, 1) := by kernel_rfl
theorem ld4 : loadInfo Tryz.prog 4 = some (false, 1) := by kernel_rfl
theorem ld9 : loadInfo Tryz.prog 9 = some (false, 1) := by kernel_rfl
theorem ld23 : loadInfo Tryz.prog 23 = some (true, 8) := by kernel_rfl
theorem ld25 : loadInfo Tryz.prog 25 = some (true, 10) := by kernel_rfl
theorem ld27 : loadInfo Tryz.prog 27 = some (true, 6) := by kernel_rfl
theorem ld29 : loadInfo Tryz.prog 29 = some (true, 29) := by kernel_rfl
theorem ld33 : loadInfo Tryz.prog 33 = some (false, 1) := by kernel_rfl
theorem ld43 : loadInfo Tryz.prog 43 = some (false, 1) := by kernel_rfl
theorem ld54 : loadInfo Tryz.prog 54 = some (true, 18) := by kernel_rfl
theorem ld59 : loadInfo Tryz.prog 59 = some (false, 1) := by kernel_rfl
theorem ld63 : loadInfo Tryz.prog 63 = some (true, 9) := by kernel_rfl
theorem ld104 : loadInfo Tryz.prog 104 = some (true, 2) := by kernel_rfl
theorem ld131 : loadInfo Tryz.prog 131 = some (false, 1) := by kernel_rfl
theorem fi23_0 : fieldInfo Tryz.prog 23 0 = some (0, 9, 1) := by kernel_rfl
theorem fi23_1 : fieldInfo Tryz.prog 23 1 = some (1, 9, 1) := by kernel_rfl
theorem fi23_2 : fieldInfo Tryz.prog 23 2 = some (2, 9, 1) := by kernel_rfl
theorem fi23_3 : fieldInfo Tryz.prog 23 3 = some (3, 4, 1) := by kernel_rfl
theorem fi23_4 : fieldInfo Tryz.prog 23 4 = some (4, 2, 1) := by kernel_rfl
theorem fi23_5 : fieldInfo Tryz.prog 23 5 = some (5, 2, 1) := by kernel_rfl
theorem fi25_0 : fieldInfo Tryz.prog 25 0 = some (0, 9, 1) := by kernel_rfl
theorem fi25_1 : fieldInfo Tryz.prog 25 1 = some (1, 9, 1) := by kernel_rfl
theorem fi25_2 : fieldInfo Tryz.prog 25 2 = some (2, 9, 1) := by kernel_rfl
theorem fi25_3 : fieldInfo Tryz.prog 25 3 = some (3, 9, 1) := by kernel_rfl
theorem fi25_4 : fieldInfo Tryz.prog 25 4 = some (4, 9, 1) := by kernel_rfl
theorem fi25_5 : fieldInfo Tryz.prog 25 5 = some (5, 3, 1) := by kernel_rfl
theorem fi25_6 : fieldInfo Tryz.prog 25 6 = some (6, 4, 1) := by kernel_rfl
theorem fi25_7 : fieldInfo Tryz.prog 25 7 = some (7, 2, 1) := by kernel_rfl
theorem fi25_8 : fieldInfo Tryz.prog 25 8 = some (8, 2, 1) := by kernel_rfl
theorem fi25_9 : fieldInfo Tryz.prog 25 9 = some (9, 2, 1) := by kernel_rfl
theorem fi27_0 : fieldInfo Tryz.prog 27 0 = some (0, 9, 1) := by kernel_rfl
theorem fi27_1 : fieldInfo Tryz.prog 27 1 = some (1, 9, 1) := by kernel_rfl
theorem fi27_2 : fieldInfo Tryz.prog 27 2 = some (2, 2, 1) := by kernel_rfl
theorem fi27_3 : fieldInfo Tryz.prog 27 3 = some (3, 2, 1) := by kernel_rfl
theorem fi27_4 : fieldInfo Tryz.prog 27 4 = some (4, 2, 1) := by kernel_rfl
theorem fi27_5 : fieldInfo Tryz.prog 27 5 = some (5, 2, 1) := by kernel_rfl
theorem fi29_0 : fieldInfo Tryz.prog 29 0 = some (0, 3, 1) := by kernel_rfl
theorem fi29_1 : fieldInfo Tryz.prog 29 1 = some (1, 3, 1) := by kernel_rfl
theorem fi29_2 : fieldInfo Tryz.prog 29 2 = some (2, 23, 8) := by kernel_rfl
theorem fi29_3 : fieldInfo Tryz.prog 29 3 = some (10, 9, 1) := by kernel_rfl
theorem fi29_4 : fieldInfo Tryz.prog 29 4 = some (11, 25, 10) := by kernel_rfl
theorem fi29_5 : fieldInfo Tryz.prog 29 5 = some (21, 2, 1) := by kernel_rfl
theorem fi29_6 : fieldInfo Tryz.prog 29 6 = some (22, 4, 1) := by kernel_rfl
theorem fi29_7 : fieldInfo Tryz.prog 29 7 = some (23, 27, 6) := by kernel_rfl
theorem fi54_0 : fieldInfo Tryz.prog 54 0 = some (0, 3, 1) := by kernel_rfl
theorem fi54_1 : fieldInfo Tryz.prog 54 1 = some (1, 2, 1) := by kernel_rfl
theorem fi54_2 : fieldInfo Tryz.prog 54 2 = some (2, 2, 1) := by kernel_rfl
theorem fi54_3 : fieldInfo Tryz.prog 54 3 = some (3, 4, 1) := by kernel_rfl
theorem fi54_4 : fieldInfo Tryz.prog 54 4 = some (4, 2, 1) := by kernel_rfl
theorem fi54_5 : fieldInfo Tryz.prog 54 5 = some (5, 2, 1) := by kernel_rfl
theorem fi54_6 : fieldInfo Tryz.prog 54 6 = some (6, 4, 1) := by kernel_rfl
theorem fi54_7 : fieldInfo Tryz.prog 54 7 = some (7, 9, 1) := by kernel_rfl
theorem fi54_8 : fieldInfo Tryz.prog 54 8 = some (8, 25, 10) := by kernel_rfl
theorem fi71_0 : fieldInfo Tryz.prog 71 0 = some (0, 59, 1) := by kernel_rfl
theorem fi71_1 : fieldInfo Tryz.prog 71 1 = some (1, 3, 1) := by kernel_rfl
theorem fi71_2 : fieldInfo Tryz.prog 71 2 = some (2, 4, 1) := by kernel_rfl
theorem fi104_0 : fieldInfo Tryz.prog 104 0 = some (0, 3, 1) := by kernel_rfl
theorem fi104_1 : fieldInfo Tryz.prog 104 1 = some (1, 9, 1) := by kernel_rfl
theorem ix43 : idxInfo Tryz.prog 43 = some (none, 29, 29) := by kernel_rfl
theorem ix59 : idxInfo Tryz.prog 59 = some (none, 9, 1) := by kernel_rfl
theorem ix63 : idxInfo Tryz.prog 63 = some (some 9, 9, 1) := by kernel_rfl
theorem ix80 : idxInfo Tryz.prog 80 = some (none, 104, 2) := by kernel_rfl
theorem ix96 : idxInfo Tryz.prog 96 = some (some 8, 9, 1) := by kernel_rfl
theorem ix119 : idxInfo Tryz.prog 119 = some (none, 2, 1) := by kernel_rfl
theorem ap43 : appInfo Tryz.prog 43 = some (29, 29, 320) := by kernel_rfl
theorem ap55 : appInfo Tryz.prog 55 = some (5, 1, 1) := by kernel_rfl
theorem ap59 : appInfo Tryz.prog 59 = some (9, 1, 16) := by kernel_rfl
theorem ap80 : appInfo Tryz.prog 80 = some (104, 2, 24) := by kernel_rfl
theorem ap119 : appInfo Tryz.prog 119 = some (2, 1, 8) := by kernel_rfl
theorem ap131 : appInfo Tryz.prog 131 = some (104, 2, 24) := by kernel_rfl
theorem sz2 : tsz Tryz.prog 2 = some 1 := by kernel_rfl
theorem sz3 : tsz Tryz.prog 3 = some 1 := by kernel_rfl
theorem sz4 : tsz Tryz.prog 4 = some 1 := by kernel_rfl
theorem sz5 : tsz Tryz.prog 5 = some 1 := by kernel_rfl
theorem sz9 : tsz Tryz.prog 9 = some 1 := by kernel_rfl
theorem sz23 : tsz Tryz.prog 23 = some 8 := by kernel_rfl
theorem sz25 : tsz Tryz.prog 25 = some 10 := by kernel_rfl
theorem sz27 : tsz Tryz.prog 27 = some 6 := by kernel_rfl
theorem sz29 : tsz Tryz.prog 29 = some 29 := by kernel_rfl
theorem sz33 : tsz Tryz.prog 33 = some 1 := by kernel_rfl
theorem sz43 : tsz Tryz.prog 43 = some 1 := by kernel_rfl
theorem sz54 : tsz Tryz.prog 54 = some 18 := by kernel_rfl
theorem sz71 : tsz Tryz.prog 71 = some 3 := by kernel_rfl
theorem sz96 : tsz Tryz.prog 96 = some 8 := by kernel_rfl
theorem sz104 : tsz Tryz.prog 104 = some 2 := by kernel_rfl
theorem sz131 : tsz Tryz.prog 131 = some 1 := by kernel_rfl
theorem sr9 : srcTy Tryz.prog 9 = true := by kernel_rfl
theorem sr43 : srcTy Tryz.prog 43 = true := by kernel_rfl
theorem sr55 : srcTy Tryz.prog 55 = true := by kernel_rfl
theorem sr59 : srcTy Tryz.prog 59 = true := by kernel_rfl
theorem sr131 : srcTy Tryz.prog 131 = true := by kernel_rfl
theorem fk29 : flatKinds Tryz.prog 29 = some [0, 0, 1, 1, 1, 2, 0, 0, 0, 2, 1, 1, 1, 1, 1, 1, 0, 2, 0, 0, 0, 0, 2, 1, 1, 0, 0, 0, 0] := by kernel_rfl
theorem fk54 : flatKinds Tryz.prog 54 = some [0, 0, 0, 2, 0, 0, 2, 1, 1, 1, 1, 1, 1, 0, 2, 0, 0, 0] := by kernel_rfl
theorem cl6 : callable Tryz.prog 6 = true := by kernel_rfl
theorem cl7 : callable Tryz.prog 7 = true := by kernel_rfl
theorem cl8 : callable Tryz.prog 8 = true := by kernel_rfl
theorem cl9 : callable Tryz.prog 9 = true := by kernel_rfl
theorem cl10 : callable Tryz.prog 10 = true := by kernel_rfl
theorem cl11 : callable Tryz.prog 11 = true := by kernel_rfl
theorem cl12 : callable Tryz.prog 12 = true := by kernel_rfl
theorem cl13 : callable Tryz.prog 13 = true := by kernel_rfl
theorem cl14 : callable Tryz.prog 14 = true := by kernel_rfl
theorem cl15 : callable Tryz.prog 15 = true := by kernel_rfl
theorem cl16 : callable Tryz.prog 16 = true := by kernel_rfl
theorem cl17 : callable Tryz.prog 17 = true := by kernel_rfl
theorem cl18 : callable Tryz.prog 18 = true := by kernel_rfl
theorem cl19 : callable Tryz.prog 19 = true := by kernel_rfl
theorem cl20 : callable Tryz.prog 20 = true := by kernel_rfl
theorem cl21 : callable Tryz.prog 21 = true := by kernel_rfl
theorem cl22 : callable Tryz.prog 22 = true := by kernel_rfl
theorem cl23 : callable Tryz.prog 23 = true := by kernel_rfl
theorem cl24 : callable Tryz.prog 24 = true := by kernel_rfl
theorem cl25 : callable Tryz.prog 25 = true := by kernel_rfl
theorem cl26 : callable Tryz.prog 26 = true := by kernel_rfl
theorem cl27 : callable Tryz.prog 27 = true := by kernel_rfl
theorem cl28 : callable Tryz.prog 28 = true := by kernel_rfl
theorem cl29 : callable Tryz.prog 29 = true := by kernel_rfl
theorem cl30 : callable Tryz.prog 30 = true := by kernel_rfl
theorem cl31 : callable Tryz.prog 31 = true := by kernel_rfl
theorem cl32 : callable Tryz.prog 32 = true := by kernel_rfl
theorem cl33 : callable Tryz.prog 33 = true := by kernel_rfl
theorem cl34 : callable Tryz.prog 34 = true := by kernel_rfl
theorem cl35 : callable Tryz.prog 35 = true := by kernel_rfl
theorem cl36 : callable Tryz.prog 36 = true := by kernel_rfl
theorem cl37 : callable Tryz.prog 37 = true := by kernel_rfl
theorem cl41 : callable Tryz.prog 41 = true := by kernel_rfl
theorem cl42 : callable Tryz.prog 42 = true := by kernel_rfl
theorem cl44 : callable Tryz.prog 44 = true := by kernel_rfl
theorem cl45 : callable Tryz.prog 45 = true := by kernel_rfl
theorem cl46 : callable Tryz.prog 46 = true := by kernel_rfl
theorem cl47 : callable Tryz.prog 47 = true := by kernel_rfl
theorem cl48 : callable Tryz.prog 48 = true := by kernel_rfl
theorem cl49 : callable Tryz.prog 49 = true := by kernel_rfl
theorem cl50 : callable Tryz.prog 50 = true := by kernel_rfl
theorem cl52 : callable Tryz.prog 52 = true := by kernel_rfl
theorem cl53 : callable Tryz.prog 53 = true := by kernel_rfl
theorem cl54 : callable Tryz.prog 54 = true := by kernel_rfl
theorem cl55 : callable Tryz.prog 55 = true := by kernel_rfl
theorem cl56 : callable Tryz.prog 56 = true := by kernel_rfl
theorem cl57 : callable Tryz.prog 57 = true := by kernel_rfl
theorem cl58 : callable Tryz.prog 58 = true := by kernel_rfl
theorem cl59 : callable Tryz.prog 59 = true := by kernel_rfl
theorem cl60 : callable Tryz.prog 60 = true := by kernel_rfl
theorem cl63 : callable Tryz.prog 63 = true := by kernel_rfl
theorem cl64 : callable Tryz.prog 64 = true := by kernel_rfl
theorem cl68 : callable Tryz.prog 68 = true := by kernel_rfl
theorem cl69 : callable Tryz.prog 69 = true := by kernel_rfl
theorem cl70 : callable Tryz.prog 70 = true := by kernel_rfl
theorem cl71 : callable Tryz.prog 71 = true := by kernel_rfl
theorem cl74 : callable Tryz.prog 74 = true := by kernel_rfl
theorem cl75 : callable Tryz.prog 75 = true := by kernel_rfl
theorem cl76 : callable Tryz.prog 76 = true := by kernel_rfl
theorem cl77 : callable Tryz.prog 77 = true := by kernel_rfl
theorem cl78 : callable Tryz.prog 78 = true := by kernel_rfl
theorem cl79 : callable Tryz.prog 79 = true := by kernel_rfl
theorem cl86 : callable Tryz.prog 86 = true := by kernel_rfl
theorem cl87 : callable Tryz.prog 87 = true := by kernel_rfl
theorem cl90 : callable Tryz.prog 90 = true := by kernel_rfl
theorem cl91 : callable Tryz.prog 91 = true := by kernel_rfl
theorem cl92 : callable Tryz.prog 92 = true := by kernel_rfl
theorem cl93 : callable Tryz.prog 93 = true := by kernel_rfl
theorem cl94 : callable Tryz.prog 94 = true := by kernel_rfl
theorem cl106 : callable Tryz.prog 106 = true := by kernel_rfl
theorem cl107 : callable Tryz.prog 107 = true := by kernel_rfl
theorem cl108 : callable Tryz.prog 108 = true := by kernel_rfl
theorem cl109 : callable Tryz.prog 109 = true := by kernel_rfl
theorem tz3 : tzero Tryz.prog 3 = some [.v (.int .i64 0)] := by kernel_rfl
theorem tz23 : tzero Tryz.prog 23 = some [.v (.string ⟨#[]⟩), .v (.string ⟨#[]⟩), .v (.string ⟨#[]⟩), .v (.bool false), .v (.int .i64 0), .v (.int .i64 0), .v (.int .i64 0), .v (.bool false)] := by kernel_rfl
theorem tz25 : tzero Tryz.prog 25 = some [.v (.string ⟨#[]⟩), .v (.string ⟨#[]⟩), .v (.string ⟨#[]⟩), .v (.string ⟨#[]⟩), .v (.string ⟨#[]⟩), .v (.int .i64 0), .v (.bool false), .v (.int .i64 0), .v (.int .i64 0), .v (.int .i64 0)] := by kernel_rfl
theorem tz27 : tzero Tryz.prog 27 = some [.v (.string ⟨#[]⟩), .v (.string ⟨#[]⟩), .v (.int .i64 0), .v (.int .i64 0), .v (.int .i64 0), .v (.int .i64 0)] := by kernel_rfl
theorem tz29 : tzero Tryz.prog 29 = some [.v (.int .i64 0), .v (.int .i64 0), .v (.string ⟨#[]⟩), .v (.string ⟨#[]⟩), .v (.string ⟨#[]⟩), .v (.bool false), .v (.int .i64 0), .v (.int .i64 0), .v (.int .i64 0), .v (.bool false), .v (.string ⟨#[]⟩), .v (.string ⟨#[]⟩), .v (.string ⟨#[]⟩), .v (.string ⟨#[]⟩), .v (.string ⟨#[]⟩), .v (.string ⟨#[]⟩), .v (.int .i64 0), .v (.bool false), .v (.int .i64 0), .v (.int .i64 0), .v (.int .i64 0), .v (.int .i64 0), .v (.bool false), .v (.string ⟨#[]⟩), .v (.string ⟨#[]⟩), .v (.int .i64 0), .v (.int .i64 0), .v (.int .i64 0), .v (.int .i64 0)] := by kernel_rfl
theorem tz33 : tzero Tryz.prog 33 = some [.v (.int .i64 0)] := by kernel_rfl
theorem tz43 : tzero Tryz.prog 43 = some [.nilS] := by kernel_rfl
theorem tz54 : tzero Tryz.prog 54 = some [.v (.int .i64 0), .v (.int .i64 0), .v (.int .i64 0), .v (.bool false), .v (.int .i64 0), .v (.int .i64 0), .v (.bool false), .v (.string ⟨#[]⟩), .v (.string ⟨#[]⟩), .v (.string ⟨#[]⟩), .v (.string ⟨#[]⟩), .v (.string ⟨#[]⟩), .v (.string ⟨#[]⟩), .v (.int .i64 0), .v (.bool false), .v (.int .i64 0), .v (.int .i64 0), .v (.int .i64 0)] := by kernel_rfl
theorem tz71 : tzero Tryz.prog 71 = some [.nilS, .v (.int .i64 0), .v (.bool false)] := by kernel_rfl
theorem tz96 : tzero Tryz.prog 96 = some [.v (.string ⟨#[]⟩), .v (.string ⟨#[]⟩), .v (.string ⟨#[]⟩), .v (.string ⟨#[]⟩), .v (.string ⟨#[]⟩), .v (.string ⟨#[]⟩), .v (.string ⟨#[]⟩), .v (.string ⟨#[]⟩)] := by kernel_rfl
theorem tz104 : tzero Tryz.prog 104 = some [.v (.int .i64 0), .v (.string ⟨#[]⟩)] := by kernel_rfl
theorem tz131 : tzero Tryz.prog 131 = some [.nilS] := by kernel_rfl
theorem bs23 : buildS Tryz.prog 23 = some [(0, 1), (1, 1), (2, 1), (3, 1), (4, 1), (5, 1), (6, 1), (7, 1)] := by kernel_rfl
theorem bs25 : buildS Tryz.prog 25 = some [(0, 1), (1, 1), (2, 1), (3, 1), (4, 1), (5, 1), (6, 1), (7, 1), (8, 1), (9, 1)] := by kernel_rfl
theorem bs27 : buildS Tryz.prog 27 = some [(0, 1), (1, 1), (2, 1), (3, 1), (4, 1), (5, 1)] := by kernel_rfl
theorem bs29 : buildS Tryz.prog 29 = some [(0, 1), (1, 1), (2, 8), (10, 1), (11, 10), (21, 1), (22, 1), (23, 6)] := by kernel_rfl
theorem bs54 : buildS Tryz.prog 54 = some [(0, 1), (1, 1), (2, 1), (3, 1), (4, 1), (5, 1), (6, 1), (7, 1), (8, 10)] := by kernel_rfl
theorem bs71 : buildS Tryz.prog 71 = some [(0, 1), (1, 1), (2, 1)] := by kernel_rfl
theorem bs96 : buildS Tryz.prog 96 = none := by kernel_rfl
theorem ba96 : buildA Tryz.prog 96 = some 1 := by kernel_rfl
theorem bs104 : buildS Tryz.prog 104 = some [(0, 1), (1, 1)] := by kernel_rfl
theorem ud2 : Tryz.prog.underlying 2 = some (.int (Go.IntKind.i64)) := by kernel_rfl
theorem ud3 : Tryz.prog.underlying 3 = some (.int (Go.IntKind.i64)) := by kernel_rfl
theorem ud4 : Tryz.prog.underlying 4 = some (.bool) := by kernel_rfl
theorem ud5 : Tryz.prog.underlying 5 = some (.int (Go.IntKind.u8)) := by kernel_rfl
theorem ud9 : Tryz.prog.underlying 9 = some (.string) := by kernel_rfl
theorem ud21 : Tryz.prog.underlying 21 = some (.int (Go.IntKind.i32)) := by kernel_rfl
theorem ud30 : Tryz.prog.underlying 30 = some (.int (Go.IntKind.u16)) := by kernel_rfl
theorem ud33 : Tryz.prog.underlying 33 = some (.int (Go.IntKind.i64)) := by kernel_rfl
theorem ud43 : Tryz.prog.underlying 43 = some (.slice 29) := by kernel_rfl
theorem ud55 : Tryz.prog.underlying 55 = some (.slice 5) := by kernel_rfl
theorem ud59 : Tryz.prog.underlying 59 = some (.slice 9) := by kernel_rfl
theorem ud63 : Tryz.prog.underlying 63 = some (.array 9 9) := by kernel_rfl
theorem ud80 : Tryz.prog.underlying 80 = some (.slice 104) := by kernel_rfl
theorem ud96 : Tryz.prog.underlying 96 = some (.array 8 9) := by kernel_rfl
theorem ud116 : Tryz.prog.underlying 116 = some (.int (Go.IntKind.u64)) := by kernel_rfl
theorem ud119 : Tryz.prog.underlying 119 = some (.slice 2) := by kernel_rfl
theorem ud131 : Tryz.prog.underlying 131 = some (.slice 104) := by kernel_rfl
attribute [go_sem] ld2 ld3 ld4 ld9 ld23 ld25 ld27 ld29 ld33 ld43 ld54 ld59 ld63 ld104 ld131 fi23_0 fi23_1 fi23_2 fi23_3 fi23_4 fi23_5 fi25_0 fi25_1 fi25_2 fi25_3 fi25_4 fi25_5 fi25_6 fi25_7 fi25_8 fi25_9 fi27_0 fi27_1 fi27_2 fi27_3 fi27_4 fi27_5 fi29_0 fi29_1 fi29_2 fi29_3 fi29_4 fi29_5 fi29_6 fi29_7 fi54_0 fi54_1 fi54_2 fi54_3 fi54_4 fi54_5 fi54_6 fi54_7 fi54_8 fi71_0 fi71_1 fi71_2 fi104_0 fi104_1 ix43 ix59 ix63 ix80 ix96 ix119 ap43 ap55 ap59 ap80 ap119 ap131 sz2 sz3 sz4 sz5 sz9 sz23 sz25 sz27 sz29 sz33 sz43 sz54 sz71 sz96 sz104 sz131 sr9 sr43 sr55 sr59 sr131 fk29 fk54 cl6 cl7 cl8 cl9 cl10 cl11 cl12 cl13 cl14 cl15 cl16 cl17 cl18 cl19 cl20 cl21 cl22 cl23 cl24 cl25 cl26 cl27 cl28 cl29 cl30 cl31 cl32 cl33 cl34 cl35 cl36 cl37 cl41 cl42 cl44 cl45 cl46 cl47 cl48 cl49 cl50 cl52 cl53 cl54 cl55 cl56 cl57 cl58 cl59 cl60 cl63 cl64 cl68 cl69 cl70 cl71 cl74 cl75 cl76 cl77 cl78 cl79 cl86 cl87 cl90 cl91 cl92 cl93 cl94 cl106 cl107 cl108 cl109 tz3 tz23 tz25 tz27 tz29 tz33 tz43 tz54 tz71 tz96 tz104 tz131 bs23 bs25 bs27 bs29 bs54 bs71 bs96 ba96 bs104 ud2 ud3 ud4 ud5 ud9 ud21 ud30 ud33 ud43 ud55 ud59 ud63 ud80 ud96 ud116 ud119 ud131
end Go.Proofs.YtfchlkeekmabfaaGreatDoor
end
section
/- Plain facts on decimal numerals, fields and lists of fields: no program in sight. -/
set_option linter.unusedVariables false
set_option linter.unusedSimpArgs false
namespace Go.Fld
open Go

abbrev Bs := List UInt8
def isDig (c : UInt8) : Bool := decide (48 ≤ c.toNat) && decide (c.toNat ≤ 57)
/-- What digits spell, behind what was spelt before. -/
def decVal (acc : Nat) (l : Bs) : Nat := l.foldl (fun a c => a * 10 + (c.toNat - 48)) acc
theorem decVal_nil (a : Nat) : decVal a [] = a := by unfold decVal; rw [List.foldl_nil]
theorem decVal_cons (a : Nat) (c : UInt8) (l : Bs) : decVal a (c :: l) = decVal (a * 10 + (c.toNat - 48)) l := by unfold decVal; rw [List.foldl_cons]
attribute [irreducible] decVal
def numOK (n : Int) : Bool := decide (-4611686018427387904 ≤ n) && decide (n ≤ 4611686018427387904)
def showF (n : Int) : Bs := if numOK n = true then Lib.itoa n else []
/-- The digits behind a sign, and whether there is one. -/
def signed : Bs → Bs × Bool
  | 45 :: r => (r, true)
  | l => (l, false)
/-- A number's text: what it spells, and the error's number. -/
def parseF (l : Bs) : Int × Int :=
  if 20 < l.length then (0, 4)
  else if (signed l).1 = [] ∨ ((signed l).1.head? = some 48 ∧ 1 < l.length) then (0, 3)
  else if (signed l).1.all isDig = false then (0, 3)
  else if 4611686018427387904 < decVal 0 (signed l).1 then (0, 9)
  else (if (signed l).2 = true then -((decVal 0 (signed l).1 : Nat) : Int) else ((decVal 0 (signed l).1 : Nat) : Int), 0)

theorem decVal_append (l : Bs) : ∀ (a : Nat) (m : Bs), decVal a (l ++ m) = decVal (decVal a l) m := by
  induction l with
  | nil => intro a m; rw [List.nil_append, decVal_nil]
  | cons c l ih => intro a m; rw [List.cons_append, decVal_cons, decVal_cons, ih]
theorem decVal_acc (l : Bs) : ∀ (a : Nat), decVal a l = a * 10 ^ l.length + decVal 0 l := by
  induction l with
  | nil => intro a; simp [decVal_nil]
  | cons c l ih =>
    intro a
    simp only [decVal_cons, List.length_cons]
    rw [ih (a * 10 + _), ih (0 * 10 + _), Nat.pow_succ]
    generalize 10 ^ l.length = q
    generalize c.toNat - 48 = z
    rw [Nat.add_mul, Nat.add_mul, Nat.mul_assoc, Nat.mul_comm 10 q]
    omega
theorem decVal_le (a : Nat) (l : Bs) : a ≤ decVal a l := by
  rw [decVal_acc]
  have h1 : 1 ≤ 10 ^ l.length := Nat.one_le_pow _ _ (by decide)
  generalize 10 ^ l.length = q at *
  have := Nat.mul_le_mul_left a h1
  generalize a * q = z at *
  omega
theorem decVal_lead {c : UInt8} {l : Bs} (h : isDig c = true) (h0 : c ≠ 48) : 10 ^ l.length ≤ decVal 0 (c :: l) := by
  simp only [isDig, Bool.and_eq_true, decide_eq_true_eq] at h
  simp only [decVal_cons, Nat.zero_mul, Nat.zero_add]
  rw [decVal_acc]
  have h1 : 1 ≤ c.toNat - 48 := by
    have : c.toNat ≠ 48 := fun e => h0 (UInt8.toNat_inj.1 (by simpa using e))
    omega
  have := Nat.mul_le_mul_right (10 ^ l.length) h1
  generalize 10 ^ l.length = q at *
  generalize (c.toNat - 48) * q = z at *
  omega

theorem digOf {u : Nat} (h : u < 10) : isDig (UInt8.ofNat (48 + u)) = true ∧ (UInt8.ofNat (48 + u)).toNat - 48 = u := by
  have : (UInt8.ofNat (48 + u)).toNat = 48 + u := by simp; omega
  simp only [isDig, this, Bool.and_eq_true, decide_eq_true_eq]
  omega
theorem ofDig {c : UInt8} (h : isDig c = true) : UInt8.ofNat (48 + (c.toNat - 48)) = c := by
  simp only [isDig, Bool.and_eq_true, decide_eq_true_eq] at h
  apply UInt8.toNat_inj.1
  simp; omega

theorem decDigits_dig (u : Nat) : (Lib.decDigits u).all isDig = true := by
  induction u using Nat.strongRecOn with
  | _ u ih =>
    rw [Lib.decDigits]
    split
    · rename_i h; simp only [List.all_cons, List.all_nil, Bool.and_true]; exact (digOf h).1
    · rename_i h
      simp only [List.all_append, List.all_cons, List.all_nil, Bool.and_true, ih (u / 10) (by omega), Bool.true_and]
      exact (digOf (Nat.mod_lt u (by decide : 0 < 10))).1
theorem decDigits_val (u : Nat) : decVal 0 (Lib.decDigits u) = u := by
  induction u using Nat.strongRecOn with
  | _ u ih =>
    rw [Lib.decDigits]
    split
    · rename_i h; simp only [decVal_cons, decVal_nil]; rw [(digOf h).2]; omega
    · rename_i h
      rw [decVal_append, ih (u / 10) (by omega)]
      simp only [decVal_cons, decVal_nil]
      rw [(digOf (Nat.mod_lt u (by decide : 0 < 10))).2]
      omega
theorem decDigits_ne (u : Nat) : Lib.decDigits u ≠ [] := by
  rw [Lib.decDigits]; split <;> simp
theorem decDigits_head (u : Nat) (h : u ≠ 0) : (Lib.decDigits u).head? ≠ some 48 := by
  induction u using Nat.strongRecOn with
  | _ u ih =>
    rw [Lib.decDigits]
    split
    · rename_i h1
      simp only [List.head?_cons, ne_eq, Option.some.injEq]
      intro e
      have := (digOf h1).2
      rw [e] at this
      simp at this; omega
    · rename_i h1
      have h2 := decDigits_ne (u / 10)
      rw [List.head?_append]
      cases hh : (Lib.decDigits (u / 10)).head? with
      | none => exact absurd (List.head?_eq_none_iff.1 hh) h2
      | some x => simp only [Option.some_or]; rw [← hh]; exact ih (u / 10) (by omega) (by omega)
/-- Digits without a 0 ahead are the numeral of what they spell. -/
theorem decDigits_of : ∀ (n : Nat) (l : Bs), l.length = n → l.all isDig = true → l ≠ [] → (l.head? = some 48 → l.length = 1) → Lib.decDigits (decVal 0 l) = l := by
  intro n
  induction n with
  | zero => intro l hl _ hn; exact absurd (List.eq_nil_of_length_eq_zero hl) hn
  | succ n ih =>
    intro l hl hd hn h0
    obtain ⟨m, c, rfl⟩ : ∃ m c, l = m ++ [c] := ⟨l.dropLast, l.getLast hn, (List.dropLast_concat_getLast hn).symm⟩
    simp only [List.all_append, List.all_cons, List.all_nil, Bool.and_true, Bool.and_eq_true] at hd
    have hc := hd.2
    have hc' : c.toNat - 48 < 10 := by simp only [isDig, Bool.and_eq_true, decide_eq_true_eq] at hc; omega
    rw [decVal_append]
    simp only [decVal_cons, decVal_nil]
    cases m with
    | nil =>
      simp only [decVal_nil, List.nil_append]
      rw [Lib.decDigits_one (by omega)]
      simp only [Nat.zero_mul, Nat.zero_add]
      rw [ofDig hc]
    | cons d m =>
      simp only [List.length_append, List.length_cons, List.length_nil] at hl
      have hd0 : d ≠ 48 := by
        intro e; subst e
        have := h0 (by simp); simp at this
      have h1 := ih (d :: m) (by simpa using hl) hd.1 (by simp) (by intro e; simp at e; exact absurd e hd0)
      have h2 := decVal_lead (l := m) (by simpa using (by simpa using hd.1 : _ ∧ _).1 : isDig d = true) hd0
      have h3 : 1 ≤ decVal 0 (d :: m) := Nat.le_trans (Nat.one_le_pow _ _ (by decide)) h2
      rw [Lib.decDigits, dif_neg (by omega)]
      have e1 : (decVal 0 (d :: m) * 10 + (c.toNat - 48)) / 10 = decVal 0 (d :: m) := by omega
      have e2 : (decVal 0 (d :: m) * 10 + (c.toNat - 48)) % 10 = c.toNat - 48 := by omega
      rw [e1, e2, h1, ofDig hc]

theorem dec_len {u k : Nat} (h : u < 10 ^ k) (hk : 0 < k) : (Lib.decDigits u).length ≤ k := by
  rw [Lib.decDigits_length]
  induction k generalizing u with
  | zero => omega
  | succ k ih =>
    by_cases hu : u < 10
    · rw [Lib.nDigits_small hu]; omega
    · rw [Lib.nDigits_big hu]
      cases k with
      | zero => simp at h; omega
      | succ k => have := ih (u := u / 10) (by rw [Nat.pow_succ] at h; omega) (by omega); omega

theorem signed_dec (u : Nat) : signed (Lib.decDigits u) = (Lib.decDigits u, false) := by
  have h := decDigits_dig u
  unfold signed
  split
  · rename_i r h'; rw [h'] at h; simp [isDig] at h
  · rfl

/-- A number's text is read as it. -/
theorem parse_show {n : Int} (h : numOK n = true) : parseF (showF n) = (n, 0) := by
  have hh := h
  simp only [numOK, Bool.and_eq_true, decide_eq_true_eq] at hh
  rw [showF, if_pos h, Lib.itoa]
  by_cases hn : n < 0
  · rw [if_pos hn]
    have h1 : signed (45 :: Lib.decDigits n.natAbs) = (Lib.decDigits n.natAbs, true) := rfl
    have hl := dec_len (u := n.natAbs) (k := 19) (by omega) (by omega)
    unfold parseF
    rw [h1]
    simp only [decDigits_val, decDigits_dig]
    rw [if_neg (by simp; omega), if_neg, if_neg (by simp), if_neg (by omega)]
    · simp; omega
    · rintro (e | ⟨e, _⟩)
      · exact decDigits_ne _ e
      · exact decDigits_head _ (by omega) e
  · rw [if_neg hn]
    have hl := dec_len (u := n.toNat) (k := 19) (by omega) (by omega)
    unfold parseF
    rw [signed_dec]
    simp only [decDigits_val, decDigits_dig]
    rw [if_neg (by omega), if_neg, if_neg (by simp), if_neg (by omega)]
    · simp; omega
    · rintro (e | ⟨e, e2⟩)
      · exact decDigits_ne _ e
      · by_cases h0 : n.toNat = 0
        · rw [h0] at e2; simp [Lib.decDigits] at e2
        · exact decDigits_head _ h0 e

/-- What is read shows as it was. -/
theorem show_parse {l : Bs} {n : Int} (h : parseF l = (n, 0)) : numOK n = true ∧ showF n = l := by
  unfold parseF at h
  split at h
  · simp at h
  rename_i hlen
  split at h
  · simp at h
  rename_i hne
  split at h
  · simp at h
  rename_i hd
  split at h
  · simp at h
  rename_i hv
  replace hd : (signed l).1.all isDig = true := by simpa using hd
  replace hne : (signed l).1 ≠ [] ∧ ((signed l).1.head? = some 48 → l.length ≤ 1) := by
    constructor
    · intro e; exact hne (.inl e)
    · intro e; apply Nat.le_of_not_lt; intro h'; exact hne (.inr ⟨e, h'⟩)
  simp only [Prod.mk.injEq, and_true] at h
  generalize hs : signed l = s at *
  obtain ⟨ds, b⟩ := s
  simp only at h hd hne hv
  cases b with
  | true =>
    simp only [if_true] at h
    have hl : l = 45 :: ds := by
      unfold signed at hs; split at hs
      · simp only [Prod.mk.injEq, and_true] at hs; rw [hs]
      · simp at hs
    subst hl
    have h0 : ds.head? ≠ some 48 := fun e => by
      have h1 := hne.2 e
      cases ds with
      | nil => simp at e
      | cons => simp at h1
    have h2 := decDigits_of _ ds rfl hd hne.1 (fun e => absurd e h0)
    have h3 : decVal 0 ds ≠ 0 := by
      intro e
      rw [e] at h2
      rw [← h2] at h0
      simp [Lib.decDigits] at h0
    have hok : numOK n = true := by simp only [numOK, Bool.and_eq_true, decide_eq_true_eq]; omega
    refine ⟨hok, ?_⟩
    rw [showF, if_pos hok, Lib.itoa, if_pos (by omega)]
    have : n.natAbs = decVal 0 ds := by omega
    rw [this, h2]
  | false =>
    simp only [Bool.false_eq_true, if_false] at h
    have hl : ds = l := by
      unfold signed at hs; split at hs
      · simp at hs
      · simp only [Prod.mk.injEq, and_true] at hs; exact hs.symm
    subst hl
    have h2 := decDigits_of _ ds rfl hd hne.1 (fun e => by
      have h1 := hne.2 e
      cases ds with
      | nil => simp at e
      | cons => simp at h1 ⊢; omega)
    have hok : numOK n = true := by simp only [numOK, Bool.and_eq_true, decide_eq_true_eq]; omega
    refine ⟨hok, ?_⟩
    rw [showF, if_pos hok, Lib.itoa, if_neg (by omega)]
    have : n.toNat = decVal 0 ds := by omega
    rw [this, h2]
end Go.Fld
end
section
/- Plain facts on lists of fields: what is put is read as it was. -/
set_option linter.unusedVariables false
set_option linter.unusedSimpArgs false
namespace Go.Fld
open Go

/-- What stands ahead of the first c, and behind it. -/
def cutB (c : UInt8) : Bs → Option (Bs × Bs)
  | [] => none
  | x :: l => if x = c then some ([], l) else (cutB c l).map fun p => (x :: p.1, p.2)

theorem cutB_none {c : UInt8} : ∀ {l : Bs}, cutB c l = none ↔ c ∉ l
  | [] => by simp [cutB]
  | x :: l => by
    simp only [cutB]
    split
    · rename_i h; subst h; simp
    · rename_i h
      simp only [Option.map_eq_none_iff, cutB_none (l := l), List.mem_cons, not_or]
      exact ⟨fun h' => ⟨fun e => h e.symm, h'⟩, fun h' => h'.2⟩
theorem cutB_some {c : UInt8} : ∀ {l a b : Bs}, cutB c l = some (a, b) ↔ (l = a ++ c :: b ∧ c ∉ a)
  | [], a, b => by simp [cutB]
  | x :: l, a, b => by
    simp only [cutB]
    split
    · rename_i h; subst h
      constructor
      · intro e; simp only [Option.some.injEq, Prod.mk.injEq] at e; obtain ⟨rfl, rfl⟩ := e; simp
      · rintro ⟨e, hn⟩
        cases a with
        | nil => simp at e; simp [e]
        | cons y a => simp at e; obtain ⟨rfl, _⟩ := e; simp at hn
    · rename_i h
      constructor
      · intro e
        simp only [Option.map_eq_some_iff, Prod.mk.injEq, Prod.exists] at e
        obtain ⟨a', b', h1, rfl, rfl⟩ := e
        obtain ⟨h2, h3⟩ := cutB_some.1 h1
        refine ⟨by rw [h2]; rfl, ?_⟩
        simp only [List.mem_cons, not_or]
        exact ⟨fun e => h e.symm, h3⟩
      · rintro ⟨e, hn⟩
        cases a with
        | nil => simp at e; exact absurd e.1 h
        | cons y a =>
          simp only [List.cons_append, List.cons.injEq] at e
          obtain ⟨rfl, e⟩ := e
          simp only [List.mem_cons, not_or] at hn
          rw [cutB_some.2 ⟨e, hn.2⟩]; rfl
theorem cutB_at {c : UInt8} {a : Bs} (b : Bs) (h : c ∉ a) : cutB c (a ++ c :: b) = some (a, b) := cutB_some.2 ⟨rfl, h⟩
theorem index_cut {c : UInt8} : ∀ {l : Bs}, Lib.indexByte l c = match cutB c l with | none => -1 | some p => (p.1.length : Int)
  | [] => rfl
  | x :: l => by
    simp only [Lib.indexByte, cutB]
    by_cases h : x = c
    · subst h; simp
    · have h' : (x == c) = false := by simpa using h
      rw [if_neg h, h', index_cut (l := l)]
      cases cutB c l with
      | none => simp
      | some p => simp
theorem cutB_len {c : UInt8} {l a b : Bs} (h : cutB c l = some (a, b)) : b.length < l.length := by
  obtain ⟨h1, _⟩ := cutB_some.1 h
  rw [h1]; simp; omega

abbrev Fd := Int × Bs
def rightF (f : Fd) : Bool := decide (1 ≤ f.1) && decide (f.1 ≤ 9999) && decide (1 ≤ f.2.length) && decide (f.2.length ≤ 256) && decide ((1 : UInt8) ∉ f.2)
def encF (f : Fd) : Bs := showF f.1 ++ 61 :: (f.2 ++ [1])
def encL : List Fd → Bs
  | [] => []
  | f :: l => encF f ++ encL l
def putF (l : List Fd) : Bs × Int := if 100 < l.length then ([], 4) else if l.all rightF = true then (encL l, 0) else ([], 1)
def readF (t : Bs) : Option Fd :=
  match cutB 61 t with
  | none => none
  | some (a, v) => if (parseF a).2 = 0 ∧ 1 ≤ (parseF a).1 ∧ (parseF a).1 ≤ 9999 ∧ rightF ((parseF a).1, v) = true then some ((parseF a).1, v) else none
def parseGo (acc : List Fd) (b : Bs) : List Fd × Int :=
  if b = [] then (acc, 0)
  else match h : cutB 1 b with
    | none => ([], 2)
    | some (t, r) => match readF t with
      | none => ([], 3)
      | some f => if acc.length = 100 then ([], 4) else parseGo (acc ++ [f]) r
termination_by b.length
decreasing_by exact cutB_len h
def parseL (b : Bs) : List Fd × Int := if 65536 < b.length then ([], 4) else parseGo [] b

theorem parseGo_nil {acc : List Fd} : parseGo acc [] = (acc, 0) := by rw [parseGo]; simp
theorem parseGo_cut {acc : List Fd} {b t r : Bs} (hc : cutB 1 b = some (t, r)) : parseGo acc b = match readF t with
      | none => ([], 3)
      | some f => if acc.length = 100 then ([], 4) else parseGo (acc ++ [f]) r := by
  have h : b ≠ [] := by rintro rfl; simp [cutB] at hc
  rw [parseGo, if_neg h]
  split
  · rename_i h2; rw [hc] at h2; simp at h2
  · rename_i t' r' h2; rw [hc] at h2; simp only [Option.some.injEq, Prod.mk.injEq] at h2; obtain ⟨rfl, rfl⟩ := h2; rfl

theorem show_bytes {n : Int} (h1 : 1 ≤ n) (h2 : n ≤ 9999) : numOK n = true ∧ showF n = Lib.decDigits n.toNat ∧ (1 : UInt8) ∉ showF n ∧ (61 : UInt8) ∉ showF n ∧ (showF n).length ≤ 4 := by
  have hok : numOK n = true := by simp only [numOK, Bool.and_eq_true, decide_eq_true_eq]; omega
  have e : showF n = Lib.decDigits n.toNat := by rw [showF, if_pos hok, Lib.itoa, if_neg (by omega)]
  have hd := decDigits_dig n.toNat
  rw [List.all_eq_true] at hd
  refine ⟨hok, e, ?_, ?_, ?_⟩
  · rw [e]; intro hm; have := hd _ hm; simp [isDig] at this
  · rw [e]; intro hm; have := hd _ hm; simp [isDig] at this
  · rw [e]; exact dec_len (by omega) (by omega)

theorem rightF_iff {f : Fd} : rightF f = true ↔ 1 ≤ f.1 ∧ f.1 ≤ 9999 ∧ 1 ≤ f.2.length ∧ f.2.length ≤ 256 ∧ (1 : UInt8) ∉ f.2 := by
  simp only [rightF, Bool.and_eq_true, decide_eq_true_eq, and_assoc]

theorem read_enc {f : Fd} (h : rightF f = true) : readF (showF f.1 ++ 61 :: f.2) = some f := by
  have h' := rightF_iff.1 h
  obtain ⟨hok, _, _, h61, _⟩ := show_bytes h'.1 h'.2.1
  unfold readF
  rw [cutB_at _ h61]
  simp only [parse_show hok]
  rw [if_pos (by simp [h'.1, h'.2.1, h])]
theorem enc_no1 {f : Fd} (h : rightF f = true) : (1 : UInt8) ∉ showF f.1 ++ 61 :: f.2 := by
  have h' := rightF_iff.1 h
  obtain ⟨_, _, h1, _, _⟩ := show_bytes h'.1 h'.2.1
  simp only [List.mem_append, List.mem_cons, not_or]
  exact ⟨h1, by decide, h'.2.2.2.2⟩
theorem encF_eq (f : Fd) (r : Bs) : encF f ++ r = (showF f.1 ++ 61 :: f.2) ++ 1 :: r := by simp [encF]

theorem parse_enc : ∀ (l : List Fd) (acc : List Fd) (r : Bs), l.all rightF = true → acc.length + l.length ≤ 100 → parseGo acc (encL l ++ r) = parseGo (acc ++ l) r
  | [], acc, r, _, _ => by simp [encL]
  | f :: l, acc, r, h, hl => by
    simp only [List.all_cons, Bool.and_eq_true] at h
    simp only [List.length_cons] at hl
    have e : encL (f :: l) ++ r = (showF f.1 ++ 61 :: f.2) ++ 1 :: (encL l ++ r) := by
      show (encF f ++ encL l) ++ r = _
      rw [List.append_assoc, encF_eq]
    rw [e, parseGo_cut (cutB_at _ (enc_no1 h.1)), read_enc h.1]
    simp only
    rw [if_neg (by omega), parse_enc l (acc ++ [f]) r h.2 (by simp; omega)]
    simp
theorem parse_put {a b : List Fd} (ha : a.all rightF = true) (hb : b.all rightF = true) (h : a.length + b.length ≤ 100) (hs : (encL a ++ encL b).length ≤ 65536) : parseL (encL a ++ encL b) = (a ++ b, 0) := by
  rw [parseL, if_neg (by omega), parse_enc a [] _ ha (by simp; omega)]
  have := parse_enc b a [] hb h
  simp only [List.append_nil] at this
  simp only [List.nil_append, this, parseGo_nil]
theorem encF_len {f : Fd} (h : rightF f = true) : (encF f).length ≤ 262 := by
  have h' := rightF_iff.1 h
  have := (show_bytes h'.1 h'.2.1).2.2.2.2
  simp only [encF, List.length_append, List.length_cons, List.length_nil]
  omega
theorem encL_len : ∀ {l : List Fd}, l.all rightF = true → (encL l).length ≤ 262 * l.length
  | [], _ => by simp [encL]
  | f :: l, h => by
    simp only [List.all_cons, Bool.and_eq_true] at h
    have := encF_len h.1
    have := encL_len h.2
    simp only [encL, List.length_append, List.length_cons]; omega
def getF (l : List Fd) (tag : Int) : Bs × Bool :=
  match l with
  | [] => ([], false)
  | f :: r => if f.1 = tag then (f.2, true) else getF r tag
end Go.Fld
end
section
/- Small plain facts for the walks over fields. -/
set_option linter.unusedVariables false
set_option linter.unusedSimpArgs false
namespace Go.Fld
open Go
theorem u8_eq {b c : UInt8} {n : Int} (h : (b.toNat : Int) = n) (hc : (c.toNat : Int) = n) : b = c := UInt8.toNat_inj.1 (by omega)
theorem take_next {α : Type} {l : List α} {i : Nat} {b : α} (hb : l[i]? = some b) : l.take (i + 1) = l.take i ++ [b] := by
  rw [List.take_add_one, hb]; rfl
theorem right_eq {f : Fld.Fd} {b : Bool} (h : (b = true) ↔ (1 ≤ f.1 ∧ f.1 ≤ 9999 ∧ 1 ≤ f.2.length ∧ f.2.length ≤ 256 ∧ (1 : UInt8) ∉ f.2)) : b = rightF f := Bool.eq_iff_iff.2 (by rw [rightF_iff]; exact h)
theorem drop_at {α : Type} {l : List α} {i : Nat} {b : α} (hb : l[i]? = some b) : l.drop i = b :: l.drop (i + 1) := by
  have h : i < l.length := by
    rcases Nat.lt_or_ge i l.length with h | h
    · exact h
    · rw [List.getElem?_eq_none h] at hb; simp at hb
  rw [List.drop_eq_getElem_cons h]
  rw [List.getElem?_eq_getElem h] at hb
  simp only [Option.some.injEq] at hb; rw [hb]
theorem get_lt {α : Type} {l : List α} {i : Nat} {b : α} (hb : l[i]? = some b) : i < l.length := by
  rcases Nat.lt_or_ge i l.length with h | h
  · exact h
  · rw [List.getElem?_eq_none h] at hb; simp at hb
end Go.Fld
namespace Go.Fld
open Go
theorem show_len (n : Int) : (showF n).length ≤ 20 := by
  unfold showF
  split
  · rename_i h
    simp only [numOK, Bool.and_eq_true, decide_eq_true_eq] at h
    unfold Lib.itoa
    split
    · have := dec_len (u := n.natAbs) (k := 19) (by omega) (by omega)
      simp; omega
    · have := dec_len (u := n.toNat) (k := 19) (by omega) (by omega)
      omega
  · simp
theorem show_dig {n : Int} (h0 : 0 ≤ n) (h1 : n < 10) : showF n = [UInt8.ofNat (48 + n.toNat)] := by
  have h : numOK n = true := by simp only [numOK, Bool.and_eq_true, decide_eq_true_eq]; omega
  rw [showF, if_pos h, Lib.itoa, if_neg (by omega), Lib.decDigits_one (by omega)]
theorem show_big {n : Int} (h : numOK n = true) (h1 : 10 ≤ n) : showF n = showF (n.tdiv 10) ++ [UInt8.ofNat (48 + (n.tmod 10).toNat)] := by
  have h' := h
  simp only [numOK, Bool.and_eq_true, decide_eq_true_eq] at h'
  rw [Int.tdiv_eq_ediv_of_nonneg (by omega), Int.tmod_eq_emod_of_nonneg (by omega)]
  have h2 : numOK (n / 10) = true := by simp only [numOK, Bool.and_eq_true, decide_eq_true_eq]; omega
  rw [showF, showF, if_pos h, if_pos h2, Lib.itoa, Lib.itoa, if_neg (by omega), if_neg (by omega)]
  rw [Lib.decDigits, dif_neg (by omega)]
  have e1 : n.toNat / 10 = (n / 10).toNat := by omega
  have e2 : n.toNat % 10 = (n % 10).toNat := by omega
  rw [e1, e2]
theorem numOK_iff {n : Int} : numOK n = true ↔ -4611686018427387904 ≤ n ∧ n ≤ 4611686018427387904 := by
  simp only [numOK, Bool.and_eq_true, decide_eq_true_eq]
end Go.Fld
namespace Go.Fld
end Go.Fld
namespace Go.Fld
open Go
theorem signed_eq (l : Bs) : Lib.trimPrefix l [45] = (signed l).1 ∧ Lib.hasPrefix l [45] = (signed l).2 := by
  unfold signed
  split
  · constructor <;> simp [Lib.trimPrefix, Lib.hasPrefix]
  · rename_i h
    have : Lib.hasPrefix l [45] = false := by
      cases l with
      | nil => rfl
      | cons c r =>
        simp only [Lib.hasPrefix, List.isPrefixOf, Bool.and_true]
        rw [beq_eq_false_iff_ne]
        intro e; exact h r (by rw [← e])
    rw [Lib.trimPrefix, this]; exact ⟨rfl, rfl⟩
theorem parse_long {l : Bs} (h : 20 < l.length) : parseF l = (0, 4) := by unfold parseF; rw [if_pos h]
theorem parse_form {l : Bs} (h : ¬ 20 < l.length) (h1 : (signed l).1 = [] ∨ ((signed l).1.head? = some 48 ∧ 1 < l.length)) : parseF l = (0, 3) := by unfold parseF; rw [if_neg h, if_pos h1]
theorem parse_dig {l : Bs} (h : ¬ 20 < l.length) (h2 : (signed l).1.all isDig = false) : parseF l = (0, 3) := by
  unfold parseF; rw [if_neg h]; split
  · rfl
  · rfl
theorem parse_over {l : Bs} (h : ¬ 20 < l.length) (h1 : ¬ ((signed l).1 = [] ∨ ((signed l).1.head? = some 48 ∧ 1 < l.length))) (h2 : (signed l).1.all isDig = true) (h3 : 4611686018427387904 < decVal 0 (signed l).1) : parseF l = (0, 9) := by
  unfold parseF; rw [if_neg h, if_neg h1, if_neg (by rw [h2]; simp), if_pos h3]
theorem parse_ok {l : Bs} (h : ¬ 20 < l.length) (h1 : ¬ ((signed l).1 = [] ∨ ((signed l).1.head? = some 48 ∧ 1 < l.length))) (h2 : (signed l).1.all isDig = true) (h3 : ¬ 4611686018427387904 < decVal 0 (signed l).1) :
    parseF l = (if (signed l).2 = true then -((decVal 0 (signed l).1 : Nat) : Int) else ((decVal 0 (signed l).1 : Nat) : Int), 0) := by
  unfold parseF; rw [if_neg h, if_neg h1, if_neg (by rw [h2]; simp), if_neg h3]
theorem all_next {l : Bs} {i : Nat} {b : UInt8} (hb : l[i]? = some b) (h : (l.take i).all isDig = true) (h1 : ¬ (b.toNat : Int) < 48) (h2 : ¬ 57 < (b.toNat : Int)) : (l.take (i + 1)).all isDig = true := by
  rw [take_next hb, List.all_append, h]
  simp only [List.all_cons, List.all_nil, Bool.and_true, Bool.true_and, isDig, Bool.and_eq_true, decide_eq_true_eq]; omega
theorem all_not {l : Bs} {i : Nat} {b : UInt8} (hb : l[i]? = some b) (h : (b.toNat : Int) < 48 ∨ 57 < (b.toNat : Int)) : l.all isDig = false := by
  rw [Bool.eq_false_iff]; intro e
  rw [List.all_eq_true] at e
  have := e b (List.mem_of_getElem? hb)
  simp only [isDig, Bool.and_eq_true, decide_eq_true_eq] at this; omega
theorem head_at {l : Bs} {b : UInt8} (hb : l[0]? = some b) : l.head? = some b := by rw [List.head?_eq_getElem?]; exact hb
end Go.Fld
namespace Go.Fld
theorem signed_len (l : Bs) : (signed l).1.length ≤ l.length := by
  unfold signed; split <;> simp
end Go.Fld
namespace Go.Fld
theorem all_done {l : Bs} {i : Nat} (h1 : i ≤ l.length) (c : ¬ (i : Int) < (l.length : Int)) (h2 : (l.take i).all isDig = true) : l.all isDig = true := by
  rw [List.take_of_length_le (by omega)] at h2; exact h2
theorem signed_one {l : Bs} (h : (signed l).2 = true) : l.length = (signed l).1.length + 1 := by
  unfold signed at h ⊢; split at h
  · rfl
  · simp at h
theorem signed_no {l : Bs} (h : (signed l).2 = false) : (signed l).1 = l := by
  unfold signed at h ⊢; split at h
  · simp at h
  · rfl
theorem form_yes1 {l : Bs} {b : UInt8} (hb : (signed l).1[0]? = some b) (h : (b.toNat : Int) = 48) (h2 : (signed l).2 = true) : (signed l).1 = [] ∨ ((signed l).1.head? = some 48 ∧ 1 < l.length) := by
  right
  have e : b = 48 := u8_eq h rfl
  refine ⟨by rw [head_at hb, e], ?_⟩
  have := signed_one h2
  have := get_lt hb
  omega
theorem form_yes2 {l : Bs} {b : UInt8} (hb : (signed l).1[0]? = some b) (h : (b.toNat : Int) = 48) (h2 : (1 : Int) < ((signed l).1.length : Int)) : (signed l).1 = [] ∨ ((signed l).1.head? = some 48 ∧ 1 < l.length) := by
  right
  have e : b = 48 := u8_eq h rfl
  refine ⟨by rw [head_at hb, e], ?_⟩
  have := signed_len l
  omega
theorem form_no1 {l : Bs} {b : UInt8} (hb : (signed l).1[0]? = some b) (h : ¬ (b.toNat : Int) = 48) : ¬ ((signed l).1 = [] ∨ ((signed l).1.head? = some 48 ∧ 1 < l.length)) := by
  rintro (e | ⟨e, _⟩)
  · rw [e] at hb; simp at hb
  · rw [head_at hb] at e; simp only [Option.some.injEq] at e; subst e; exact h rfl
theorem form_no2 {l : Bs} (ha : ¬ (signed l).1 = []) (h : (signed l).2 = false) (h1 : ¬ (1 : Int) < ((signed l).1.length : Int)) : ¬ ((signed l).1 = [] ∨ ((signed l).1.head? = some 48 ∧ 1 < l.length)) := by
  rintro (e | ⟨_, e⟩)
  · exact ha e
  · rw [signed_no h] at h1; omega
end Go.Fld
namespace Go.Fld
open Go
end Go.Fld
namespace Go.Fld
open Go
end Go.Fld
namespace Go.Fld
open Go
end Go.Fld
namespace Go.Fld
open Go
end Go.Fld
end
section
/- How a field is read digit by digit. -/
set_option linter.unusedVariables false
set_option linter.unusedSimpArgs false
namespace Go.Fld
open Go

end Go.Fld
namespace Go.Fld
theorem index_neg {l : Bs} : (Lib.indexByte l 1 < 0) = ((1 : UInt8) ∉ l) := by
  rw [index_cut, eq_iff_iff, ← cutB_none]
  cases h : cutB 1 l with
  | none => simp
  | some p => simp
theorem enc_take {l : List Fld.Fd} {i : Nat} (h : (l.take i).all rightF = true) : (encL (l.take i)).length ≤ 262 * l.length := by
  have := encL_len h
  have h2 : (l.take i).length ≤ l.length := by rw [List.length_take]; omega
  have := Nat.mul_le_mul_left 262 h2
  omega
theorem put_long {l : List Fld.Fd} (h : 100 < l.length) : putF l = ([], 4) := by unfold putF; rw [if_pos h]
theorem put_bad {l : List Fld.Fd} {i : Nat} {f : Fld.Fd} (h : ¬ 100 < l.length) (hb : l[i]? = some f) (hf : rightF f = false) : putF l = ([], 1) := by
  unfold putF; rw [if_neg h, if_neg]
  intro e; rw [List.all_eq_true] at e
  rw [e f (List.mem_of_getElem? hb)] at hf; simp at hf
theorem put_ok {l : List Fld.Fd} {i : Nat} (h : ¬ 100 < l.length) (hi : ¬ (i : Int) < (l.length : Int)) (h2 : (l.take i).all rightF = true) : putF l = (encL (l.take i), 0) := by
  rw [List.take_of_length_le (by omega)] at h2 ⊢
  unfold putF; rw [if_neg h, if_pos h2]
theorem encL_app : ∀ (l m : List Fld.Fd), encL (l ++ m) = encL l ++ encL m
  | [], _ => rfl
  | f :: l, m => by show encF f ++ encL (l ++ m) = (encF f ++ encL l) ++ encL m; rw [encL_app l m, List.append_assoc]
theorem enc_next {l : List Fld.Fd} {i : Nat} {f : Fld.Fd} (hb : l[i]? = some f) : encL (l.take (i + 1)) = encL (l.take i) ++ showF f.1 ++ [61] ++ f.2 ++ [1] := by
  rw [take_next hb, encL_app]; simp [encL, encF]
end Go.Fld
namespace Go.Fld
open Go
end Go.Fld
namespace Go.Fld
open Go
end Go.Fld
namespace Go.Fld
open Go
end Go.Fld
namespace Go.Fld
end Go.Fld
namespace Go.Fld
end Go.Fld
end
section
/- The statements on fields, as plain facts. -/
set_option linter.unusedVariables false
set_option linter.unusedSimpArgs false
namespace Go.Fld
open Go
theorem show35 : showF 35 = [51, 53] := by rw [show_big (by decide) (by decide), show_dig (by decide) (by decide)]; rfl
theorem show34 : showF 34 = [51, 52] := by rw [show_big (by decide) (by decide), show_dig (by decide) (by decide)]; rfl
abbrev aw : List Fld.Fd := [(35, [65]), (34, [55])]
theorem aw_right : aw.all rightF = true := by decide
theorem aw_enc : encL aw = [51, 53, 61, 65, 1, 51, 52, 61, 55, 1] := by simp only [aw, encL, encF, show35, show34]; rfl
theorem aw_parse : parseL [51, 53, 61, 65, 1, 51, 52, 61, 55, 1] = (aw, 0) := by
  have := parse_put (a := aw) (b := []) aw_right rfl (by decide) (by rw [aw_enc]; decide)
  rw [show encL [] = [] from rfl, List.append_nil, List.append_nil, aw_enc] at this; exact this
end Go.Fld
namespace Go.Fld
open Go
end Go.Fld
namespace Go.Fld
open Go
theorem mod_q {c : Int} {n : Nat} (h0 : 0 ≤ c) (h1 : c < 65536) (hn : n ≤ 26200) : ∃ q : Nat, Int.tmod (IntKind.i64.wrap c) (IntKind.i64.wrap ((n : Int) + 1)) = (q : Int) ∧ q ≤ n := by
  rw [IntKind.wrap_i64, IntKind.wrap_i64]
  have e1 : (c + 9223372036854775808) % 18446744073709551616 - 9223372036854775808 = c := by omega
  have e2 : ((n : Int) + 1 + 9223372036854775808) % 18446744073709551616 - 9223372036854775808 = (n : Int) + 1 := by omega
  rw [e1, e2, Int.tmod_eq_emod_of_nonneg h0]
  have h2 := Int.emod_nonneg c (show (n : Int) + 1 ≠ 0 by omega)
  have h3 := Int.emod_lt_of_pos c (show 0 < (n : Int) + 1 by omega)
  exact ⟨(c % ((n : Int) + 1)).toNat, by omega, by omega⟩
end Go.Fld
end
section
/- Frames: what is put, and what stands at the beginning of bytes; no program in sight. -/
set_option linter.unusedVariables false
set_option linter.unusedSimpArgs false
namespace Go.Fld
open Go

def beg : Bs := [56, 61, 70, 73, 88, 46, 52, 46, 52, 1, 57, 61]
def begins (b : Bs) : Bool := decide (b.take 12 = beg.take b.length)
end Go.Fld
namespace Go.Fld
open Go
end Go.Fld
end
