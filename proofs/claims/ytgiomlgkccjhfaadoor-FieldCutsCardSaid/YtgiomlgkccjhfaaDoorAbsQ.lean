/- How a region is worked off by rules: what hangs on a guard, and what a call hands on, waits. -/
import Derived.Test.YtgiomlgkccjhfaaDoorAbsP
namespace Go.Abs
open Go Go.RowKit
set_option linter.unusedVariables false
set_option linter.unusedSimpArgs false

/-- What hangs on a guard; what is handed on is kept as data, so that rules wait for the guard. -/
def AGuard (q : Option Bool) (E : Env) (ops : Array Oper) (o : Oper) (l : List Oper) (st : St) (K : St → Prop) : Prop :=
  ∃ b, q = some b ∧ (b = true → AOp E o st fun s => AList E ops l s K) ∧ (b = false → AList E ops l (st.put o.dst (.v undef)) K)
def AV1 (F : (AV → Prop) → Prop) (E : Env) (ops : Array Oper) (d : Option Tmp) (l : List Oper) (st : St) (K : St → Prop) : Prop := F fun y => AList E ops l (st.put d y) K
def AV2 (F : (St → AV → Prop) → Prop) (E : Env) (ops : Array Oper) (d : Option Tmp) (l : List Oper) (K : St → Prop) : Prop := F fun s y => AList E ops l (s.put d y) K
def AV3 (F : (St → Prop) → Prop) (E : Env) (ops : Array Oper) (d : Option Tmp) (l : List Oper) (K : St → Prop) : Prop := F fun s => AList E ops l (s.put d (.v undef)) K
def ACall (E : Env) (ops : Array Oper) (f : AV) (xs : List AV) (d : Option Tmp) (l : List Oper) (st : St) (K : St → Prop) : Prop := ACallOp E st f xs fun s y => AList E ops l (s.put d y) K
def AOp1 (E : Env) (ops : Array Oper) (o : Oper) (l : List Oper) (st : St) (K : St → Prop) : Prop := AOp E o st fun s => AList E ops l s K
def AConvO (u : Option TypeDesc) (E : Env) (ops : Array Oper) (o : Oper) (s d : TypeId) (x : Operand) (l : List Oper) (st : St) (K : St → Prop) : Prop :=
  match u with
  | some (.slice _) => AV2 (fun k => ABytes E.P s d (st.ev x) st k) E ops o.dst l K
  | _ => AV1 (fun k => AConv E.P s d (st.ev x) k) E ops o.dst l st K

@[congr] theorem AV1.congr {F G : (AV → Prop) → Prop} {E : Env} {ops : Array Oper} {d : Option Tmp} {l : List Oper} {st : St} {K : St → Prop} (h : ∀ k, F k = G k) : AV1 F E ops d l st K = AV1 G E ops d l st K := by rw [funext h]
@[congr] theorem AV2.congr {F G : (St → AV → Prop) → Prop} {E : Env} {ops : Array Oper} {d : Option Tmp} {l : List Oper} {K : St → Prop} (h : ∀ k, F k = G k) : AV2 F E ops d l K = AV2 G E ops d l K := by rw [funext h]
@[congr] theorem AV3.congr {F G : (St → Prop) → Prop} {E : Env} {ops : Array Oper} {d : Option Tmp} {l : List Oper} {K : St → Prop} (h : ∀ k, F k = G k) : AV3 F E ops d l K = AV3 G E ops d l K := by rw [funext h]

section
variable {E : Env} {ops : Array Oper} {o : Oper} {d : Option Tmp} {l : List Oper} {st : St} {K : St → Prop}

@[go_sem] theorem alist_nil : AList E ops [] st K = K st := rfl
@[go_sem] theorem alist_cons : AList E ops (o :: l) st K = AGuard (AWant ops o st) E ops o l st K := rfl
@[go_sem] theorem AGuard.yes : AGuard (some true) E ops o l st K = AOp1 E ops o l st K := by simp [AGuard, AOp1]
@[go_sem] theorem AGuard.no : AGuard (some false) E ops o l st K = AList E ops l (st.put o.dst (.v undef)) K := by simp [AGuard]
theorem AGuard.split {b : Bool} (h1 : b = true → AOp1 E ops o l st K) (h2 : b = false → AList E ops l (st.put o.dst (.v undef)) K) : AGuard (some b) E ops o l st K := ⟨b, rfl, h1, h2⟩
theorem AGuard.splitN {b : Bool} (h1 : b = true → AList E ops l (st.put o.dst (.v undef)) K) (h2 : b = false → AOp1 E ops o l st K) : AGuard (some (!b)) E ops o l st K := ⟨!b, rfl, fun h => h2 (by simpa using h), fun h => h1 (by simpa using h)⟩

@[go_sem] theorem AV1.at {x : AV} : AV1 (fun k => k x) E ops d l st K = AList E ops l (st.put d x) K := rfl
@[go_sem] theorem AV1.and {p : Prop} {F : (AV → Prop) → Prop} : AV1 (fun k => p ∧ F k) E ops d l st K = (p ∧ AV1 F E ops d l st K) := rfl
@[go_sem] theorem AV1.ex {α : Type} {F : α → (AV → Prop) → Prop} : AV1 (fun k => ∃ x, F x k) E ops d l st K = (∃ x, AV1 (F x) E ops d l st K) := rfl
@[go_sem] theorem AV1.all {p : Bool → Prop} {g : Bool → AV} : AV1 (fun k => ∀ b, p b → k (g b)) E ops d l st K = (∀ b, p b → AList E ops l (st.put d (g b)) K) := rfl
@[go_sem] theorem AV1.none : AV1 (fun _ => False) E ops d l st K = False := rfl
@[go_sem] theorem AV2.at {s : St} {x : AV} : AV2 (fun k => k s x) E ops d l K = AList E ops l (s.put d x) K := rfl
@[go_sem] theorem AV2.and {p : Prop} {F : (St → AV → Prop) → Prop} : AV2 (fun k => p ∧ F k) E ops d l K = (p ∧ AV2 F E ops d l K) := rfl
@[go_sem] theorem AV2.ex {α : Type} {F : α → (St → AV → Prop) → Prop} : AV2 (fun k => ∃ x, F x k) E ops d l K = (∃ x, AV2 (F x) E ops d l K) := rfl
@[go_sem] theorem AV2.none : AV2 (fun _ => False) E ops d l K = False := rfl
@[go_sem] theorem AV3.at {s : St} : AV3 (fun k => k s) E ops d l K = AList E ops l (s.put d (.v undef)) K := rfl
@[go_sem] theorem AV3.and {p : Prop} {F : (St → Prop) → Prop} : AV3 (fun k => p ∧ F k) E ops d l K = (p ∧ AV3 F E ops d l K) := rfl
@[go_sem] theorem AV3.ex {α : Type} {F : α → (St → Prop) → Prop} : AV3 (fun k => ∃ x, F x k) E ops d l K = (∃ x, AV3 (F x) E ops d l K) := rfl
@[go_sem] theorem AV3.none : AV3 (fun _ => False) E ops d l K = False := rfl

theorem ACall.of {g : FuncId} {caps xs ys : List AV} {R : AV → List Nat → Prop} (hc : ACalls E g ys R) (hb : callable E.P g = true) (hy : cleanArgs (xs ++ caps) = some ys)
    (h : ∀ r t, R r t → AList E ops l (St.put { st with tk := st.tk ++ t } d (r.shift st.tk.length)) K) : ACall E ops (.fn g caps) xs d l st K := ⟨hb, ys, hy, R, hc, h⟩
/-- A call that yields one value and nothing new. -/
theorem ACall.one {g : FuncId} {caps xs ys : List AV} {x : AV} (hc : ACalls E g ys fun r t => r = x ∧ t = []) (hb : callable E.P g = true) (hy : cleanArgs (xs ++ caps) = some ys)
    (h : AList E ops l (st.put d (x.shift st.tk.length)) K) : ACall E ops (.fn g caps) xs d l st K := ACall.of hc hb hy fun r t ⟨h1, h2⟩ => by
  subst h1; subst h2
  rw [List.append_nil]; exact h

variable {ty : TypeId} {pos : String} {after : Array Edge} {guard : Option (Nat × Bool)}
@[go_sem] theorem op_alloc {t : TypeId} : AOp1 E ops ⟨d, .alloc t, ty, pos, after, guard⟩ l st K = AV2 (fun k => AAllocD E.P t d st k) E ops d l K := rfl
@[go_sem] theorem op_box {t : TypeId} {x : Operand} : AOp1 E ops ⟨d, .box t x, ty, pos, after, guard⟩ l st K = AV2 (fun k => ABox (st.ev x) st k) E ops d l K := rfl
@[go_sem] theorem op_store {t : TypeId} {x y : Operand} : AOp1 E ops ⟨d, .store t x y, ty, pos, after, guard⟩ l st K = AV3 (fun k => AStore E.P t (st.ev x) (st.ev y) st k) E ops d l K := rfl
@[go_sem] theorem op_mkslice {t : TypeId} {n : Nat} {ps : Array (Nat × Operand)} : AOp1 E ops ⟨d, .buildSlice t n ps, ty, pos, after, guard⟩ l st K = AV2 (fun k => AMkSlice E.P t n (evParts st ps) st k) E ops d l K := rfl
@[go_sem] theorem op_convert {s t : TypeId} {x : Operand} : AOp1 E ops ⟨d, .convert s t x, ty, pos, after, guard⟩ l st K = AConvO (E.P.underlying t) E ops ⟨d, .convert s t x, ty, pos, after, guard⟩ s t x l st K := by
  simp only [AOp1, AOp, AConvO]
  generalize E.P.underlying t = u
  cases u with
  | none => rfl
  | some u => cases u <;> rfl
@[go_sem] theorem op_append {t tx : TypeId} {x y : Operand} : AOp1 E ops ⟨d, .call ⟨.builtin .append, #[x, y], #[t, tx]⟩, ty, pos, after, guard⟩ l st K = AV2 (fun k => AAppend E.P t tx (st.ev x) (st.ev y) st k) E ops d l K := rfl
@[go_sem] theorem op_call {f : Operand} {xs : Array Operand} {ts : Array TypeId} : AOp1 E ops ⟨d, .call ⟨.value f, xs, ts⟩, ty, pos, after, guard⟩ l st K = ACall E ops (st.ev f) (xs.toList.map st.ev) d l st K := rfl
@[go_sem] theorem op_len {xs : Array Operand} {ts : Array TypeId} : AOp1 E ops ⟨d, .call ⟨.builtin .len, xs, ts⟩, ty, pos, after, guard⟩ l st K = AV1 (fun k => ALight E.P st (.call ⟨.builtin .len, xs, ts⟩) k) E ops d l st K := rfl
@[go_sem] theorem op_min {xs : Array Operand} {ts : Array TypeId} : AOp1 E ops ⟨d, .call ⟨.builtin .min, xs, ts⟩, ty, pos, after, guard⟩ l st K = AV1 (fun k => ALight E.P st (.call ⟨.builtin .min, xs, ts⟩) k) E ops d l st K := rfl
@[go_sem] theorem op_max {xs : Array Operand} {ts : Array TypeId} : AOp1 E ops ⟨d, .call ⟨.builtin .max, xs, ts⟩, ty, pos, after, guard⟩ l st K = AV1 (fun k => ALight E.P st (.call ⟨.builtin .max, xs, ts⟩) k) E ops d l st K := rfl
@[go_sem] theorem op_move {x : Operand} : AOp1 E ops ⟨d, .move x, ty, pos, after, guard⟩ l st K = AV1 (fun k => ALight E.P st (.move x) k) E ops d l st K := rfl
@[go_sem] theorem op_assign {x : Operand} : AOp1 E ops ⟨d, .assign x, ty, pos, after, guard⟩ l st K = AV1 (fun k => ALight E.P st (.assign x) k) E ops d l st K := rfl
@[go_sem] theorem op_pick {x y z : Operand} : AOp1 E ops ⟨d, .pick x y z, ty, pos, after, guard⟩ l st K = AV1 (fun k => ALight E.P st (.pick x y z) k) E ops d l st K := rfl
@[go_sem] theorem op_load {t : TypeId} {x : Operand} : AOp1 E ops ⟨d, .load t x, ty, pos, after, guard⟩ l st K = AV1 (fun k => ALight E.P st (.load t x) k) E ops d l st K := rfl
@[go_sem] theorem op_nilCheck {x : Operand} : AOp1 E ops ⟨d, .nilCheck x, ty, pos, after, guard⟩ l st K = AV1 (fun k => ALight E.P st (.nilCheck x) k) E ops d l st K := rfl
@[go_sem] theorem op_binOp {b : BinOp} {t : TypeId} {x y : Operand} {u : TypeId} : AOp1 E ops ⟨d, .binOp b t x y u, ty, pos, after, guard⟩ l st K = AV1 (fun k => ALight E.P st (.binOp b t x y u) k) E ops d l st K := rfl
@[go_sem] theorem op_unOp {u : UnOp} {t : TypeId} {x : Operand} : AOp1 E ops ⟨d, .unOp u t x, ty, pos, after, guard⟩ l st K = AV1 (fun k => ALight E.P st (.unOp u t x) k) E ops d l st K := rfl
@[go_sem] theorem op_slice {t : TypeId} {x : Operand} {lo hi mx : Option Operand} : AOp1 E ops ⟨d, .slice t x lo hi mx, ty, pos, after, guard⟩ l st K = AV1 (fun k => ALight E.P st (.slice t x lo hi mx) k) E ops d l st K := rfl
@[go_sem] theorem op_fieldAddr {t : TypeId} {x : Operand} {f : Nat} : AOp1 E ops ⟨d, .fieldAddr t x f, ty, pos, after, guard⟩ l st K = AV1 (fun k => ALight E.P st (.fieldAddr t x f) k) E ops d l st K := rfl
@[go_sem] theorem op_field {t : TypeId} {x : Operand} {f : Nat} : AOp1 E ops ⟨d, .field t x f, ty, pos, after, guard⟩ l st K = AV1 (fun k => ALight E.P st (.field t x f) k) E ops d l st K := rfl
@[go_sem] theorem op_indexAddr {t : TypeId} {x i : Operand} : AOp1 E ops ⟨d, .indexAddr t x i, ty, pos, after, guard⟩ l st K = AV1 (fun k => ALight E.P st (.indexAddr t x i) k) E ops d l st K := rfl
@[go_sem] theorem op_index {t : TypeId} {x i : Operand} : AOp1 E ops ⟨d, .index t x i, ty, pos, after, guard⟩ l st K = AV1 (fun k => ALight E.P st (.index t x i) k) E ops d l st K := rfl
@[go_sem] theorem op_extract {x : Operand} {i : Nat} : AOp1 E ops ⟨d, .extract x i, ty, pos, after, guard⟩ l st K = AV1 (fun k => ALight E.P st (.extract x i) k) E ops d l st K := rfl
@[go_sem] theorem op_build {t : TypeId} {ps : Array (Nat × Operand)} : AOp1 E ops ⟨d, .build t ps, ty, pos, after, guard⟩ l st K = AV1 (fun k => ALight E.P st (.build t ps) k) E ops d l st K := rfl
@[go_sem] theorem op_makeInterface {t : TypeId} {x : Operand} : AOp1 E ops ⟨d, .makeInterface t x, ty, pos, after, guard⟩ l st K = AV1 (fun k => ALight E.P st (.makeInterface t x) k) E ops d l st K := rfl
@[go_sem] theorem op_makeFunc {f : Fn} {a b : Array Operand} : AOp1 E ops ⟨d, .makeFunc f a b, ty, pos, after, guard⟩ l st K = AV1 (fun k => ALight E.P st (.makeFunc f a b) k) E ops d l st K := rfl
end

theorem aplan_take {i : Nat} {E : Env} {ops : Array Oper} {st : St} {K : St → Prop} {p : Plan} {o : Oper} (h : ops[i]? = some o) :
    APlan E ops K (.take i p) st = ∃ b, AWant ops o st = some b ∧ (b = true → AOp E o st fun s => APlan E ops K p s) ∧ (b = false → APlan E ops K p (st.put o.dst (.v undef))) := by
  show AStep E ops i (APlan E ops K p) st = _
  unfold AStep; rw [h]
theorem astep_list {E : Env} {ops : Array Oper} {i : Nat} {C : St → Prop} {st : St} : AStep E ops i C st = AList E ops (ops[i]?).toList st C := by
  unfold AStep
  cases ops[i]? <;> rfl
@[go_sem] theorem ap_done {E : Env} {ops : Array Oper} {st : St} {K : St → Prop} : APlan E ops K .done st = K st := rfl
@[go_sem] theorem ap_take {E : Env} {ops : Array Oper} {st : St} {K : St → Prop} {i : Nat} {p : Plan} : APlan E ops K (.take i p) st = AList E ops (ops[i]?).toList st (APlan E ops K p) := astep_list
@[go_sem] theorem ap_fork {E : Env} {ops : Array Oper} {st : St} {K : St → Prop} {p : Plan} : APlan E ops K (.fork p) st = APlan E ops K p st := rfl
@[go_sem] theorem ap_alt {E : Env} {ops : Array Oper} {st : St} {K : St → Prop} {i : Nat} {p r : Plan} : APlan E ops K (.alt i p r) st = (AList E ops (ops[i]?).toList st (APlan E ops K p) ∧ APlan E ops K r st) := by
  rw [← astep_list]; rfl
@[go_sem] theorem ap_ends {E : Env} {ops : Array Oper} {st : St} {K : St → Prop} : APlan E ops K .ends st = True := rfl
attribute [go_sem] and_self Done St.keep mkRsv Option.toList_some Option.toList_none

/-- A plan that only takes. -/
def Plan.ofList : List Nat → Plan
  | [] => .done
  | i :: is => .take i (Plan.ofList is)
def nthO : List Oper → Nat → Option Oper
  | [], _ => none
  | x :: _, 0 => some x
  | _ :: xs, n + 1 => nthO xs n
theorem nthO_eq : ∀ (l : List Oper) (n : Nat), nthO l n = l[n]?
  | [], _ => by simp [nthO]
  | _ :: _, 0 => rfl
  | _ :: xs, n + 1 => by simp [nthO, nthO_eq xs n]
def pickOps (ops : List Oper) : List Nat → Option (List Oper)
  | [] => some []
  | i :: is => match nthO ops i, pickOps ops is with
    | some o, some l => some (o :: l)
    | _, _ => none
theorem aplan_list {E : Env} {ops : List Oper} {K : St → Prop} : ∀ {is : List Nat} {l : List Oper} {st : St}, pickOps ops is = some l → AList E ops.toArray l st K → APlan E ops.toArray K (Plan.ofList is) st
  | [], l, st, h, hl => by
    simp only [pickOps, Option.some.injEq] at h; subst h; exact hl
  | i :: is, l, st, h, hl => by
    simp only [pickOps] at h
    split at h
    · rename_i o l' h1 h2
      simp only [Option.some.injEq] at h; subst h
      show APlan E ops.toArray K (.take i (Plan.ofList is)) st
      rw [nthO_eq] at h1
      rw [aplan_take (o := o) (by simpa using h1)]
      obtain ⟨b, h3, h4, h5⟩ := hl
      exact ⟨b, h3, fun hb => aop_mono (h4 hb) fun s hs => aplan_list h2 hs, fun hb => aplan_list h2 (h5 hb)⟩
    · simp at h
theorem AWP.regionAs {E : Env} {st : St} {id : Nat} {l : List Oper} {Q : Exit → St → Prop} (is : List Nat) (anc : List (List Nat)) (ds : List Tmp) (hm : E.P.follows .mixedOrders = true)
    (hx : (listedOK l.toArray anc && planOK E.P l.toArray anc true (Plan.ofList is) (Array.replicate l.toArray.size false) l.toArray.size) = true) (hd : ds.Nodup) {l' : List Oper} (hl : pickOps l is = some l') (h : AList E l.toArray l' (st.keep ds) (Done (Q .normal))) : AWP E (.region id l.toArray true) Q st :=
  AWP.regionAny (Plan.ofList is) anc ds hm hx hd (aplan_list hl h)

theorem b_beq_true (b : Bool) : (b == true) = b := by cases b <;> rfl
theorem b_beq_false (b : Bool) : (b == false) = !b := by cases b <;> rfl
attribute [go_sem] b_beq_true b_beq_false Option.getD_some Option.getD_none List.getElem?_nil Nat.succ_eq_add_one
/-- What is looked for, ahead of what follows. -/
def AGet {α : Type} (f : Option α) (p : α → Prop) : Prop := ∃ y, f = some y ∧ p y
@[congr] theorem AGet.congr {α : Type} {f g : Option α} {p : α → Prop} (h : f = g) : AGet f p = AGet g p := by rw [h]
@[go_sem] theorem AGet.some {α : Type} {a : α} {p : α → Prop} : AGet (some a) p = p a := by simp [AGet]
@[go_sem] theorem AGet.none {α : Type} {p : α → Prop} : AGet (none : Option α) p = False := by simp [AGet]
@[go_sem ↓] theorem to_get {α : Type} {f : Option α} {p : α → Prop} : (∃ y, f = Option.some y ∧ p y) = AGet f p := rfl
def AGet2 {α : Type} (f : Option (Option α)) (p : α → Prop) : Prop := ∃ y, f = some (some y) ∧ p y
@[congr] theorem AGet2.congr {α : Type} {f g : Option (Option α)} {p : α → Prop} (h : f = g) : AGet2 f p = AGet2 g p := by rw [h]
@[go_sem] theorem AGet2.some {α : Type} {a : α} {p : α → Prop} : AGet2 (some (some a)) p = p a := by simp [AGet2]
@[go_sem ↓] theorem to_get2 {α : Type} {f : Option (Option α)} {p : α → Prop} : (∃ y, f = Option.some (Option.some y) ∧ p y) = AGet2 f p := rfl

theorem nn_int {k : IntKind} {n : Int} : (AV.v (.int k n) = AV.v .nilIface) = False := by simp
theorem nn_bool {b : Bool} : (AV.v (.bool b) = AV.v .nilIface) = False := by simp
theorem nn_str {s : ByteArray} : (AV.v (.string s) = AV.v .nilIface) = False := by simp
theorem nn_agg {cs : List AV} : (AV.agg cs = AV.v .nilIface) = False := by simp
theorem nn_nilS : (AV.nilS = AV.v .nilIface) = False := by simp
theorem nn_sl {t : Option Nat} {k : Nat} {es : List AV} : (AV.sl t k es = AV.v .nilIface) = False := by simp
theorem nn_iface {t : TypeId} {v : Value} : (AV.v (.iface t v) = AV.v .nilIface) = False := by simp
theorem nn_ptr {i j k : Nat} : (AV.ptr i j k = AV.v .nilIface) = False := by simp
theorem ex_const {x : Value} : (∃ z, Operand.const x = Operand.const z) = True := by simp
theorem ex_some2 {α : Type} {a : α} {p : α → Prop} : (∃ y, some (some a) = some (some y) ∧ p y) ↔ p a := by simp
@[go_sem] theorem ex_any {α : Type} {a : α} : (∃ y, some a = some y) = True := by simp
theorem AStore_eq {P : Program} {t : TypeId} {id idx off : Nat} {x : AV} {st : St} {K : St → Prop} : AStore P t (.ptr id idx off) x st K ↔
    ∃ n, tsz P t = some n ∧ ∃ es, st.own[id]? = some (some es) ∧ ∃ e, es[idx]? = some e ∧ x.plain = true ∧ x.leaves.all AV.leafy = true ∧ x.leaves.length = n ∧ off + n ≤ e.leaves.length ∧
      K { st with own := st.own.set id (some (es.set idx (stEl e off x))) } := by
  constructor
  · rintro ⟨n, es, e, h1, h2, h3, h4⟩; exact ⟨n, h1, es, h2, e, h3, h4⟩
  · rintro ⟨n, h1, es, h2, e, h3, h4⟩; exact ⟨n, es, e, h1, h2, h3, h4⟩
attribute [go_sem] aggD AConvO nn_int nn_bool nn_str nn_agg nn_nilS nn_sl nn_iface nn_ptr ex_const ex_some2 AStore_eq Bool.not_not Nat.reduceEqDiff Nat.reduceMul Int.reduceToNat Int.reduceLE Int.reduceLT Nat.reduceLeDiff Int.cast_ofNat_Int
  Nat.one_ne_zero Int.reduceNeg Nat.succ_ne_zero Int.reduceEq Int.reduceNe Bool.false_eq_true Bool.true_eq_false Int.reduceAdd Int.reduceSub Int.zero_le_ofNat Int.toNat_zero Nat.zero_mul Nat.mul_one Nat.zero_le Nat.reduceLT
  Bool.not_eq_true' Bool.not_eq_false'
end Go.Abs
