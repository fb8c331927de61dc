/- Books: what orders, executions, fills are; what is done with them. No program. -/
set_option linter.unusedVariables false
namespace Go.Bk
abbrev Bs := List UInt8
structure Od where
  id : Bs
  acc : Bs
  sym : Bs
  buy : Bool
  qty : Int
  price : Int
  done : Int
  opn : Bool
  deriving DecidableEq
structure Ex where
  id : Bs
  ref : Bs
  ord : Bs
  acc : Bs
  sym : Bs
  kind : Int
  buy : Bool
  qty : Int
  price : Int
  time : Int
  deriving DecidableEq
structure Dn where
  id : Bs
  ord : Bs
  acc : Bs
  sym : Bs
  buy : Bool
  qty : Int
  price : Int
  time : Int
  live : Bool
  deriving DecidableEq
structure Bk where
  orders : List Od
  fills : List Dn
  ids : List Bs
  clock : Int
  bad : Int
  deriving DecidableEq

def isName (c : UInt8) : Bool := (decide (65 ≤ c.toNat) && decide (c.toNat ≤ 90)) || (decide (97 ≤ c.toNat) && decide (c.toNat ≤ 122)) || (decide (48 ≤ c.toNat) && decide (c.toNat ≤ 57))
def nameB (s : Bs) : Bool := decide (1 ≤ s.length) && decide (s.length ≤ 16) && s.all isName
def smallB (n : Int) : Bool := decide (0 ≤ n) && decide (n ≤ 1099511627776)
def whenB (n : Int) : Bool := decide (0 ≤ n) && decide (n ≤ 4611686018427387904)
def execB (x : Ex) : Bool :=
  nameB x.id && nameB x.ord && nameB x.acc && nameB x.sym &&
  (if x.kind = 4 ∨ x.kind = 7 ∨ x.kind = 8 then nameB x.ref else if x.kind = 1 ∨ x.kind = 2 ∨ x.kind = 3 ∨ x.kind = 5 ∨ x.kind = 6 then decide (x.ref = []) else false) &&
  smallB x.qty && smallB x.price && whenB x.time

def namedB (s : Bs) : Bool := decide (s ≠ []) && decide (s.length ≤ 16)
def mayB (o : Od) : Bool := namedB o.id && namedB o.acc && namedB o.sym && smallB o.qty && smallB o.price && decide (0 ≤ o.done) && decide (o.done ≤ o.qty)
/-- The place of an order. -/
def placeF (l : List Od) (id : Bs) : Option Nat := l.findIdx? (fun o => decide (o.id = id))
def placeI (l : List Od) (id : Bs) : Int := match placeF l id with | some n => n | none => -1
/-- All that are there may be, and none has the name of one ahead of it. -/
def rightGo (l : List Od) (n : Nat) : Bool := (List.range n).all fun i => match l[i]? with | some o => mayB o && (placeF (l.take i) o.id).isNone | none => true
def rightO (l : List Od) : Bool := decide (l.length ≤ 64) && rightGo l l.length
def openI (l : List Od) (id : Bs) : Int := match placeF l id with
  | some n => match l[n]? with | some o => if o.opn then n else -1 | none => -1
  | none => -1
def leftF (o : Od) : Int := if mayB o && o.opn then o.qty - o.done else 0
def fairF (o : Od) (price : Int) : Bool := smallB price && (if o.buy then decide (price ≤ o.price) else decide (o.price ≤ price))
def zeroO : Od := ⟨[], [], [], false, 0, 0, 0, false⟩
def findF (l : List Od) (id : Bs) : Od × Bool := if rightO l then match placeF l id with
    | some n => (l.getD n zeroO, true)
    | none => (zeroO, false)
  else (zeroO, false)

theorem get_lt {α : Type} {l : List α} {i : Nat} {b : α} (h : l[i]? = some b) : i < l.length := by
  rcases Nat.lt_or_ge i l.length with h' | h'
  · exact h'
  · rw [List.getElem?_eq_none h'] at h; simp at h
theorem take_next {α : Type} {l : List α} {i : Nat} {b : α} (h : l[i]? = some b) : l.take (i + 1) = l.take i ++ [b] := by
  have hi : i < l.length := by
    rcases Nat.lt_or_ge i l.length with h' | h'
    · exact h'
    · rw [List.getElem?_eq_none h'] at h; simp at h
  rw [List.getElem?_eq_getElem hi, Option.some.injEq] at h
  rw [List.take_add_one, List.getElem?_eq_getElem hi, h]; rfl
theorem all_next {α : Type} {l : List α} {p : α → Bool} {i : Nat} {b : α} (h : l[i]? = some b) (h1 : (l.take i).all p = true) (h2 : p b = true) : (l.take (i + 1)).all p = true := by
  rw [take_next h, List.all_append, h1]; simp [h2]
theorem name_no1 {s : Bs} (h : ¬ (1 ≤ s.length ∧ s.length ≤ 16)) : nameB s = false := by
  unfold nameB
  by_cases h1 : 1 ≤ s.length
  · have : ¬ s.length ≤ 16 := fun h2 => h ⟨h1, h2⟩
    simp [this]
  · simp [h1]
theorem name_no2 {s : Bs} {i : Nat} {b : UInt8} (hb : s[i]? = some b) (h : isName b = false) : nameB s = false := by
  have : s.all isName = false := by
    cases ha : s.all isName with
    | false => rfl
    | true => rw [List.all_eq_true.1 ha b (List.mem_of_getElem? hb)] at h; simp at h
  unfold nameB; rw [this]; simp
theorem name_yes {s : Bs} {i : Nat} (h : 1 ≤ s.length ∧ s.length ≤ 16) (hi : s.length ≤ i) (ha : (s.take i).all isName = true) : nameB s = true := by
  rw [List.take_of_length_le hi] at ha
  unfold nameB; rw [ha]; simp [h.1, h.2]
end Go.Bk
