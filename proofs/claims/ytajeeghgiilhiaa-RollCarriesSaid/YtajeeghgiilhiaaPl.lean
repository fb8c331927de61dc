/- The layer, the plain facts: several texts of one chain, put together (BkA, BkB, BkC, BkD, BkE, BkF). -/

/- Books: what orders, executions, fills are; what is done with them. No program. -/
set_option linter.unusedVariables false
namespace Go.Bk
abbrev Bs := List UInt8
structure Od where
  id : Bs
  acc : Bs
  sym : Bs
  buy : Bool
  qty : Int
  price : Int
  done : Int
  opn : Bool
  deriving DecidableEq
structure Ex where
  id : Bs
  ref : Bs
  ord : Bs
  acc : Bs
  sym : Bs
  kind : Int
  buy : Bool
  qty : Int
  price : Int
  time : Int
  deriving DecidableEq
structure Dn where
  id : Bs
  ord : Bs
  acc : Bs
  sym : Bs
  buy : Bool
  qty : Int
  price : Int
  time : Int
  live : Bool
  deriving DecidableEq
structure Bk where
  orders : List Od
  fills : List Dn
  ids : List Bs
  clock : Int
  bad : Int
  deriving DecidableEq

def isName (c : UInt8) : Bool := (decide (65 ≤ c.toNat) && decide (c.toNat ≤ 90)) || (decide (97 ≤ c.toNat) && decide (c.toNat ≤ 122)) || (decide (48 ≤ c.toNat) && decide (c.toNat ≤ 57))
def nameB (s : Bs) : Bool := decide (1 ≤ s.length) && decide (s.length ≤ 16) && s.all isName
def smallB (n : Int) : Bool := decide (0 ≤ n) && decide (n ≤ 1099511627776)
def whenB (n : Int) : Bool := decide (0 ≤ n) && decide (n ≤ 4611686018427387904)
def execB (x : Ex) : Bool :=
  nameB x.id && nameB x.ord && nameB x.acc && nameB x.sym &&
  (if x.kind = 4 ∨ x.kind = 7 ∨ x.kind = 8 then nameB x.ref else if x.kind = 1 ∨ x.kind = 2 ∨ x.kind = 3 ∨ x.kind = 5 ∨ x.kind = 6 then decide (x.ref = []) else false) &&
  smallB x.qty && smallB x.price && whenB x.time

def namedB (s : Bs) : Bool := decide (s ≠ []) && decide (s.length ≤ 16)
def mayB (o : Od) : Bool := namedB o.id && namedB o.acc && namedB o.sym && smallB o.qty && smallB o.price && decide (0 ≤ o.done) && decide (o.done ≤ o.qty)
/-- The place of an order. -/
def placeF (l : List Od) (id : Bs) : Option Nat := l.findIdx? (fun o => decide (o.id = id))
def placeI (l : List Od) (id : Bs) : Int := match placeF l id with | some n => n | none => -1
/-- All that are there may be, and none has the name of one ahead of it. -/
def rightGo (l : List Od) (n : Nat) : Bool := (List.range n).all fun i => match l[i]? with | some o => mayB o && (placeF (l.take i) o.id).isNone | none => true
def rightO (l : List Od) : Bool := decide (l.length ≤ 64) && rightGo l l.length
def openI (l : List Od) (id : Bs) : Int := match placeF l id with
  | some n => match l[n]? with | some o => if o.opn then n else -1 | none => -1
  | none => -1
def leftF (o : Od) : Int := if mayB o && o.opn then o.qty - o.done else 0
def fairF (o : Od) (price : Int) : Bool := smallB price && (if o.buy then decide (price ≤ o.price) else decide (o.price ≤ price))
def zeroO : Od := ⟨[], [], [], false, 0, 0, 0, false⟩
def findF (l : List Od) (id : Bs) : Od × Bool := if rightO l then match placeF l id with
    | some n => (l.getD n zeroO, true)
    | none => (zeroO, false)
  else (zeroO, false)

theorem get_lt {α : Type} {l : List α} {i : Nat} {b : α} (h : l[i]? = some b) : i < l.length := by
  rcases Nat.lt_or_ge i l.length with h' | h'
  · exact h'
  · rw [List.getElem?_eq_none h'] at h; simp at h
theorem take_next {α : Type} {l : List α} {i : Nat} {b : α} (h : l[i]? = some b) : l.take (i + 1) = l.take i ++ [b] := by
  have hi : i < l.length := by
    rcases Nat.lt_or_ge i l.length with h' | h'
    · exact h'
    · rw [List.getElem?_eq_none h'] at h; simp at h
  rw [List.getElem?_eq_getElem hi, Option.some.injEq] at h
  rw [List.take_add_one, List.getElem?_eq_getElem hi, h]; rfl
theorem all_next {α : Type} {l : List α} {p : α → Bool} {i : Nat} {b : α} (h : l[i]? = some b) (h1 : (l.take i).all p = true) (h2 : p b = true) : (l.take (i + 1)).all p = true := by
  rw [take_next h, List.all_append, h1]; simp [h2]
theorem name_no1 {s : Bs} (h : ¬ (1 ≤ s.length ∧ s.length ≤ 16)) : nameB s = false := by
  unfold nameB
  by_cases h1 : 1 ≤ s.length
  · have : ¬ s.length ≤ 16 := fun h2 => h ⟨h1, h2⟩
    simp [this]
  · simp [h1]
theorem name_no2 {s : Bs} {i : Nat} {b : UInt8} (hb : s[i]? = some b) (h : isName b = false) : nameB s = false := by
  have : s.all isName = false := by
    cases ha : s.all isName with
    | false => rfl
    | true => rw [List.all_eq_true.1 ha b (List.mem_of_getElem? hb)] at h; simp at h
  unfold nameB; rw [this]; simp
theorem name_yes {s : Bs} {i : Nat} (h : 1 ≤ s.length ∧ s.length ≤ 16) (hi : s.length ≤ i) (ha : (s.take i).all isName = true) : nameB s = true := by
  rw [List.take_of_length_le hi] at ha
  unfold nameB; rw [ha]; simp [h.1, h.2]
end Go.Bk

/- Orders: places, and what is done with a list. No program. -/
set_option linter.unusedVariables false
set_option linter.unusedSimpArgs false
namespace Go.Bk
theorem placeF_some {l : List Od} {id : Bs} {n : Nat} (h : placeF l id = some n) : ∃ o, l[n]? = some o ∧ o.id = id ∧ ∀ k o', k < n → l[k]? = some o' → o'.id ≠ id := by
  unfold placeF at h
  obtain ⟨hn, h1, h2⟩ := List.findIdx?_eq_some_iff_getElem.1 h
  refine ⟨l[n], List.getElem?_eq_getElem hn, by simpa using h1, fun k o' hk ho => ?_⟩
  have hk' : k < l.length := by omega
  rw [List.getElem?_eq_getElem hk', Option.some.injEq] at ho
  have := h2 k hk
  rw [ho] at this
  simpa using this
theorem placeF_of {l : List Od} {id : Bs} {n : Nat} {o : Od} (h1 : l[n]? = some o) (h2 : o.id = id) (h3 : (l.take n).all (fun o => !decide (o.id = id)) = true) : placeF l id = some n := by
  have hn : n < l.length := by
    rcases Nat.lt_or_ge n l.length with h' | h'
    · exact h'
    · rw [List.getElem?_eq_none h'] at h1; simp at h1
  rw [List.getElem?_eq_getElem hn, Option.some.injEq] at h1
  unfold placeF
  refine List.findIdx?_eq_some_iff_getElem.2 ⟨hn, by rw [h1]; simpa using h2, fun j hj => ?_⟩
  have hm : l[j] ∈ l.take n := List.mem_iff_getElem?.2 ⟨j, by rw [List.getElem?_take, if_pos hj, List.getElem?_eq_getElem]⟩
  have := List.all_eq_true.1 h3 _ hm
  simpa using this
theorem placeF_none {l : List Od} {id : Bs} {i : Nat} (hi : l.length ≤ i) (h3 : (l.take i).all (fun o => !decide (o.id = id)) = true) : placeF l id = none := by
  rw [List.take_of_length_le hi] at h3
  unfold placeF
  rw [List.findIdx?_eq_none_iff]
  intro x hx
  have := List.all_eq_true.1 h3 x hx
  simpa using this
theorem placeI_of {l : List Od} {id : Bs} {n : Nat} {o : Od} (h1 : l[n]? = some o) (h2 : o.id = id) (h3 : (l.take n).all (fun o => !decide (o.id = id)) = true) : placeI l id = n := by
  unfold placeI; rw [placeF_of h1 h2 h3]
theorem placeI_none {l : List Od} {id : Bs} {i : Nat} (hi : l.length ≤ i) (h3 : (l.take i).all (fun o => !decide (o.id = id)) = true) : placeI l id = -1 := by
  unfold placeI; rw [placeF_none hi h3]
theorem placeI_cases (l : List Od) (id : Bs) : (placeI l id = -1 ∧ placeF l id = none) ∨ ∃ n o, placeI l id = (n : Nat) ∧ placeF l id = some n ∧ l[n]? = some o := by
  unfold placeI
  cases h : placeF l id with
  | none => exact .inl ⟨rfl, rfl⟩
  | some n =>
    obtain ⟨o, h1, _⟩ := placeF_some h
    exact .inr ⟨n, o, rfl, rfl, h1⟩
def okAt (l : List Od) (i : Nat) : Bool := match l[i]? with | some o => mayB o && (placeF (l.take i) o.id).isNone | none => true
theorem rightGo_eq (l : List Od) (n : Nat) : rightGo l n = (List.range n).all (okAt l) := rfl
theorem rightGo_next {l : List Od} {n : Nat} (h : rightGo l n = true) (h2 : okAt l n = true) : rightGo l (n + 1) = true := by
  rw [rightGo_eq, List.range_succ, List.all_append, ← rightGo_eq, h]; simp [h2]
theorem right_no1 {l : List Od} (h : ¬ l.length ≤ 64) : rightO l = false := by unfold rightO; simp [h]
theorem right_no2 {l : List Od} {n : Nat} (hn : n < l.length) (h2 : okAt l n = false) : rightO l = false := by
  have : rightGo l l.length = false := by
    cases h : rightGo l l.length with
    | false => rfl
    | true => rw [rightGo_eq] at h; rw [List.all_eq_true.1 h n (List.mem_range.2 hn)] at h2; simp at h2
  unfold rightO; rw [this]; simp
theorem right_yes {l : List Od} {n : Nat} (hl : l.length ≤ 64) (hn : n = l.length) (h : rightGo l n = true) : rightO l = true := by
  subst hn; unfold rightO; rw [h]; simp [hl]
theorem okAt_no1 {l : List Od} {n : Nat} {o : Od} (h : l[n]? = some o) (h1 : mayB o = false) : okAt l n = false := by unfold okAt; rw [h]; simp [h1]
theorem okAt_no2 {l : List Od} {n : Nat} {o : Od} (h : l[n]? = some o) (h1 : 0 ≤ placeI (l.take n) o.id) : okAt l n = false := by
  unfold okAt; rw [h]
  rcases placeI_cases (l.take n) o.id with ⟨e, _⟩ | ⟨k, p, _, e, _⟩
  · omega
  · simp [e]
theorem okAt_yes {l : List Od} {n : Nat} {o : Od} (h : l[n]? = some o) (h1 : mayB o = true) (h2 : ¬ 0 ≤ placeI (l.take n) o.id) : okAt l n = true := by
  unfold okAt; rw [h]
  rcases placeI_cases (l.take n) o.id with ⟨_, e⟩ | ⟨k, p, e, _, _⟩
  · simp [h1, e]
  · omega
end Go.Bk

/- Orders: new, filled, closed, changed. No program. -/
set_option linter.unusedVariables false
set_option linter.unusedSimpArgs false
namespace Go.Bk
def openF (l : List Od) (id : Bs) : Option Nat := match placeF l id with
  | some n => if (l.getD n zeroO).opn then some n else none
  | none => none
def newO (l : List Od) (o : Od) : List Od × Int :=
  if rightO l = false ∨ mayB { o with opn := true, done := 0 } = false then (l, 1)
  else if (placeF l o.id).isSome then (l, 7)
  else if 64 ≤ l.length then (l, 5)
  else (l ++ [{ o with opn := true, done := 0 }], 0)
def closeO (l : List Od) (id : Bs) : List Od × Int :=
  if rightO l = false then (l, 1) else match openF l id with
  | none => (l, 6)
  | some n => (l.set n { l.getD n zeroO with opn := false }, 0)
def fillO (l : List Od) (id : Bs) (q p : Int) : List Od × Int :=
  if rightO l = false then (l, 1) else match openF l id with
  | none => (l, 6)
  | some n =>
    let o := l.getD n zeroO
    if q < 1 ∨ leftF o < q then (l, 1)
    else if fairF o p = false then (l, 9)
    else (l.set n { o with done := o.done + q, opn := decide (o.done + q < o.qty) }, 0)
def changeO (l : List Od) (old id : Bs) (q p : Int) : List Od × Int :=
  if rightO l = false then (l, 1) else match openF l old with
  | none => (l, 6)
  | some n =>
    let o := l.getD n zeroO
    let o' := { o with id := id, qty := q, price := p, opn := decide (o.done < q) }
    if mayB o' = false then (l, 1)
    else if (placeF l id).isSome then (l, 7)
    else if 64 ≤ l.length then (l, 5)
    else (l.set n { o with opn := false } ++ [o'], 0)
theorem getD_of {l : List Od} {n : Nat} {o : Od} (h : l[n]? = some o) : l.getD n zeroO = o := by rw [List.getD_eq_getElem?_getD, h]; rfl
theorem open_cases (l : List Od) (id : Bs) : (openI l id = -1 ∧ openF l id = none) ∨ ∃ n o, openI l id = (n : Nat) ∧ openF l id = some n ∧ l[n]? = some o ∧ o.opn = true := by
  unfold openI openF
  cases h : placeF l id with
  | none => exact .inl ⟨rfl, rfl⟩
  | some n =>
    obtain ⟨o, h1, _⟩ := placeF_some h
    simp only [h1, getD_of h1]
    by_cases ho : o.opn = true
    · exact .inr ⟨n, o, by simp [ho], by simp [ho], h1, ho⟩
    · exact .inl ⟨by simp [ho], by simp [ho]⟩
theorem openI_no {l : List Od} {id : Bs} {n : Nat} {o : Od} (h : placeI l id = (n : Nat)) (h1 : l[n]? = some o) (h2 : o.opn = false) : openI l id = -1 := by
  rcases placeI_cases l id with ⟨e, _⟩ | ⟨k, p, e1, e2, e3⟩
  · omega
  · have : k = n := by omega
    subst this
    unfold openI; rw [e2]; simp [h1, h2]
theorem openI_yes {l : List Od} {id : Bs} {n : Nat} {o : Od} (h : placeI l id = (n : Nat)) (h1 : l[n]? = some o) (h2 : o.opn = true) : openI l id = n := by
  rcases placeI_cases l id with ⟨e, _⟩ | ⟨k, p, e1, e2, e3⟩
  · omega
  · have : k = n := by omega
    subst this
    unfold openI; rw [e2]; simp [h1, h2]
theorem openI_none {l : List Od} {id : Bs} (h : placeI l id < 0) : openI l id = placeI l id := by
  rcases placeI_cases l id with ⟨e, e2⟩ | ⟨k, p, e1, e2, e3⟩
  · unfold openI; rw [e2, e]
  · omega
theorem isSome_place {l : List Od} {id : Bs} : (placeF l id).isSome = decide (0 ≤ placeI l id) := by
  rcases placeI_cases l id with ⟨e, e2⟩ | ⟨k, p, e1, e2, e3⟩
  · rw [e2, e]; rfl
  · rw [e2, e1]; simp
theorem find_no1 {l : List Od} {id : Bs} (h : rightO l = false) : findF l id = (zeroO, false) := by unfold findF; simp [h]
theorem find_no2 {l : List Od} {id : Bs} (h1 : rightO l = true) (h : placeI l id < 0) : findF l id = (zeroO, false) := by
  rcases placeI_cases l id with ⟨e, e2⟩ | ⟨k, p, e1, e2, e3⟩
  · unfold findF; simp [h1, e2]
  · omega
theorem find_yes {l : List Od} {id : Bs} {n : Nat} {o : Od} (h1 : rightO l = true) (h : placeI l id = (n : Nat)) (h2 : l[n]? = some o) : findF l id = (o, true) := by
  rcases placeI_cases l id with ⟨e, e2⟩ | ⟨k, p, e1, e2, e3⟩
  · omega
  · have : k = n := by omega
    subst this
    unfold findF; simp [h1, e2, getD_of h2, h2]
end Go.Bk
namespace Go.Bk
theorem new_e1 {l : List Od} {o : Od} (h : rightO l = false) : (newO l o).2 = 1 := by unfold newO; simp [h]
theorem new_e1' {l : List Od} {o : Od} (h : mayB ⟨o.id, o.acc, o.sym, o.buy, o.qty, o.price, 0, true⟩ = false) : (newO l o).2 = 1 := by unfold newO; simp [h]
theorem new_e7 {l : List Od} {o : Od} (h1 : rightO l = true) (h2 : mayB ⟨o.id, o.acc, o.sym, o.buy, o.qty, o.price, 0, true⟩ = true) (h : 0 ≤ placeI l o.id) : (newO l o).2 = 7 := by unfold newO; simp [h1, h2, isSome_place, h]
theorem new_e5 {l : List Od} {o : Od} (h1 : rightO l = true) (h2 : mayB ⟨o.id, o.acc, o.sym, o.buy, o.qty, o.price, 0, true⟩ = true) (h3 : ¬ 0 ≤ placeI l o.id) (h : 64 ≤ l.length) : (newO l o).2 = 5 := by unfold newO; simp [h1, h2, isSome_place, h3, h]
theorem new_ok {l : List Od} {o : Od} (h1 : rightO l = true) (h2 : mayB ⟨o.id, o.acc, o.sym, o.buy, o.qty, o.price, 0, true⟩ = true) (h3 : ¬ 0 ≤ placeI l o.id) (h : ¬ 64 ≤ l.length) : newO l o = (l ++ [⟨o.id, o.acc, o.sym, o.buy, o.qty, o.price, 0, true⟩], 0) := by unfold newO; simp [h1, h2, isSome_place, h3, h]
theorem close_e1 {l : List Od} {id : Bs} (h : rightO l = false) : (closeO l id).2 = 1 := by unfold closeO; simp [h]
theorem close_e6 {l : List Od} {id : Bs} (h1 : rightO l = true) (h : openF l id = none) : (closeO l id).2 = 6 := by unfold closeO; simp [h1, h]
theorem close_ok {l : List Od} {id : Bs} {n : Nat} {o : Od} (h1 : rightO l = true) (h : openF l id = some n) (h2 : l[n]? = some o) : closeO l id = (l.set n ⟨o.id, o.acc, o.sym, o.buy, o.qty, o.price, o.done, false⟩, 0) := by unfold closeO; simp [h1, h, getD_of h2, h2]
theorem fill_e1 {l : List Od} {id : Bs} {q p : Int} (h : rightO l = false) : (fillO l id q p).2 = 1 := by unfold fillO; simp [h]
theorem fill_e6 {l : List Od} {id : Bs} {q p : Int} (h1 : rightO l = true) (h : openF l id = none) : (fillO l id q p).2 = 6 := by unfold fillO; simp [h1, h]
theorem fill_e1' {l : List Od} {id : Bs} {q p : Int} {n : Nat} {o : Od} (h1 : rightO l = true) (h : openF l id = some n) (h2 : l[n]? = some o) (h3 : q < 1 ∨ leftF o < q) : (fillO l id q p).2 = 1 := by unfold fillO; simp [h1, h, h2, h3]
theorem fill_e9 {l : List Od} {id : Bs} {q p : Int} {n : Nat} {o : Od} (h1 : rightO l = true) (h : openF l id = some n) (h2 : l[n]? = some o) (h3 : ¬ q < 1) (h4 : ¬ leftF o < q) (h5 : fairF o p = false) : (fillO l id q p).2 = 9 := by unfold fillO; simp [h1, h, h2, h3, h4, h5]
theorem fill_ok {l : List Od} {id : Bs} {q p : Int} {n : Nat} {o : Od} (h1 : rightO l = true) (h : openF l id = some n) (h2 : l[n]? = some o) (h3 : ¬ q < 1) (h4 : ¬ leftF o < q) (h5 : fairF o p = true) : fillO l id q p = (l.set n ⟨o.id, o.acc, o.sym, o.buy, o.qty, o.price, o.done + q, decide (o.done + q < o.qty)⟩, 0) := by unfold fillO; simp [h1, h, h2, h3, h4, h5]
theorem right_at {l : List Od} {n : Nat} {o : Od} (h : rightO l = true) (h2 : l[n]? = some o) : mayB o = true := by
  have hn : n < l.length := by
    rcases Nat.lt_or_ge n l.length with h' | h'
    · exact h'
    · rw [List.getElem?_eq_none h'] at h2; simp at h2
  unfold rightO at h
  simp only [Bool.and_eq_true] at h
  have := List.all_eq_true.1 h.2 n (List.mem_range.2 hn)
  rw [h2] at this
  simp only [Bool.and_eq_true] at this
  exact this.1
/-- What is added to an order is within its quantity. -/
theorem fill_room {o : Od} {q : Int} (h : mayB o = true) (h3 : ¬ q < 1) (h4 : ¬ leftF o < q) : 0 ≤ o.done ∧ 1 ≤ q ∧ o.done + q ≤ 1099511627776 := by
  have hm := h
  simp only [mayB, smallB, Bool.and_eq_true, decide_eq_true_eq] at hm
  by_cases ho : o.opn = true
  · have : leftF o = o.qty - o.done := by unfold leftF; simp [h, ho]
    omega
  · have : leftF o = 0 := by unfold leftF; simp [ho]
    omega
theorem right_len {l : List Od} (h : rightO l = true) : l.length ≤ 64 := by
  unfold rightO at h
  simp only [Bool.and_eq_true, decide_eq_true_eq] at h
  exact h.1
theorem change_e1 {l : List Od} {a b : Bs} {q p : Int} (h : rightO l = false) : (changeO l a b q p).2 = 1 := by unfold changeO; simp [h]
theorem change_e6 {l : List Od} {a b : Bs} {q p : Int} (h1 : rightO l = true) (h : openF l a = none) : (changeO l a b q p).2 = 6 := by unfold changeO; simp [h1, h]
theorem change_e1' {l : List Od} {a b : Bs} {q p : Int} {n : Nat} {o : Od} (h1 : rightO l = true) (h : openF l a = some n) (h2 : l[n]? = some o) (h3 : mayB ⟨b, o.acc, o.sym, o.buy, q, p, o.done, decide (o.done < q)⟩ = false) : (changeO l a b q p).2 = 1 := by unfold changeO; simp [h1, h, h2, h3]
theorem change_e7 {l : List Od} {a b : Bs} {q p : Int} {n : Nat} {o : Od} (h1 : rightO l = true) (h : openF l a = some n) (h2 : l[n]? = some o) (h3 : mayB ⟨b, o.acc, o.sym, o.buy, q, p, o.done, decide (o.done < q)⟩ = true) (h4 : 0 ≤ placeI l b) : (changeO l a b q p).2 = 7 := by unfold changeO; simp [h1, h, h2, h3, isSome_place, h4]
theorem change_e5 {l : List Od} {a b : Bs} {q p : Int} {n : Nat} {o : Od} (h1 : rightO l = true) (h : openF l a = some n) (h2 : l[n]? = some o) (h3 : mayB ⟨b, o.acc, o.sym, o.buy, q, p, o.done, decide (o.done < q)⟩ = true) (h4 : ¬ 0 ≤ placeI l b) (h5 : 64 ≤ l.length) : (changeO l a b q p).2 = 5 := by unfold changeO; simp [h1, h, h2, h3, isSome_place, h4, h5]
theorem change_ok {l : List Od} {a b : Bs} {q p : Int} {n : Nat} {o : Od} (h1 : rightO l = true) (h : openF l a = some n) (h2 : l[n]? = some o) (h3 : mayB ⟨b, o.acc, o.sym, o.buy, q, p, o.done, decide (o.done < q)⟩ = true) (h4 : ¬ 0 ≤ placeI l b) (h5 : ¬ 64 ≤ l.length) : changeO l a b q p = (l.set n ⟨o.id, o.acc, o.sym, o.buy, o.qty, o.price, o.done, false⟩ ++ [⟨b, o.acc, o.sym, o.buy, q, p, o.done, decide (o.done < q)⟩], 0) := by unfold changeO; simp [h1, h, h2, h3, isSome_place, h4, h5]
theorem open_none {l : List Od} {id : Bs} (h : openI l id < 0) : openF l id = none := by
  rcases open_cases l id with ⟨_, e⟩ | ⟨n, o, e, _⟩
  · exact e
  · omega
end Go.Bk

/- Books: what comes of an execution. No program. -/
set_option linter.unusedVariables false
set_option linter.unusedSimpArgs false
namespace Go.Bk
def atF (l : List Dn) (id : Bs) : Option Nat := l.findIdx? (fun f => decide (f.id = id))
def atI (l : List Dn) (id : Bs) : Int := match atF l id with | some n => n | none => -1
def idI (l : List Bs) (id : Bs) : Int := match l.findIdx? (fun s => decide (id = s)) with | some n => n | none => -1
def hasF (l : List Bs) (id : Bs) : Bool := decide (0 ≤ idI l id)
def zeroD : Dn := ⟨[], [], [], [], false, 0, 0, 0, false⟩
/-- A fill is busted or corrected; what is wrong (0: nothing). -/
def amendF (b : Bk) (x : Ex) : Bk × Int := match atF b.fills x.ref with
  | none => (b, 6)
  | some n =>
    let f := b.fills.getD n zeroD
    if f.live = false ∨ 10 < x.time - f.time then (b, 6)
    else if f.ord ≠ x.ord ∨ f.acc ≠ x.acc ∨ f.sym ≠ x.sym ∨ f.buy ≠ x.buy then (b, 3)
    else if x.kind = 7 then ({ b with fills := b.fills.set n { f with live := false } }, 0)
    else if f.qty < x.qty then (b, 4)
    else if (findF b.orders f.ord).2 = false ∨ fairF { (findF b.orders f.ord).1 with buy := f.buy } x.price = false then (b, 5)
    else ({ b with fills := b.fills.set n { f with qty := x.qty, price := x.price } }, 0)
def doneOf (x : Ex) : Dn := ⟨x.id, x.ord, x.acc, x.sym, x.buy, x.qty, x.price, x.time, true⟩
def fillF (b : Bk) (x : Ex) : Bk × Int :=
  let r := fillO b.orders x.ord x.qty x.price
  if r.2 = 0 then ({ b with orders := r.1, fills := b.fills ++ [doneOf x] }, 0)
  else if r.2 = 1 then (b, 4) else if r.2 = 9 then (b, 5) else (b, 2)
def replaceF (b : Bk) (x : Ex) : Bk × Int :=
  let r := changeO b.orders x.ref x.ord x.qty x.price
  if r.2 = 0 then ({ b with orders := r.1 }, 0) else if r.2 = 1 then (b, 4) else (b, 2)
def orderOf (x : Ex) : Od := ⟨x.ord, x.acc, x.sym, x.buy, x.qty, x.price, 0, false⟩
def applyF (b : Bk) (x : Ex) : Bk × Int :=
  if x.time < b.clock then (b, 1)
  else if x.kind = 1 then (let r := newO b.orders (orderOf x); if r.2 = 0 then ({ b with orders := r.1 }, 0) else (b, 2))
  else if x.kind = 7 ∨ x.kind = 8 then amendF b x
  else
    let o := findF b.orders (if x.kind = 4 then x.ref else x.ord)
    if o.2 = false ∨ o.1.opn = false then (b, 2)
    else if o.1.acc ≠ x.acc ∨ o.1.sym ≠ x.sym ∨ o.1.buy ≠ x.buy then (b, 3)
    else if x.kind = 2 then fillF b x
    else if x.kind = 4 then replaceF b x
    else (let r := closeO b.orders x.ord; if r.2 = 0 then ({ b with orders := r.1 }, 0) else (b, 2))
def takeF (b : Bk) (x : Ex) : Bk × Int :=
  if b.bad ≠ 0 ∨ 256 ≤ b.ids.length then (b, 4)
  else if hasF b.ids x.id then (b, 2)
  else
    let r := applyF { b with ids := b.ids ++ [x.id] } x
    if r.2 ≠ 0 then ({ r.1 with bad := r.2 }, 3)
    else ({ r.1 with clock := x.time }, 1)
def emptyB : Bk := ⟨[], [], [], 0, 0⟩
def allF (l : List Ex) : Bk := l.foldl (fun b x => if execB x then (takeF b x).1 else b) emptyB

theorem at_of {l : List Dn} {id : Bs} {n : Nat} {o : Dn} (h1 : l[n]? = some o) (h2 : o.id = id) (h3 : (l.take n).all (fun o => !decide (o.id = id)) = true) : atI l id = n := by
  have hn := get_lt h1
  rw [List.getElem?_eq_getElem hn, Option.some.injEq] at h1
  have : atF l id = some n := by
    unfold atF
    refine List.findIdx?_eq_some_iff_getElem.2 ⟨hn, by rw [h1]; simpa using h2, fun j hj => ?_⟩
    have hm : l[j] ∈ l.take n := List.mem_iff_getElem?.2 ⟨j, by rw [List.getElem?_take, if_pos hj, List.getElem?_eq_getElem]⟩
    have := List.all_eq_true.1 h3 _ hm
    simpa using this
  unfold atI; rw [this]
theorem at_none {l : List Dn} {id : Bs} {i : Nat} (hi : l.length ≤ i) (h3 : (l.take i).all (fun o => !decide (o.id = id)) = true) : atI l id = -1 := by
  rw [List.take_of_length_le hi] at h3
  have : atF l id = none := by
    unfold atF
    rw [List.findIdx?_eq_none_iff]
    intro x hx
    have := List.all_eq_true.1 h3 x hx
    simpa using this
  unfold atI; rw [this]
theorem at_cases (l : List Dn) (id : Bs) : (atI l id = -1 ∧ atF l id = none) ∨ ∃ n o, atI l id = (n : Nat) ∧ atF l id = some n ∧ l[n]? = some o := by
  unfold atI
  cases h : atF l id with
  | none => exact .inl ⟨rfl, rfl⟩
  | some n =>
    obtain ⟨hn, _⟩ := List.findIdx?_eq_some_iff_getElem.1 h
    exact .inr ⟨n, l[n], rfl, rfl, List.getElem?_eq_getElem hn⟩
theorem id_of {l : List Bs} {id s : Bs} {n : Nat} (h1 : l[n]? = some s) (h2 : id = s) (h3 : (l.take n).all (fun s => !decide (id = s)) = true) : idI l id = n := by
  have hn := get_lt h1
  rw [List.getElem?_eq_getElem hn, Option.some.injEq] at h1
  have : l.findIdx? (fun s => decide (id = s)) = some n := by
    refine List.findIdx?_eq_some_iff_getElem.2 ⟨hn, by rw [h1]; simpa using h2, fun j hj => ?_⟩
    have hm : l[j] ∈ l.take n := List.mem_iff_getElem?.2 ⟨j, by rw [List.getElem?_take, if_pos hj, List.getElem?_eq_getElem]⟩
    have := List.all_eq_true.1 h3 _ hm
    simpa using this
  unfold idI; rw [this]
theorem id_none {l : List Bs} {id : Bs} {i : Nat} (hi : l.length ≤ i) (h3 : (l.take i).all (fun s => !decide (id = s)) = true) : idI l id = -1 := by
  rw [List.take_of_length_le hi] at h3
  have : l.findIdx? (fun s => decide (id = s)) = none := by
    rw [List.findIdx?_eq_none_iff]
    intro x hx
    have := List.all_eq_true.1 h3 x hx
    simpa using this
  unfold idI; rw [this]
theorem getDD {l : List Dn} {n : Nat} {o : Dn} (h : l[n]? = some o) : l.getD n zeroD = o := by rw [List.getD_eq_getElem?_getD, h]; rfl
end Go.Bk

/- Books: how long they get, which times stand in them; what is told again changes nothing. No program. -/
set_option linter.unusedVariables false
set_option linter.unusedSimpArgs false
namespace Go.Bk
theorem fill_len (l : List Od) (id : Bs) (q p : Int) : (fillO l id q p).1.length = l.length := by
  unfold fillO
  repeat' split
  all_goals first | rfl | simp
  all_goals (repeat' split) <;> simp
theorem close_len (l : List Od) (id : Bs) : (closeO l id).1.length = l.length := by
  unfold closeO
  repeat' split
  all_goals first | rfl | simp
theorem new_len (l : List Od) (o : Od) : (newO l o).1.length ≤ l.length + 1 := by
  unfold newO
  repeat' split
  all_goals first | (simp; done) | omega
theorem change_len (l : List Od) (a b : Bs) (q p : Int) : (changeO l a b q p).1.length ≤ l.length + 1 := by
  unfold changeO
  split
  · simp
  · split
    · simp
    · dsimp only
      repeat' split
      all_goals first | (simp; done) | omega
def Grows (b c : Bk) : Prop := c.orders.length ≤ b.orders.length + 1 ∧ c.fills.length ≤ b.fills.length + 1 ∧ c.ids = b.ids
theorem fillF_grows (b : Bk) (x : Ex) : Grows b (fillF b x).1 := by
  unfold fillF Grows
  dsimp only
  have := fill_len b.orders x.ord x.qty x.price
  repeat' split
  all_goals simp; try omega
theorem replaceF_grows (b : Bk) (x : Ex) : Grows b (replaceF b x).1 := by
  unfold replaceF Grows
  dsimp only
  have := change_len b.orders x.ref x.ord x.qty x.price
  repeat' split
  all_goals simp; try omega
theorem amendF_grows (b : Bk) (x : Ex) : Grows b (amendF b x).1 := by
  unfold amendF Grows
  split
  · simp
  · dsimp only
    repeat' split
    all_goals simp
theorem applyF_grows (b : Bk) (x : Ex) : Grows b (applyF b x).1 := by
  have h1 := new_len b.orders (orderOf x)
  have h2 := close_len b.orders x.ord
  unfold applyF
  dsimp only
  repeat' split
  all_goals first | exact amendF_grows b x | exact fillF_grows b x | exact replaceF_grows b x | (unfold Grows; simp; try omega)
theorem takeF_grows (b : Bk) (x : Ex) : (takeF b x).1.orders.length ≤ b.orders.length + 1 ∧ (takeF b x).1.fills.length ≤ b.fills.length + 1 ∧ (takeF b x).1.ids.length ≤ b.ids.length + 1 := by
  have h := applyF_grows { b with ids := b.ids ++ [x.id] } x
  unfold Grows at h
  dsimp only at h
  unfold takeF
  dsimp only
  repeat' split
  all_goals dsimp only
  · omega
  · omega
  · refine ⟨h.1, h.2.1, ?_⟩; rw [h.2.2]; simp
  · refine ⟨h.1, h.2.1, ?_⟩; rw [h.2.2]; simp
def Timed (b : Bk) : Prop := ∀ f ∈ b.fills, 0 ≤ f.time ∧ f.time ≤ 4611686018427387904
theorem timed_set {l : List Dn} {n : Nat} {g : Dn} (h : ∀ f ∈ l, 0 ≤ f.time ∧ f.time ≤ 4611686018427387904) (hg : n < l.length → g.time = (l.getD n zeroD).time) : ∀ f ∈ l.set n g, 0 ≤ f.time ∧ f.time ≤ 4611686018427387904 := by
  intro f hf
  by_cases hn : n < l.length
  · rcases List.mem_or_eq_of_mem_set hf with h1 | h1
    · exact h f h1
    · subst h1
      rw [hg hn, List.getD_eq_getElem?_getD, List.getElem?_eq_getElem hn]
      exact h _ (List.getElem_mem hn)
  · rw [List.set_eq_of_length_le (by omega)] at hf; exact h f hf
theorem applyF_timed {b : Bk} {x : Ex} (h : Timed b) (hx : 0 ≤ x.time ∧ x.time ≤ 4611686018427387904) : Timed (applyF b x).1 := by
  have ha : Timed (amendF b x).1 := by
    unfold amendF
    split
    · exact h
    · dsimp only
      repeat' split
      all_goals first | exact h | exact timed_set h (fun _ => rfl)
  have hf : Timed (fillF b x).1 := by
    unfold fillF
    dsimp only
    repeat' split
    all_goals first | exact h | skip
    intro f hf
    rcases List.mem_append.1 hf with hf | hf
    · exact h f hf
    · simp only [List.mem_singleton] at hf; subst hf; exact hx
  have hr : Timed (replaceF b x).1 := by
    unfold replaceF
    dsimp only
    repeat' split
    all_goals exact h
  unfold applyF
  dsimp only
  repeat' split
  all_goals first | exact ha | exact hf | exact hr | exact h
theorem takeF_timed {b : Bk} {x : Ex} (h : Timed b) (hx : 0 ≤ x.time ∧ x.time ≤ 4611686018427387904) : Timed (takeF b x).1 := by
  have h2 : Timed { b with ids := b.ids ++ [x.id] } := h
  have h3 := applyF_timed h2 hx
  unfold takeF
  dsimp only
  repeat' split
  all_goals first | exact h | exact h3
def stepF (b : Bk) (x : Ex) : Bk := if execB x then (takeF b x).1 else b
theorem allF_eq (l : List Ex) : allF l = l.foldl stepF emptyB := rfl
theorem fold_next {l : List Ex} {i : Nat} {x : Ex} (h : l[i]? = some x) : (l.take (i + 1)).foldl stepF emptyB = stepF ((l.take i).foldl stepF emptyB) x := by
  rw [take_next h, List.foldl_append]; rfl
end Go.Bk

/- Books: what is told again changes nothing. No program. -/
set_option linter.unusedVariables false
set_option linter.unusedSimpArgs false
namespace Go.Bk
theorem hasF_iff {l : List Bs} {id : Bs} : hasF l id = true ↔ id ∈ l := by
  unfold hasF idI
  cases h : l.findIdx? (fun s => decide (id = s)) with
  | none =>
    rw [List.findIdx?_eq_none_iff] at h
    simp only [decide_eq_true_eq]
    constructor
    · intro e; omega
    · intro e; have := h id e; simp at this
  | some n =>
    obtain ⟨hn, h1, _⟩ := List.findIdx?_eq_some_iff_getElem.1 h
    simp only [decide_eq_true_eq] at h1 ⊢
    constructor
    · intro _; rw [h1]; exact List.getElem_mem hn
    · intro _; omega
/-- It was told: what stands so says nothing more to it. -/
def Told (x : Ex) (b : Bk) : Prop := b.bad ≠ 0 ∨ 256 ≤ b.ids.length ∨ x.id ∈ b.ids
theorem take_told {b : Bk} {x : Ex} (h : Told x b) : (takeF b x).1 = b := by
  unfold takeF
  by_cases h1 : b.bad ≠ 0 ∨ 256 ≤ b.ids.length
  · rw [if_pos h1]
  · rw [if_neg h1]
    have : x.id ∈ b.ids := by
      rcases h with h | h | h
      · exact absurd (.inl h) h1
      · exact absurd (.inr h) h1
      · exact h
    rw [if_pos (hasF_iff.2 this)]
theorem take_ids (b : Bk) (y : Ex) (h1 : ¬ (b.bad ≠ 0 ∨ 256 ≤ b.ids.length)) (h2 : ¬ y.id ∈ b.ids) : (takeF b y).1.ids = b.ids ++ [y.id] := by
  have h := (applyF_grows { b with ids := b.ids ++ [y.id] } y).2.2
  dsimp only at h
  unfold takeF
  rw [if_neg h1, if_neg (fun e => h2 (hasF_iff.1 e))]
  dsimp only
  split
  · exact h
  · exact h
theorem told_take (b : Bk) (x : Ex) : Told x (takeF b x).1 := by
  by_cases h1 : Told x b
  · rw [take_told h1]; exact h1
  · have h2 : ¬ (b.bad ≠ 0 ∨ 256 ≤ b.ids.length) := fun e => h1 (by rcases e with e | e; exact .inl e; exact .inr (.inl e))
    have h3 : ¬ x.id ∈ b.ids := fun e => h1 (.inr (.inr e))
    exact .inr (.inr (by rw [take_ids b x h2 h3]; simp))
theorem told_next {b : Bk} {x y : Ex} (h : Told x b) : Told x (takeF b y).1 := by
  by_cases h1 : Told y b
  · rw [take_told h1]; exact h
  · have h2 : ¬ (b.bad ≠ 0 ∨ 256 ≤ b.ids.length) := fun e => h1 (by rcases e with e | e; exact .inl e; exact .inr (.inl e))
    have h3 : ¬ y.id ∈ b.ids := fun e => h1 (.inr (.inr e))
    rcases h with h | h | h
    · exact absurd (.inl h) h2
    · exact absurd (.inr h) h2
    · exact .inr (.inr (by rw [take_ids b y h2 h3]; exact List.mem_append_left _ h))
theorem told_step {b : Bk} {x y : Ex} (h : Told x b) : Told x (stepF b y) := by
  unfold stepF
  split
  · exact told_next h
  · exact h
theorem told_fold {l : List Ex} {x : Ex} {b : Bk} (h : Told x b) : Told x (l.foldl stepF b) := by
  induction l generalizing b with
  | nil => exact h
  | cons y l ih => exact ih (told_step h)
theorem told_mem {l : List Ex} {x : Ex} {b : Bk} (hx : x ∈ l) (he : execB x = true) : Told x (l.foldl stepF b) := by
  induction l generalizing b with
  | nil => simp at hx
  | cons y l ih =>
    rcases List.mem_cons.1 hx with rfl | hx
    · refine told_fold (l := l) (b := stepF b x) ?_
      unfold stepF; rw [if_pos he]; exact told_take b x
    · exact ih hx
/-- What was told already, told again, changes nothing. -/
theorem all_again {m l : List Ex} {x : Ex} (h : allF m = allF l) (hx : x ∈ l) : allF (m ++ [x]) = allF l := by
  rw [allF_eq, List.foldl_append, ← allF_eq, h]
  show stepF (allF l) x = _
  unfold stepF
  by_cases he : execB x = true
  · rw [if_pos he]; exact take_told (told_mem hx he)
  · rw [if_neg he]
theorem allF_next {m l : List Ex} {i : Nat} {x : Ex} (h : allF m = allF (l.take i)) (hx : l[i]? = some x) : allF (m ++ [x]) = allF (l.take (i + 1)) := by
  rw [allF_eq, List.foldl_append, ← allF_eq, h, allF_eq (l.take (i + 1)), fold_next hx]; rfl
theorem allF_len (l : List Ex) : (allF l).orders.length ≤ l.length ∧ (allF l).fills.length ≤ l.length ∧ (allF l).ids.length ≤ l.length := by
  have : ∀ (l : List Ex) (b : Bk), (l.foldl stepF b).orders.length ≤ b.orders.length + l.length ∧ (l.foldl stepF b).fills.length ≤ b.fills.length + l.length ∧ (l.foldl stepF b).ids.length ≤ b.ids.length + l.length := by
    intro l
    induction l with
    | nil => intro b; simp
    | cons x l ih =>
      intro b
      have h1 := ih (stepF b x)
      have h2 : (stepF b x).orders.length ≤ b.orders.length + 1 ∧ (stepF b x).fills.length ≤ b.fills.length + 1 ∧ (stepF b x).ids.length ≤ b.ids.length + 1 := by
        unfold stepF
        split
        · exact takeF_grows b x
        · omega
      simp only [List.foldl_cons, List.length_cons]
      omega
  have h := this l emptyB
  simp only [emptyB, List.length_nil, Nat.zero_add] at h
  exact h
def awl : List Ex := [⟨[97], [], [111], [99], [115], 1, true, 10, 5, 0⟩, ⟨[98], [], [111], [99], [115], 2, true, 4, 5, 0⟩, ⟨[98], [], [111], [99], [115], 2, true, 4, 5, 0⟩]
theorem aw_eq : allF awl = ⟨[⟨[111], [99], [115], true, 10, 5, 4, true⟩], [⟨[98], [111], [99], [115], true, 4, 5, 0, true⟩], [[97], [98]], 0, 0⟩ := by decide
end Go.Bk
