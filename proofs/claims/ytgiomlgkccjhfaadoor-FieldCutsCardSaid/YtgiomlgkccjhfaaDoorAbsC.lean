/- More operations that leave the world alone: arithmetic, comparing, converting, slicing, building; and all of them in one theorem. -/
import Derived.Test.YtgiomlgkccjhfaaDoorAbsB
import Derived.Laws.StructEq
import Derived.WalkLawsBesides
namespace Go.Abs
open Go Go.RowKit
set_option linter.unusedVariables false
set_option linter.unusedSimpArgs false

/-- A byte, a byte's abstract value. -/
def u8 (b : UInt8) : AV := .v (.int .u8 b.toNat)

theorem u8_inj {a b : UInt8} (h : u8 a = u8 b) : a = b := by
  simp only [u8, AV.v.injEq, Value.int.injEq, true_and] at h
  have : a.toNat = b.toNat := by omega
  exact UInt8.toNat_inj.1 this

theorem u8_map_inj {l m : List UInt8} (h : l.map u8 = m.map u8) : l = m := by
  induction l generalizing m with
  | nil => cases m with
    | nil => rfl
    | cons => simp at h
  | cons a l ih => cases m with
    | nil => simp at h
    | cons b m =>
      simp only [List.map_cons, List.cons.injEq] at h
      rw [u8_inj h.1, ih h.2]

section
variable {P : Program} {w0 : World} {im0 : Im} {c : Ctx} {st : St} {a : Act} {w : World}

def APick (x y z : AV) (k : AV → Prop) : Prop :=
  match x with
  | .v (.bool b) => k (bif b then y else z)
  | _ => False

def AUn (op : UnOp) (x : AV) (k : AV → Prop) : Prop :=
  match op, x with
  | .not, .v (.bool b) => k (.v (.bool (!b)))
  | .neg, .v (.int kd n) => k (.v (.int kd (kd.wrap (0 - n))))
  | .xor, .v (.int kd n) => k (.v (.int kd (kd.wrap ((BitVec.ofInt kd.bits (if kd.signed then -1 else kd.max) ^^^ BitVec.ofInt kd.bits n).toNat))))
  | _, _ => False

theorem un_ok {op : UnOp} {x : AV} {v : Value} (h : VR c x v) {k : AV → Prop} (hk : AUn op x k) : ∃ u y, (Op.unary op v).run P w = .ok u w ∧ VR c y u ∧ k y := by
  unfold AUn at hk
  split at hk
  · cases h.inv_v; exact ⟨_, _, by simp [Op.unary], .base (.v _), hk⟩
  · cases h.inv_v; exact ⟨_, _, by simp [Op.unary, Op.intArith], .base (.v _), hk⟩
  · cases h.inv_v; exact ⟨_, _, by simp only [Op.unary, Op.intBits]; rfl, .base (.v _), hk⟩
  · exact hk.elim

/-- Two integers. -/
def AInt (op : BinOp) (kd : IntKind) (x : Int) (kd' : IntKind) (y : Int) (k : AV → Prop) : Prop :=
  match op with
  | .shl => 0 ≤ y ∧ k (.v (.int kd (kd.wrap (x * 2 ^ (min y.toNat kd.bits)))))
  | .shr => 0 ≤ y ∧ k (.v (.int kd (x.fdiv (2 ^ (min y.toNat kd.bits)))))
  | .add => kd = kd' ∧ k (.v (.int kd (kd.wrap (x + y))))
  | .sub => kd = kd' ∧ k (.v (.int kd (kd.wrap (x - y))))
  | .mul => kd = kd' ∧ k (.v (.int kd (kd.wrap (x * y))))
  | .quo => kd = kd' ∧ y ≠ 0 ∧ k (.v (.int kd (kd.wrap (x.tdiv y))))
  | .rem => kd = kd' ∧ y ≠ 0 ∧ k (.v (.int kd (x.tmod y)))
  | .and => kd = kd' ∧ k (.v (.int kd (kd.wrap ((BitVec.ofInt kd.bits x &&& BitVec.ofInt kd.bits y).toNat))))
  | .or => kd = kd' ∧ k (.v (.int kd (kd.wrap ((BitVec.ofInt kd.bits x ||| BitVec.ofInt kd.bits y).toNat))))
  | .xor => kd = kd' ∧ k (.v (.int kd (kd.wrap ((BitVec.ofInt kd.bits x ^^^ BitVec.ofInt kd.bits y).toNat))))
  | .andNot => kd = kd' ∧ k (.v (.int kd (kd.wrap ((BitVec.ofInt kd.bits x &&& ~~~(BitVec.ofInt kd.bits y)).toNat))))
  | .eql => kd = kd' ∧ k (.v (.bool (decide (x = y))))
  | .neq => kd = kd' ∧ k (.v (.bool (!decide (x = y))))
  | .lss => kd = kd' ∧ k (.v (.bool (decide (x < y))))
  | .leq => kd = kd' ∧ k (.v (.bool (decide (x ≤ y))))
  | .gtr => kd = kd' ∧ k (.v (.bool (decide (y < x))))
  | .geq => kd = kd' ∧ k (.v (.bool (decide (y ≤ x))))

theorem int_ok {op : BinOp} {t : TypeId} {kd kd' : IntKind} {x y : Int} {k : AV → Prop} (hk : AInt op kd x kd' y k) :
    ∃ u z, (binOp op t (.int kd x) (.int kd' y)).run P w = .ok u w ∧ VR c z u ∧ k z := by
  cases op <;> simp only [AInt] at hk
  case shl => exact ⟨_, _, by simp only [binOp, Op.shift]; rw [if_neg (by omega)]; rfl, .base (.v _), hk.2⟩
  case shr => exact ⟨_, _, by simp only [binOp, Op.shift]; rw [if_neg (by omega)]; rfl, .base (.v _), hk.2⟩
  case quo => obtain ⟨rfl, h0, hk⟩ := hk; exact ⟨_, _, by simp only [binOp, Op.intDiv, ne_eq, not_true_eq_false, if_false]; rw [if_neg h0]; rfl, .base (.v _), hk⟩
  case rem => obtain ⟨rfl, h0, hk⟩ := hk; exact ⟨_, _, by simp only [binOp, Op.intDiv, ne_eq, not_true_eq_false, if_false]; rw [if_neg h0]; rfl, .base (.v _), hk⟩
  all_goals
    obtain ⟨rfl, hk⟩ := hk
    exact ⟨_, _, by simp only [binOp, Op.intArith, Op.intBits, Op.intCmp, ne_eq, not_true_eq_false, if_false]; rfl, .base (.v _), hk⟩

/-- Two strings. -/
def AStr (op : BinOp) (x y : ByteArray) (k : AV → Prop) : Prop :=
  match op with
  | .add => x.data.toList.length + y.data.toList.length ≤ 9223372036854775807 ∧ k (.v (.string ⟨(x.data.toList ++ y.data.toList).toArray⟩))
  | .eql => k (.v (.bool (decide (x.data.toList = y.data.toList))))
  | .neq => k (.v (.bool (!decide (x.data.toList = y.data.toList))))
  | .lss => k (.v (.bool (Op.bytesLess x.data.toList y.data.toList)))
  | .leq => k (.v (.bool (Op.bytesLess x.data.toList y.data.toList || decide (x.data.toList = y.data.toList))))
  | .gtr => k (.v (.bool (!(Op.bytesLess x.data.toList y.data.toList || decide (x.data.toList = y.data.toList)))))
  | .geq => k (.v (.bool (!(Op.bytesLess x.data.toList y.data.toList))))
  | _ => False

theorem beq_decide {α : Type} [BEq α] [LawfulBEq α] [DecidableEq α] (a b : α) : (a == b) = decide (a = b) := by
  by_cases h : a = b
  · subst h; simp
  · simp [h]

theorem bytes_append (x y : ByteArray) : x ++ y = ⟨(x.data.toList ++ y.data.toList).toArray⟩ := by
  obtain ⟨⟨l⟩⟩ := x
  obtain ⟨⟨m⟩⟩ := y
  apply ByteArray.ext
  simp

theorem str_ok {op : BinOp} {t : TypeId} {x y : ByteArray} {k : AV → Prop} (hk : AStr op x y k) :
    ∃ u z, (binOp op t (.string x) (.string y)).run P w = .ok u w ∧ VR c z u ∧ k z := by
  cases op <;> simp only [AStr] at hk
  case add =>
    refine ⟨_, _, ?_, .base (.v _), hk.2⟩
    have h1 : x.size = x.data.toList.length := rfl
    have h2 : y.size = y.data.toList.length := rfl
    simp only [binOp, Op.stringOp]
    have hm : IntKind.i64.max = 9223372036854775807 := by decide
    rw [if_neg (by rw [hm]; omega), bytes_append]; rfl
  all_goals first | exact hk.elim | skip
  all_goals
    refine ⟨_, _, ?_, .base (.v _), hk⟩
    simp [binOp, Op.stringOp, ByteArray.toList_eq, beq_decide]

/-- Two structs whose fields are plain: what kind each field is. -/
def flatFields (P : Program) : Nat → List Field → Option (List Nat)
  | _, [] => some []
  | i, f :: fs =>
    if f.name = "_" ∨ f.offset ≠ i then none else
    match P.underlying f.type, flatFields P (i + 1) fs with
    | some (.int _), some l => some (0 :: l)
    | some .string, some l => some (1 :: l)
    | some .bool, some l => some (2 :: l)
    | _, _ => none
def flatKinds (P : Program) (t : TypeId) : Option (List Nat) :=
  match P.underlying t with
  | some (.struct fs) => if P.stoodInHeld t || P.eqGuardType P.depth t then none else flatFields P 0 fs.toList
  | _ => none
def aggEq : List Nat → List AV → List AV → Option Bool
  | [], [], [] => some true
  | 0 :: ks, .v (.int k a) :: xs, .v (.int k' b) :: ys => if k = k' then (aggEq ks xs ys).map (decide (a = b) && ·) else none
  | 1 :: ks, .v (.string a) :: xs, .v (.string b) :: ys => (aggEq ks xs ys).map (decide (a.data.toList = b.data.toList) && ·)
  | 2 :: ks, .v (.bool a) :: xs, .v (.bool b) :: ys => (aggEq ks xs ys).map (decide (a = b) && ·)
  | _, _, _ => none

theorem aggEq_0 {ks : List Nat} {xs ys : List AV} {b : Bool} (h : aggEq (0 :: ks) xs ys = some b) :
    ∃ k a d xs' ys' b', xs = .v (.int k a) :: xs' ∧ ys = .v (.int k d) :: ys' ∧ aggEq ks xs' ys' = some b' ∧ b = (decide (a = d) && b') := by
  cases xs with
  | nil => simp [aggEq] at h
  | cons x xs =>
    cases ys with
    | nil => cases x <;> simp [aggEq] at h
    | cons y ys =>
      cases x <;> try (simp [aggEq] at h; done)
      case v x =>
      cases y <;> try (simp [aggEq] at h; done)
      case v y =>
      cases x <;> try (simp [aggEq] at h; done)
      case int k a =>
      cases y <;> try (simp [aggEq] at h; done)
      case int k' d =>
      simp only [aggEq] at h
      split at h
      · rename_i hk
        subst hk
        cases hb : aggEq ks xs ys with
        | none => simp [hb] at h
        | some b' => exact ⟨k, a, d, xs, ys, b', rfl, rfl, hb, by simpa [hb] using h.symm⟩
      · simp at h
theorem aggEq_1 {ks : List Nat} {xs ys : List AV} {b : Bool} (h : aggEq (1 :: ks) xs ys = some b) :
    ∃ (a d : ByteArray) (xs' ys' : List AV) (b' : Bool), xs = .v (.string a) :: xs' ∧ ys = .v (.string d) :: ys' ∧ aggEq ks xs' ys' = some b' ∧ b = (decide (a.data.toList = d.data.toList) && b') := by
  cases xs with
  | nil => simp [aggEq] at h
  | cons x xs =>
    cases ys with
    | nil => cases x <;> simp [aggEq] at h
    | cons y ys =>
      cases x <;> try (simp [aggEq] at h; done)
      case v x =>
      cases y <;> try (simp [aggEq] at h; done)
      case v y =>
      cases x <;> try (simp [aggEq] at h; done)
      case string a =>
      cases y <;> try (simp [aggEq] at h; done)
      case string d =>
      simp only [aggEq] at h
      cases hb : aggEq ks xs ys with
      | none => simp [hb] at h
      | some b' => exact ⟨a, d, xs, ys, b', rfl, rfl, hb, by simpa [hb] using h.symm⟩
theorem aggEq_2 {ks : List Nat} {xs ys : List AV} {b : Bool} (h : aggEq (2 :: ks) xs ys = some b) :
    ∃ (a d : Bool) (xs' ys' : List AV) (b' : Bool), xs = .v (.bool a) :: xs' ∧ ys = .v (.bool d) :: ys' ∧ aggEq ks xs' ys' = some b' ∧ b = (decide (a = d) && b') := by
  cases xs with
  | nil => simp [aggEq] at h
  | cons x xs =>
    cases ys with
    | nil => cases x <;> simp [aggEq] at h
    | cons y ys =>
      cases x <;> try (simp [aggEq] at h; done)
      case v x =>
      cases y <;> try (simp [aggEq] at h; done)
      case v y =>
      cases x <;> try (simp [aggEq] at h; done)
      case bool a =>
      cases y <;> try (simp [aggEq] at h; done)
      case bool d =>
      simp only [aggEq] at h
      cases hb : aggEq ks xs ys with
      | none => simp [hb] at h
      | some b' => exact ⟨a, d, xs, ys, b', rfl, rfl, hb, by simpa [hb] using h.symm⟩

theorem eqFields_ok {d : Nat} : ∀ {fs : List Field} {ks : List Nat} {xs ys : List AV} {us vs : List Value} {i : Nat} {b : Bool} (_ : flatFields P i fs = some ks) (_ : aggEq ks xs ys = some b)
    (_ : ∀ (j : Nat) (x : AV), xs[j]? = some x → ∃ u, us[i + j]? = some u ∧ VR c x u) (_ : ∀ (j : Nat) (x : AV), ys[j]? = some x → ∃ u, vs[i + j]? = some u ∧ VR c x u),
    (Op.eqFields (d + 1) us.toArray vs.toArray fs).run P w = .ok b w
  | [], ks, xs, ys, us, vs, i, b, hf, he, hx, hy => by
    simp only [flatFields, Option.some.injEq] at hf; subst hf
    cases xs <;> cases ys <;> simp [aggEq] at he
    subst he; simp [Op.eqFields]
  | f :: fs, ks, xs, ys, us, vs, i, b, hf, he, hx, hy => by
    simp only [flatFields] at hf
    split at hf
    · simp at hf
    rename_i hno
    have hn : f.name ≠ "_" := fun h => hno (.inl h)
    have ho : f.offset = i := Classical.byContradiction fun h => hno (.inr h)
    have key : ∀ (x y : AV) (xs' ys' : List AV) (ks' : List Nat) (e b' : Bool) (dsc : TypeDesc), xs = x :: xs' → ys = y :: ys' → flatFields P (i + 1) fs = some ks' → aggEq ks' xs' ys' = some b' → b = (e && b') →
        P.underlying f.type = some dsc → aggD dsc = false → (∀ u v, VR c x u → VR c y v → (Op.equalIn (d + 1) f.type u v).run P w = .ok e w) →
        (Op.eqFields (d + 1) us.toArray vs.toArray (f :: fs)).run P w = .ok b w := by
      intro x y xs' ys' ks' e b' dsc h1 h2 h3 h4 h5 h6 h7 h8
      subst h1; subst h2; subst h5
      obtain ⟨u, hu, hvu⟩ := hx 0 x rfl
      obtain ⟨v, hv, hvv⟩ := hy 0 y rfl
      have ih := eqFields_ok (d := d) (us := us) (vs := vs) h3 h4 (fun j x hj => by have := hx (j + 1) x hj; rwa [show i + (j + 1) = i + 1 + j by omega] at this)
        (fun j x hj => by have := hy (j + 1) x hj; rwa [show i + (j + 1) = i + 1 + j by omega] at this)
      have ha := isAgg_run h6 w
      rw [h7] at ha
      simp only [Nat.add_zero] at hu hv
      have h9 := h8 u v hvu hvv
      cases e with
      | false => simp [Op.eqFields, hn, part, ha, ho, hu, hv, h9]
      | true => simp [Op.eqFields, hn, part, ha, ho, hu, hv, h9, ih]
    split at hf
    · rename_i kd l hu hl
      simp only [Option.some.injEq] at hf; subst hf
      obtain ⟨k1, a1, b1, xs1, ys1, b', rfl, rfl, hb, hbe⟩ := aggEq_0 he
      exact key _ _ _ _ _ _ b' _ rfl rfl hl hb hbe hu rfl (fun u v h1 h2 => by
              cases h1.inv_v; cases h2.inv_v
              rw [run_equalIn_int w _ _ _ _ _ _ hu, beq_decide])
    · rename_i l hu hl
      simp only [Option.some.injEq] at hf; subst hf
      obtain ⟨a1, b1, xs1, ys1, b', rfl, rfl, hb, hbe⟩ := aggEq_1 he
      exact key _ _ _ _ _ _ b' _ rfl rfl hl hb hbe hu rfl (fun u v h1 h2 => by
            cases h1.inv_v; cases h2.inv_v
            rw [run_equalIn_string w _ _ _ _ hu, ByteArray.toList_eq, ByteArray.toList_eq, beq_decide])
    · rename_i l hu hl
      simp only [Option.some.injEq] at hf; subst hf
      obtain ⟨a1, b1, xs1, ys1, b', rfl, rfl, hb, hbe⟩ := aggEq_2 he
      exact key _ _ _ _ _ _ b' _ rfl rfl hl hb hbe hu rfl (fun u v h1 h2 => by
            cases h1.inv_v; cases h2.inv_v
            rw [run_equalIn_bool' w _ _ _ _ hu, beq_decide])
    · simp at hf

/-- '==', '!=' on a slice against nil; on structs. -/
def AEq (P : Program) (t : TypeId) (x y : AV) (k : Bool → Prop) : Prop :=
  match x, y with
  | .v (.bool a), .v (.bool b) => P.underlying t = some .bool ∧ k (decide (a = b))
  | .nilS, .nilS => (∃ e, P.underlying t = some (.slice e)) ∧ k true
  | .sl _ _ es, .nilS => (∃ e, P.underlying t = some (.slice e)) ∧ ∀ b, (es ≠ [] → b = false) → k b
  | .nilS, .sl _ _ es => (∃ e, P.underlying t = some (.slice e)) ∧ ∀ b, (es ≠ [] → b = false) → k b
  | .mu .., .nilS => (∃ e, P.underlying t = some (.slice e)) ∧ k false
  | .v .nilIface, .v .nilIface => (∃ ms, P.underlying t = some (.interface ms)) ∧ k true
  | .v (.iface _ _), .v .nilIface => (∃ ms, P.underlying t = some (.interface ms)) ∧ k false
  | .agg xs, .agg ys => ∃ ks b, flatKinds P t = some ks ∧ aggEq ks xs ys = some b ∧ k b
  | _, _ => False

theorem equal_of {t : TypeId} {u v : Value} {b : Bool} (h : ∀ d, (Op.equalIn (d + 1) t u v).run P w = .ok b w) : (Op.equal t u v).run P w = .ok b w := h 9999

theorem eql_of {t : TypeId} {u v : Value} {b : Bool} (h0 : binOp .eql t u v = (do pure (.bool (← Op.equal t u v)))) (h : (Op.equal t u v).run P w = .ok b w) : (binOp .eql t u v).run P w = .ok (.bool b) w := by
  rw [h0]; simp [h]
theorem neq_of {t : TypeId} {u v : Value} {b : Bool} (h0 : binOp .neq t u v = (do pure (.bool (!(← Op.equal t u v))))) (h : (Op.equal t u v).run P w = .ok b w) : (binOp .neq t u v).run P w = .ok (.bool (!b)) w := by
  rw [h0]; simp [h]

theorem eq_ok {t : TypeId} {x y : AV} {u v : Value} (hx : VR c x u) (hy : VR c y v) {k : Bool → Prop} (hk : AEq P t x y k) (xo yo : Operand) (hc : v = .nilIface → ∃ z, yo = .const z) :
    ∃ b, k b ∧ (eqGuard .eql t xo yo u v).run P w = .ok () w ∧ (eqGuard .neq t xo yo u v).run P w = .ok () w ∧
      (binOp .eql t u v).run P w = .ok (.bool b) w ∧ (binOp .neq t u v).run P w = .ok (.bool (!b)) w := by
  unfold AEq at hk
  split at hk
  · rename_i a b
    cases hx.inv_v; cases hy.inv_v
    obtain ⟨hu, hk⟩ := hk
    have he : (Op.equal t (.bool a) (.bool b)).run P w = .ok (decide (a = b)) w := equal_of fun d => by rw [run_equalIn_bool' w d t a b hu, beq_decide]
    exact ⟨_, hk, rfl, rfl, eql_of rfl he, neq_of rfl he⟩
  · cases hx.inv_nilS; cases hy.inv_nilS
    obtain ⟨⟨e, hu⟩, hk⟩ := hk
    have he : (Op.equal t (.slice none 0 0) (.slice none 0 0)).run P w = .ok true w := equal_of fun d => by simp [Op.equalIn, underlying_run hu]
    exact ⟨_, hk, rfl, rfl, eql_of rfl he, neq_of rfl he⟩
  · rename_i t' k' es
    cases hy.inv_nilS
    obtain ⟨⟨e, hu⟩, hk⟩ := hk
    obtain ⟨a, cap, rfl, _, hes⟩ := hx.sl_base.inv_sl
    have he : (Op.equal t (.slice a es.length cap) (.slice none 0 0)).run P w = .ok a.isNone w := equal_of fun d => by cases a <;> simp [Op.equalIn, underlying_run hu]
    refine ⟨_, hk _ (fun hne => ?_), rfl, rfl, eql_of rfl he, neq_of rfl he⟩
    rcases hes with rfl | ⟨b, o, rfl, _⟩
    · exact absurd rfl hne
    · rfl
  · rename_i t' k' es
    cases hx.inv_nilS
    obtain ⟨⟨e, hu⟩, hk⟩ := hk
    obtain ⟨a, cap, rfl, _, hes⟩ := hy.sl_base.inv_sl
    have he : (Op.equal t (.slice none 0 0) (.slice a es.length cap)).run P w = .ok a.isNone w := equal_of fun d => by cases a <;> simp [Op.equalIn, underlying_run hu]
    refine ⟨_, hk _ (fun hne => ?_), rfl, rfl, eql_of rfl he, neq_of rfl he⟩
    rcases hes with rfl | ⟨b, o, rfl, _⟩
    · exact absurd rfl hne
    · rfl
  · cases hy.inv_nilS
    obtain ⟨⟨e, hu⟩, hk⟩ := hk
    obtain ⟨g, cap, hb, hc', rfl⟩ := hx.inv_mu
    have he : ∀ g n m, (Op.equal t (.slice (some g) n m) (.slice none 0 0)).run P w = .ok false w := fun g n m => equal_of fun d => by simp [Op.equalIn, underlying_run hu]
    exact ⟨_, hk, rfl, rfl, eql_of rfl (he _ _ _), neq_of rfl (he _ _ _)⟩
  · cases hx.inv_v; cases hy.inv_v
    obtain ⟨⟨e, hu⟩, hk⟩ := hk
    obtain ⟨z, rfl⟩ := hc rfl
    have he : (Op.equal t .nilIface .nilIface).run P w = .ok true w := equal_of fun d => by simp [Op.equalIn, underlying_run hu]
    refine ⟨true, hk, ?_, ?_, eql_of rfl he, neq_of rfl he⟩ <;> simp [eqGuard]
  · cases hx.inv_v; cases hy.inv_v
    obtain ⟨⟨e, hu⟩, hk⟩ := hk
    have he : ∀ g n, (Op.equal t (.iface g n) .nilIface).run P w = .ok false w := fun g n => equal_of fun d => by simp [Op.equalIn, underlying_run hu]
    exact ⟨false, hk, rfl, rfl, eql_of rfl (he _ _), neq_of rfl (he _ _)⟩
  · rename_i xs ys
    obtain ⟨ks, b, hf, he, hk⟩ := hk
    obtain ⟨us, rfl, hn, hp⟩ := hx.inv_agg
    obtain ⟨vs, rfl, hn', hp'⟩ := hy.inv_agg
    unfold flatKinds at hf
    split at hf
    · rename_i fs hu
      split at hf
      · simp at hf
      · rename_i hno
        simp only [Bool.or_eq_true, not_or, Bool.not_eq_true] at hno
        have hfo : P.fieldsOf t = fs := by simp [Program.fieldsOf, hu]
        have hrun := fun d => run_equalIn_struct w (d + 1) t us.toArray vs.toArray (by rw [hfo]; exact hu) hno.1
        have hfl := fun d => eqFields_ok (P := P) (w := w) (c := c) (d := d) (us := us) (vs := vs) hf he
          (fun j x hj => by
            have hlt : j < xs.length := by
              rcases Nat.lt_or_ge j xs.length with h | h
              · exact h
              · rw [List.getElem?_eq_none h] at hj; simp at hj
            have hv : us[j]? = some (us[j]'(by omega)) := by simp [hn, hlt]
            exact ⟨_, by rw [Nat.zero_add]; exact hv, hp j x _ hj hv⟩)
          (fun j x hj => by
            have hlt : j < ys.length := by
              rcases Nat.lt_or_ge j ys.length with h | h
              · exact h
              · rw [List.getElem?_eq_none h] at hj; simp at hj
            have hv : vs[j]? = some (vs[j]'(by omega)) := by simp [hn', hlt]
            exact ⟨_, by rw [Nat.zero_add]; exact hv, hp' j x _ hj hv⟩)
        have hE : (Op.equal t (.agg us.toArray) (.agg vs.toArray)).run P w = .ok b w := by
          have h1 := hrun 9998
          rw [hfo, hfl] at h1
          exact h1
        exact ⟨b, hk, run_eqGuard_agg w _ t xo yo _ _ hno.2, run_eqGuard_agg w _ t xo yo _ _ hno.2, eql_of rfl hE, neq_of rfl hE⟩
    · simp at hf
  · exact hk.elim

def ABin (P : Program) (op : BinOp) (t : TypeId) (x y : AV) (k : AV → Prop) : Prop :=
  match x, y with
  | .v (.int kd a), .v (.int kd' b) => AInt op kd a kd' b k
  | .v (.string a), .v (.string b) => AStr op a b k
  | x, y =>
    match op with
    | .eql => AEq P t x y fun b => k (.v (.bool b))
    | .neq => AEq P t x y fun b => k (.v (.bool (!b)))
    | _ => False

theorem guard_plain (op : BinOp) (t : TypeId) (xo yo : Operand) (u v : Value) (h : ∀ a b : Array Value, u ≠ .agg a ∨ v ≠ .agg b) (h' : u ≠ .nilIface) : (eqGuard op t xo yo u v).run P w = .ok () w := by
  unfold eqGuard
  cases op <;> simp
  all_goals
    split <;> first
      | exact (h' rfl).elim
      | (rename_i x y; rcases h x y with h | h <;> exact (h rfl).elim)
      | rfl

theorem bin_ok {op : BinOp} {t : TypeId} {x y : AV} {u v : Value} (hx : VR c x u) (hy : VR c y v) {k : AV → Prop} (hk : ABin P op t x y k) (xo yo : Operand) (hc : v = .nilIface → ∃ z, yo = .const z) :
    (eqGuard op t xo yo u v).run P w = .ok () w ∧ ∃ z r, (binOp op t u v).run P w = .ok r w ∧ VR c z r ∧ k z := by
  unfold ABin at hk
  split at hk
  · cases hx.inv_v; cases hy.inv_v
    refine ⟨guard_plain _ _ _ _ _ _ (fun _ _ => .inl (by simp)) (by simp), ?_⟩
    obtain ⟨u, z, h1, h2, h3⟩ := int_ok (P := P) (c := c) (w := w) (t := t) hk
    exact ⟨z, u, h1, h2, h3⟩
  · cases hx.inv_v; cases hy.inv_v
    refine ⟨guard_plain _ _ _ _ _ _ (fun _ _ => .inl (by simp)) (by simp), ?_⟩
    obtain ⟨u, z, h1, h2, h3⟩ := str_ok (P := P) (c := c) (w := w) (t := t) hk
    exact ⟨z, u, h1, h2, h3⟩
  · split at hk
    · obtain ⟨b, hb, h1, h2, h3, h4⟩ := eq_ok (w := w) hx hy hk xo yo hc
      exact ⟨h1, _, _, h3, .base (.v _), hb⟩
    · obtain ⟨b, hb, h1, h2, h3, h4⟩ := eq_ok (w := w) hx hy hk xo yo hc
      exact ⟨h2, _, _, h4, .base (.v _), hb⟩
    · exact hk.elim

end
end Go.Abs
