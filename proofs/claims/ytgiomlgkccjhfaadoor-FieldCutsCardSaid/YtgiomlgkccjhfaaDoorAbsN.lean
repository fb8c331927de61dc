/- A region that draws its order: one walk, in an order in which what only looks comes as early as it may, serves every order. -/
import Derived.Test.YtgiomlgkccjhfaaDoorAbsM
import Derived.RegionTactic
namespace Go.Abs
open Go Go.RowKit
set_option linter.unusedVariables false
set_option linter.unusedSimpArgs false

section
variable {P : Program} {k : AV → Prop}

/-- One value, whatever is asked of it. -/
def Det (f : (AV → Prop) → Prop) : Prop := ∀ k, f k → ∃ y, k y ∧ ∀ k' : AV → Prop, k' y → f k'

/-- Does '==' on this type tell one answer for sure? -/
def detEq (P : Program) (t : TypeId) : Bool :=
  match P.underlying t with
  | some (.slice _) => false
  | _ => true
def detOp (P : Program) : Op → Bool
  | .binOp .eql t .. | .binOp .neq t .. => detEq P t
  | _ => true

theorem Det.at {y : AV} : Det (fun k => k y) := fun _ h => ⟨y, h, fun _ h' => h'⟩
theorem Det.false {f : (AV → Prop) → Prop} (h : ∀ k, ¬ f k) : Det f := fun k hk => (h k hk).elim
theorem Det.and {p : Prop} {f : (AV → Prop) → Prop} (h : Det f) : Det (fun k => p ∧ f k) := fun k ⟨hp, hk⟩ => let ⟨y, a, b⟩ := h k hk; ⟨y, a, fun k' h' => ⟨hp, b k' h'⟩⟩
theorem Det.ex {α : Sort _} {f : α → (AV → Prop) → Prop} (h : ∀ a, Det (f a)) : Det (fun k => ∃ a, f a k) := fun k ⟨a, hk⟩ => let ⟨y, c, d⟩ := h a k hk; ⟨y, c, fun k' h' => ⟨a, d k' h'⟩⟩

theorem det_part {t : TypeId} {cs : List AV} {o n : Nat} : Det (APart P t cs o n) := by
  unfold APart
  split
  · split
    · exact Det.and Det.at
    · exact Det.ex fun _ => Det.and Det.at
  · exact Det.false fun _ h => h

theorem det_int {op : BinOp} {kd kd' : IntKind} {x y : Int} : Det (AInt op kd x kd' y) := by
  unfold AInt
  cases op <;> first
    | exact Det.and (Det.and Det.at)
    | exact Det.and Det.at
theorem det_str {op : BinOp} {x y : ByteArray} : Det (AStr op x y) := by
  unfold AStr
  cases op <;> first
    | exact Det.and Det.at
    | exact Det.at
    | exact Det.false fun _ h => h

theorem det_eq {t : TypeId} {x y : AV} (ht : detEq P t = true) (g : Bool → AV) : Det (fun k => AEq P t x y fun b => k (g b)) := by
  unfold AEq
  have no : ∀ {e : TypeId}, P.underlying t = some (.slice e) → False := fun h => by simp [detEq, h] at ht
  split
  · exact Det.and Det.at
  · exact Det.and Det.at
  · exact Det.false fun _ ⟨⟨e, he⟩, _⟩ => no he
  · exact Det.false fun _ ⟨⟨e, he⟩, _⟩ => no he
  · exact Det.and Det.at
  · exact Det.and Det.at
  · exact Det.and Det.at
  · exact Det.ex fun _ => Det.ex fun _ => Det.and (Det.and Det.at)
  · exact Det.false fun _ h => h

theorem det_light {st : St} {op : Op} (hd : detOp P op = true) : Det (ALight P st op) := by
  cases op <;> show Det (fun k => ALight P st _ k) <;> simp only [ALight] <;> first | exact Det.false fun _ h => h | exact Det.at | skip
  case pick x y z =>
    unfold APick; split
    · exact Det.at
    · exact Det.false fun _ h => h
  case load t x =>
    unfold ALoad
    refine Det.ex fun cs => Det.and ?_
    split
    · exact Det.and Det.at
    · exact Det.ex fun _ => Det.and Det.at
    · exact Det.false fun _ h => h
  case nilCheck x =>
    unfold ANil; split <;> first | exact Det.at | exact Det.false fun _ h => h
  case binOp op t x y yt =>
    refine Det.and ?_
    unfold ABin
    split
    · exact det_int
    · exact det_str
    · cases op <;> first | exact Det.false fun _ h => h | exact det_eq hd _
  case unOp op t x => unfold AUn; split <;> first | exact Det.at | exact Det.false fun _ h => h
  case convert s d x =>
    unfold AConv
    split
    · refine Det.and ?_
      split <;> first | exact Det.at | exact Det.false fun _ h => h
    · split <;> first | exact Det.and Det.at | exact Det.and (Det.and (Det.ex fun _ => Det.and Det.at)) | exact Det.false fun _ h => h
    · exact Det.false fun _ h => h
  case slice t x lo hi mx =>
    refine Det.and ?_
    unfold ASlice
    split
    · exact Det.and (Det.ex fun _ => Det.ex fun _ => Det.and (Det.and (Det.and (Det.and (Det.and Det.at)))))
    · exact Det.and (Det.ex fun _ => Det.ex fun _ => Det.and (Det.and (Det.and (Det.and (Det.and Det.at)))))
    · exact Det.and (Det.and (Det.and Det.at))
    · exact Det.and (Det.and (Det.ex fun _ => Det.and (Det.and (Det.and Det.at))))
    · exact Det.false fun _ h => h
  case fieldAddr s x f =>
    unfold AFieldAddr; split
    · refine Det.and ?_
      split <;> first | exact Det.at | exact Det.false fun _ h => h
    · exact Det.false fun _ h => h
  case field t x f =>
    unfold AField; split
    · split
      · exact det_part
      · exact Det.false fun _ h => h
    · exact Det.false fun _ h => h
  case indexAddr t x i =>
    unfold AIndexAddr; split
    · split
      · split
        · exact Det.and (Det.and (Det.ex fun _ => Det.and Det.at))
        · exact Det.and (Det.and (Det.and Det.at))
        · exact Det.false fun _ h => h
      · split
        · exact Det.and (Det.and Det.at)
        · exact Det.and (Det.and Det.at)
        · exact Det.false fun _ h => h
      · exact Det.false fun _ h => h
    · exact Det.false fun _ h => h
  case index t x i =>
    unfold AIndex; split
    · split
      · split
        · exact Det.and (Det.ex fun _ => Det.and Det.at)
        · exact Det.false fun _ h => h
      · split
        · exact Det.and (Det.and (Det.ex fun _ => Det.and det_part))
        · exact Det.false fun _ h => h
      · exact Det.false fun _ h => h
    · exact Det.false fun _ h => h
  case extract x i =>
    unfold AExtract; split
    · exact Det.ex fun _ => Det.and Det.at
    · exact Det.false fun _ h => h
  case build t ps =>
    unfold ABuild
    refine Det.ex fun _ => Det.and ?_
    split
    · exact Det.ex fun _ => Det.and Det.at
    · split
      · exact Det.ex fun _ => Det.and Det.at
      · exact Det.false fun _ h => h
  case makeInterface t x =>
    unfold AIface; split
    · exact Det.and Det.at
    · exact Det.false fun _ h => h
  case makeFunc fn first cs =>
    unfold AFn; split
    · exact Det.at
    · exact Det.false fun _ h => h
  case call cl =>
    split
    · unfold ALen; split <;> first | exact Det.and Det.at | exact Det.false fun _ h => h
    · unfold AMinMax; split <;> first | exact Det.at | exact Det.false fun _ h => h
    · unfold AMinMax; split <;> first | exact Det.at | exact Det.false fun _ h => h
    · exact Det.false fun _ h => h
end

/-! ### what an operation hangs on -/

/-- The second state has the first one's own blocks, and more perhaps. -/
def OwnLe (s t : St) : Prop := ∀ (id : Nat) (es : List AV), s.own[id]? = some (some es) → t.own[id]? = some (some es)

theorem cellsAt_le {s t : St} (h : OwnLe s t) {x : AV} {cs : List AV} (hc : cellsAt s x = some cs) : cellsAt t x = some cs := by
  unfold cellsAt at hc ⊢
  split at hc
  · exact hc
  · rename_i id idx off
    split at hc
    · rename_i es hes
      rw [h id es hes]; exact hc
    · simp at hc
  · simp at hc

theorem evParts_congr {s t : St} {ps : Array (Nat × Operand)} (h : ∀ x ∈ ps.toList.map (·.2), s.ev x = t.ev x) : evParts s ps = evParts t ps := by
  unfold evParts
  apply List.map_congr_left
  intro p hp
  rw [h p.2 (List.mem_map.2 ⟨p, hp, rfl⟩)]

/-- Does it look into own memory? -/
def loadOp : Op → Bool
  | .load .. => true
  | _ => false

theorem light_congr {P : Program} {s t : St} {op : Op} {k : AV → Prop} (h : ∀ x ∈ op.operands, s.ev x = t.ev x) (ho : loadOp op = true → OwnLe s t) (hk : ALight P s op k) : ALight P t op k := by
  cases op <;> simp only [ALight] at hk ⊢ <;> first | exact hk.elim | skip
  case move x => rw [← h x (by simp [Op.operands])]; exact hk
  case assign x => rw [← h x (by simp [Op.operands])]; exact hk
  case pick x y z => rw [← h x (by simp [Op.operands]), ← h y (by simp [Op.operands]), ← h z (by simp [Op.operands])]; exact hk
  case load t' x =>
    rw [← h x (by simp [Op.operands])]
    obtain ⟨cs, h1, h2⟩ := hk
    exact ⟨cs, cellsAt_le (ho rfl) h1, h2⟩
  case nilCheck x => rw [← h x (by simp [Op.operands])]; exact hk
  case binOp op t' x y yt => rw [← h x (by simp [Op.operands]), ← h y (by simp [Op.operands])]; exact hk
  case unOp op t' x => rw [← h x (by simp [Op.operands])]; exact hk
  case convert a b x => rw [← h x (by simp [Op.operands])]; exact hk
  case slice t' x lo hi mx =>
    obtain ⟨rfl, hk⟩ := hk
    have h1 : hi.map s.ev = hi.map t.ev := by
      cases hi with
      | none => rfl
      | some y => simp only [Option.map_some]; rw [h y (by simp [Op.operands])]
    have h2 : lo.map s.ev = lo.map t.ev := by
      cases lo with
      | none => rfl
      | some y => simp only [Option.map_some]; rw [h y (by simp [Op.operands])]
    rw [← h x (by simp [Op.operands]), ← h1, ← h2]
    exact ⟨rfl, hk⟩
  case fieldAddr a x f => rw [← h x (by simp [Op.operands])]; exact hk
  case field a x f => rw [← h x (by simp [Op.operands])]; exact hk
  case indexAddr a x i => rw [← h x (by simp [Op.operands]), ← h i (by simp [Op.operands])]; exact hk
  case index a x i => rw [← h x (by simp [Op.operands]), ← h i (by simp [Op.operands])]; exact hk
  case extract x i => rw [← h x (by simp [Op.operands])]; exact hk
  case build a ps => rw [← evParts_congr (s := s) (fun x hx => h x (by simpa [Op.operands] using hx))]; exact hk
  case makeInterface a x => rw [← h x (by simp [Op.operands])]; exact hk
  case makeFunc fn first cs =>
    have h1 : first.toList.map s.ev = first.toList.map t.ev := List.map_congr_left fun x hx => h x (by simp [Op.operands]; exact .inl (by simpa using hx))
    have h2 : cs.toList.map s.ev = cs.toList.map t.ev := List.map_congr_left fun x hx => h x (by simp [Op.operands]; exact .inr (by simpa using hx))
    rw [← h1, ← h2]; exact hk
  case call cl =>
    obtain ⟨callee, args, tys⟩ := cl
    have ha : ∀ x ∈ args.toList, s.ev x = t.ev x := fun x hx => h x (by simp [Op.operands, Call.operands]; exact .inr (by simpa using hx))
    simp only at hk ⊢
    split at hk
    · rename_i x ty h1 h2
      rw [← ha x (by rw [h1]; simp)]; exact hk
    · rename_i x y h1
      rw [← ha x (by rw [h1]; simp), ← ha y (by rw [h1]; simp)]; exact hk
    · rename_i x y h1
      rw [← ha x (by rw [h1]; simp), ← ha y (by rw [h1]; simp)]; exact hk
    · exact hk.elim

/-- Is it an operation that only looks? -/
def lightOp (P : Program) : Op → Bool
  | .alloc _ | .box .. | .store .. | .buildSlice .. => false
  | .convert _ d _ => match P.underlying d with | some (.slice _) => false | _ => true
  | .call c => match c.callee with | .builtin .len | .builtin .min | .builtin .max => true | _ => false
  | _ => true
def storeOp : Op → Bool
  | .store .. => true
  | _ => false

theorem light_aop {E : Env} {o : Oper} {s : St} {K : St → Prop} (h : lightOp E.P o.op = true) : AOp E o s K ↔ ALight E.P s o.op fun y => K (s.put o.dst y) := by
  obtain ⟨dst, op, type, pos, after, guard⟩ := o
  unfold AOp
  cases op <;> simp only [lightOp] at h <;> first | (simp at h; done) | exact Iff.rfl | skip
  case convert a b x =>
    simp only
    split
    · rename_i hd; simp [hd] at h
    · exact Iff.rfl
  case call cl =>
    obtain ⟨callee, args, tys⟩ := cl
    simp only at h ⊢
    cases callee with
    | value f => simp at h
    | invoke => simp at h
    | builtin b => cases b <;> first | (simp at h; done) | exact Iff.rfl

end Go.Abs
