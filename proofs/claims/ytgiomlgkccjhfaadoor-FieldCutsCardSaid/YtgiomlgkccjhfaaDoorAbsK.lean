/- The rules for code; a function's contract out of its body. -/
import Derived.Test.YtgiomlgkccjhfaaDoorAbsJ
import Derived.Deep.LoopGhost
namespace Go.Abs
open Go Go.RowKit
set_option linter.unusedVariables false
set_option linter.unusedSimpArgs false

/-- What code does to abstract states. -/
def AWP (E : Env) (c : Code) (Q : Exit → St → Prop) (st : St) : Prop :=
  ∀ (w0 : World) (im0 : Im) (cx : Ctx) (a : Act) (w : World), E.ok w0 → GOK E im0 → Rel w0 im0 cx st a w → c.wp E.P (fun e a' w' => Hands w0 im0 (Q e) a' w') a w

def AThen (next : St → Prop) (Q : Exit → St → Prop) : Exit → St → Prop
  | .normal, st => next st
  | e, st => Q e st
def AInBlock (id : Nat) (Q : Exit → St → Prop) : Exit → St → Prop
  | .exit i, st => if i = id then Q .normal st else Q (.exit i) st
  | e, st => Q e st

section
variable {E : Env} {Q : Exit → St → Prop} {st : St}

theorem AWP.mono {c : Code} {Q' : Exit → St → Prop} (h : AWP E c Q st) (hq : ∀ e s, Q e s → Q' e s) : AWP E c Q' st :=
  fun w0 im0 cx a w h0 hG r => wp_mono (h w0 im0 cx a w h0 hG r) fun _ _ _ ⟨c, s, r, q⟩ => ⟨c, s, r, hq _ _ q⟩

theorem AWP.seq {x y : Code} (h : AWP E x (AThen (AWP E y Q) Q) st) : AWP E (.seq x y) Q st := fun w0 im0 cx a w h0 hG r => by
  refine wp_seq (wp_mono (h w0 im0 cx a w h0 hG r) fun e a' w' hh => ?_)
  obtain ⟨c, s, r', q⟩ := hh
  cases e <;> first | exact q w0 im0 c a' w' h0 hG r' | exact ⟨c, s, r', q⟩

theorem AWP.seqk {x y : Code} (h : ∀ K : St → Prop, (∀ s, AWP E y Q s → K s) → AWP E x (AThen K Q) st) : AWP E (.seq x y) Q st := AWP.seq (h _ fun _ h => h)

theorem AWP.skip (h : Q .normal st) : AWP E .skip Q st := fun _ _ cx _ _ _ _ r => wp_skip ⟨cx, st, r, h⟩
theorem AWP.exit {id : Nat} (h : Q (.exit id) st) : AWP E (.exit id) Q st := fun _ _ cx _ _ _ _ r => wp_exit ⟨cx, st, r, h⟩
theorem AWP.ret (h : Q .ret st) : AWP E .ret Q st := fun _ _ cx _ _ _ _ r => wp_ret ⟨cx, st, r, h⟩

theorem AWP.cond {x : Operand} {c d : Code} {b : Bool} (hx : st.ev x = .v (.bool b)) (h1 : b = true → AWP E c Q st) (h2 : b = false → AWP E d Q st) : AWP E (.cond x c d) Q st := fun w0 im0 cx a w h0 hG r => by
  have hv := r.ev x
  rw [hx] at hv
  exact wp_cond_split hv.inv_v (fun hb => h1 hb w0 im0 cx a w h0 hG r) (fun hb => h2 hb w0 im0 cx a w h0 hG r)

theorem AWP.block {id : Nat} {c : Code} (h : AWP E c (AInBlock id Q) st) : AWP E (.block id c) Q st := fun w0 im0 cx a w h0 hG r => by
  refine wp_block (wp_mono (h w0 im0 cx a w h0 hG r) fun e a' w' hh => ?_)
  obtain ⟨c, s, r', q⟩ := hh
  cases e <;> first | exact ⟨c, s, r', q⟩ | skip
  case exit i =>
    simp only [AInBlock, Exit.inBlock] at q ⊢
    split
    · rename_i he; rw [if_pos he] at q; exact ⟨c, s, r', q⟩
    · rename_i he; rw [if_neg he] at q; exact ⟨c, s, r', q⟩

theorem AWP.region {id : Nat} {l : List Oper} (h : AList E l.toArray l st (Q .normal)) : AWP E (.region id l.toArray false) Q st := fun w0 im0 cx a w h0 hG r =>
  wp_region_lit (alist_sound h0 hG (w0 := w0) (im0 := im0) (K := Q .normal) (fun a' w' hh => hh) l r h)

/-- A loop: an invariant with a number that every round lowers. -/
theorem AWP.loop {c : Code} (I : Nat → St → Prop) (n : Nat) (hI0 : I n st) (round : ∀ n s, I n s → AWP E c (AThen (fun s' => ∃ n', n' < n ∧ I n' s') Q) s) : AWP E (.loop c) Q st := fun w0 im0 cx a w h0 hG r => by
  refine wp_loop_ghost (fun n a w => Hands w0 im0 (I n) a w) n ⟨cx, st, r, hI0⟩ ?_
  rintro n a w ⟨c', s, r', hI⟩
  refine wp_mono (round n s hI w0 im0 c' a w h0 hG r') fun e a' w' hh => ?_
  obtain ⟨c2, s2, r2, q⟩ := hh
  cases e <;> first | exact ⟨c2, s2, r2, q⟩ | skip
  case normal =>
    obtain ⟨n', hlt, hI'⟩ := q
    exact ⟨n', hlt, c2, s2, r2, hI'⟩

end

/-! ### weakening -/

/-- Nothing in it hangs on an own block from 'no' on, or a token from 'nt' on. -/
def AV.bel1 (no nt : Nat) : AV → Bool
  | .any | .v _ | .nilS | .rptr _ | .sl none _ _ => true
  | .sl (some t) _ _ => decide (t < nt)
  | .mu i _ _ _ => decide (i < no)
  | .ptr i _ _ => decide (i < no)
  | .fn _ [] => true
  | _ => false
def AV.bel2 (no nt : Nat) : AV → Bool
  | .agg cs => cs.all (AV.bel1 no nt)
  | .fn _ cs => cs.all (AV.bel1 no nt)
  | x => x.bel1 no nt
def AV.bel (no nt : Nat) : AV → Bool
  | .tup cs => cs.all (AV.bel2 no nt)
  | x => x.bel2 no nt

theorem VR.trim1 {c : Ctx} {x : AV} {v : Value} (h : VR c x v) {no nt : Nat} (hb : x.bel1 no nt = true) : VR ⟨c.β.take no, c.tk.take nt, c.im⟩ x v := by
  cases x with
  | any => exact .base (.any _)
  | v x => cases h.inv_v; exact .base (.v _)
  | agg => simp [AV.bel1] at hb
  | tup => simp [AV.bel1] at hb
  | nilS => cases h.inv_nilS; exact .base .nilS
  | sl t k es =>
    cases t with
    | none => exact .base h.sl_base
    | some t =>
      cases h with
      | base h => cases h
      | tok hT h0 hk hle hcur =>
        simp only [AV.bel1, decide_eq_true_eq] at hb
        exact .tok (by rw [List.getElem?_take, if_pos hb]; exact hT) h0 hk hle hcur
  | mu i k off len =>
    obtain ⟨g, cap, h1, h2, rfl⟩ := h.inv_mu
    simp only [AV.bel1, decide_eq_true_eq] at hb
    exact .mu (by rw [List.getElem?_take, if_pos hb]; exact h1) h2
  | ptr i idx off =>
    obtain ⟨g, k, h1, rfl⟩ := h.inv_ptr
    simp only [AV.bel1, decide_eq_true_eq] at hb
    exact .ptr (by rw [List.getElem?_take, if_pos hb]; exact h1)
  | rptr cs => obtain ⟨b, o, rfl, h0⟩ := h.rptr_pt; exact .base h0
  | fn f cs =>
    cases cs with
    | nil =>
      obtain ⟨vs, rfl, hn, _⟩ := h.inv_fn
      have : vs = [] := List.eq_nil_of_length_eq_zero (by simpa using hn)
      subst this
      exact .base (.fn f [] [] rfl (by simp))
    | cons => simp [AV.bel1] at hb

theorem VR.trim2 {c : Ctx} {x : AV} {v : Value} (h : VR c x v) {no nt : Nat} (hb : x.bel2 no nt = true) : VR ⟨c.β.take no, c.tk.take nt, c.im⟩ x v := by
  cases x with
  | agg cs =>
    obtain ⟨vs, rfl, hn, hp⟩ := h.inv_agg
    simp only [AV.bel2, List.all_eq_true] at hb
    exact .agg cs vs hn (fun i y u h1 h2 => (hp i y u h1 h2).trim1 (hb y (List.mem_of_getElem? h1)))
  | fn f cs =>
    obtain ⟨vs, rfl, hn, hp⟩ := h.inv_fn
    simp only [AV.bel2, List.all_eq_true] at hb
    exact .fn f cs vs hn (fun i y u h1 h2 => (hp i y u h1 h2).trim1 (hb y (List.mem_of_getElem? h1)))
  | _ => exact h.trim1 hb

theorem VR.trim {c : Ctx} {x : AV} {v : Value} (h : VR c x v) {no nt : Nat} (hb : x.bel no nt = true) : VR ⟨c.β.take no, c.tk.take nt, c.im⟩ x v := by
  cases x with
  | tup cs =>
    obtain ⟨vs, rfl, hn, hp⟩ := h.inv_tup
    simp only [AV.bel, List.all_eq_true] at hb
    exact .tup cs vs hn (fun i y u h1 h2 => (hp i y u h1 h2).trim2 (hb y (List.mem_of_getElem? h1)))
  | _ => exact h.trim2 hb

/-- Slots of which less is known. -/
def WkT (no nt : Nat) : List AV → List AV → Prop
  | [], [] => True
  | x :: xs, y :: ys => (y = .any ∨ (y = x ∧ x.bel no nt = true)) ∧ WkT no nt xs ys
  | _, _ => False
/-- Own blocks of which less is known, or that are let go. -/
def WkO (no nt : Nat) : List (Option (List AV)) → List (Option (List AV)) → Prop
  | _, [] => True
  | x :: xs, y :: ys => (y = none ∨ (y = x ∧ ∀ es, x = some es → ∀ e ∈ es, ∀ z ∈ e.leaves, z.bel no nt = true)) ∧ WkO no nt xs ys
  | [], _ :: _ => False
def WkK : List Nat → List Nat → Prop
  | _, [] => True
  | x :: xs, y :: ys => y = x ∧ WkK xs ys
  | [], _ :: _ => False
/-- A state of which less is known. -/
def St.Wk (s t : St) : Prop := WkT t.own.length t.tk.length s.tmps t.tmps ∧ WkO t.own.length t.tk.length s.own t.own ∧ WkK s.tk t.tk ∧ t.gl = s.gl ∧ t.rsv = none

theorem WkT.get {no nt : Nat} : ∀ {xs ys : List AV}, WkT no nt xs ys → xs.length = ys.length ∧ ∀ (i : Nat) (y : AV), ys[i]? = some y → y = .any ∨ (xs[i]? = some y ∧ y.bel no nt = true)
  | [], [], _ => ⟨rfl, by simp⟩
  | x :: xs, y :: ys, h => by
    obtain ⟨h1, h2⟩ := WkT.get h.2
    refine ⟨by simp [h1], fun i z hz => ?_⟩
    cases i with
    | zero =>
      simp only [List.getElem?_cons_zero, Option.some.injEq] at hz; subst hz
      rcases h.1 with h | ⟨rfl, h⟩
      · exact .inl h
      · exact .inr ⟨rfl, h⟩
    | succ i => exact h2 i z (by simpa using hz)
  | [], _ :: _, h => h.elim
  | _ :: _, [], h => h.elim
theorem WkO.get {no nt : Nat} : ∀ {xs ys : List (Option (List AV))}, WkO no nt xs ys → ys.length ≤ xs.length ∧ ∀ (i : Nat) (es : List AV), ys[i]? = some (some es) → xs[i]? = some (some es) ∧ ∀ e ∈ es, ∀ z ∈ e.leaves, z.bel no nt = true
  | _, [], _ => ⟨by simp, by simp⟩
  | x :: xs, y :: ys, h => by
    obtain ⟨h1, h2⟩ := WkO.get h.2
    refine ⟨by simp [h1], fun i es he => ?_⟩
    cases i with
    | zero =>
      simp only [List.getElem?_cons_zero, Option.some.injEq] at he; subst he
      rcases h.1 with h | ⟨h, hb⟩
      · simp at h
      · exact ⟨by rw [← h]; rfl, hb es h.symm⟩
    | succ i => exact h2 i es (by simpa using he)
  | [], _ :: _, h => h.elim
theorem WkK.get : ∀ {xs ys : List Nat}, WkK xs ys → ys.length ≤ xs.length ∧ xs.take ys.length = ys
  | _, [], _ => ⟨by simp, by simp⟩
  | x :: xs, y :: ys, h => by
    obtain ⟨h1, h2⟩ := WkK.get h.2
    exact ⟨by simp [h1], by simp [h2, h.1]⟩
  | [], _ :: _, h => h.elim

theorem Rel.weaken {w0 : World} {im0 : Im} {c : Ctx} {s t : St} {a : Act} {w : World} (r : Rel w0 im0 c s a w) (h : s.Wk t) : ∃ d, Rel w0 im0 d t a w := by
  obtain ⟨hT, hO, hK, hgl, hrsv⟩ := h
  obtain ⟨t1, t2⟩ := hT.get
  obtain ⟨o1, o2⟩ := hO.get
  obtain ⟨k1, k2⟩ := hK.get
  have ht : ∀ {i : Nat} {T : Tok}, (c.tk.take t.tk.length)[i]? = some T → i < t.tk.length ∧ c.tk[i]? = some T := fun {i T} hh => by
    rw [List.getElem?_take] at hh
    split at hh
    · exact ⟨by assumption, hh⟩
    · simp at hh
  have hb : ∀ {i : Nat} {p : Option (Nat × Nat)}, (c.β.take t.own.length)[i]? = some p → i < t.own.length ∧ c.β[i]? = some p := fun {i p} hh => by
    rw [List.getElem?_take] at hh
    split at hh
    · exact ⟨by assumption, hh⟩
    · simp at hh
  refine ⟨⟨c.β.take t.own.length, c.tk.take t.tk.length, c.im⟩, r.defers, by rw [r.size]; exact t1, ?_, r.below, r.imle, r.imold, r.imok, ?_, ?_, ?_, ?_, ?_, ?_, fun g cs h => r.glob g cs (by rw [← hgl]; exact h), fun l d i h => by rw [hrsv] at h; simp at h⟩
  · intro i y v h1 h2
    rcases t2 i y h1 with rfl | ⟨h3, h4⟩
    · exact .base (.any _)
    · exact (r.tmps i y v h3 h2).trim h4
  · simp only [List.length_take]; rw [r.ownlen]; omega
  · intro i g k es h1 h2
    obtain ⟨h3, h4⟩ := o2 i es h2
    have := r.own i g k es (hb h1).2 h3
    obtain ⟨cs, ty, lo, hi, a1, a2, a3, a4, a5⟩ := this.blk
    exact ⟨this.new, this.im, cs, ty, lo, hi, a1, a2, a3, a4, fun i' e j x e1 e2 => let ⟨v, v1, v2, v3⟩ := a5 i' e j x e1 e2; ⟨v, v1, v2.trim (h4 e (List.mem_of_getElem? e1) x (List.mem_of_getElem? e2)), v3⟩⟩
  · simp only [List.length_take]; rw [r.tklen]; omega
  · intro i T hh
    obtain ⟨h1, h2⟩ := ht hh
    have := r.tail i T h2
    rw [← k2, List.getElem?_take, if_pos h1]
    exact this
  · intro i T b h1 h2
    exact r.tok i T b (ht h1).2 h2
  · refine ⟨?_, ?_, ?_⟩
    · intro i j g k g' k' e e' h1 h2 h3 h4 hne
      exact r.apart.oo i j g k g' k' e e' (hb h1).2 (hb h2).2 (o2 i e h3).1 (o2 j e' h4).1 hne
    · intro i u g k e T b h1 h2 h3 h4
      exact r.apart.ot i u g k e T b (hb h1).2 (o2 i e h2).1 (ht h3).2 h4
    · intro u v U V b d h1 h2 h3 h4 hne
      exact r.apart.tt u v U V b d (ht h1).2 (ht h2).2 h3 h4 hne

theorem AWP.weaken {E : Env} {c : Code} {Q : Exit → St → Prop} {s t : St} (h : s.Wk t) (hw : AWP E c Q t) : AWP E c Q s := fun w0 im0 cx a w h0 hG r =>
  let ⟨d, r'⟩ := r.weaken h
  hw w0 im0 d a w h0 hG r'

/-- A loop whose states are told by one state with letters in it: at the head, and behind each round, no more is known than that. -/
theorem AWP.loopS {E : Env} {Q : Exit → St → Prop} {st : St} {ι : Type} {c : Code} (S : ι → St) (I : ι → Prop) (μ : ι → Nat) (i : ι) (hw0 : st.Wk (S i)) (hI : I i)
    (round : ∀ i, I i → AWP E c (AThen (fun s' => ∃ j, s'.Wk (S j) ∧ I j ∧ μ j < μ i) Q) (S i)) : AWP E (.loop c) Q st := fun w0 im0 cx a w h0 hG r => by
  obtain ⟨d, r'⟩ := r.weaken hw0
  refine wp_loop_ghost (fun n a w => ∃ j, I j ∧ μ j = n ∧ ∃ c, Rel w0 im0 c (S j) a w) (μ i) ⟨i, hI, rfl, d, r'⟩ ?_
  rintro n a w ⟨j, hj, rfl, c', r'⟩
  refine wp_mono (round j hj w0 im0 c' a w h0 hG r') fun e a' w' hh => ?_
  obtain ⟨c2, s2, r2, q⟩ := hh
  cases e <;> first | exact ⟨c2, s2, r2, q⟩ | skip
  case normal =>
    obtain ⟨j', hwk, hI', hlt⟩ := q
    obtain ⟨d, r3⟩ := r2.weaken hwk
    exact ⟨μ j', hlt, j', hI', rfl, d, r3⟩

/-- A nil slice is one that anybody may append to. -/
theorem AWP.nilTok {E : Env} {c : Code} {Q : Exit → St → Prop} {s : St} (i : Nat) (k : Nat) (h : s.tmps[i]? = some .nilS) (hw : AWP E c Q { s with tmps := s.tmps.set i (.sl (some s.tk.length) k []), tk := s.tk ++ [0] }) : AWP E c Q s := fun w0 im0 cx a w h0 hG r => by
  obtain ⟨c', hle, r', hv⟩ := r.nilTok k
  refine hw w0 im0 c' a w h0 hG ?_
  refine ⟨r'.defers, by simp [r'.size], fun j x v h1 h2 => ?_, r'.below, r'.imle, r'.imold, r'.imok, r'.ownlen, r'.own, r'.tklen, r'.tail, r'.tok, r'.apart, r'.glob, r'.hole⟩
  rw [List.getElem?_set] at h1
  split at h1
  · rename_i hij
    subst hij
    split at h1
    · simp only [Option.some.injEq] at h1; subst h1
      have := r.tmps i _ v h h2
      cases this.inv_nilS
      exact hv
    · simp at h1
  · exact r'.tmps j x v h1 h2

/-! ### a function -/

/-- What is handed out of a value: 'sel' says which tokens go along: (true, t): token t; (false, k): a new one, of k cells an element, for a nil slice. -/
def OutV (sel : List (Bool × Nat)) : AV → AV → Prop
  | .sl (some t) k es, .sl (some i) k' es' => sel[i]? = some (true, t) ∧ k = k' ∧ es = es'
  | .sl _ k es, .sl none k' es' => k = k' ∧ es = es'
  | .nilS, .sl none _ [] => True
  | .nilS, .sl (some i) k [] => sel[i]? = some (false, k)
  | .nilS, .nilS => True
  | .v x, .v y => x = y
  | .rptr cs, .rptr ds => cs = ds
  | _, .any => True
  | _, _ => False
def OutL (sel : List (Bool × Nat)) : List AV → List AV → Prop
  | [], [] => True
  | x :: xs, y :: ys => OutV sel x y ∧ OutL sel xs ys
  | _, _ => False
def OutA (sel : List (Bool × Nat)) : AV → AV → Prop
  | .agg xs, .agg ys => OutL sel xs ys
  | x, y => OutV sel x y
def OutLA (sel : List (Bool × Nat)) : List AV → List AV → Prop
  | [], [] => True
  | x :: xs, y :: ys => OutA sel x y ∧ OutLA sel xs ys
  | _, _ => False
def OutT (sel : List (Bool × Nat)) : AV → AV → Prop
  | .tup xs, .tup ys => OutLA sel xs ys
  | x, y => OutA sel x y

/-- The tokens that go along: each once, each there. -/
def selOK (n : Nat) : List (Bool × Nat) → Bool
  | [] => true
  | (true, t) :: l => decide (t < n) && !(l.contains (true, t)) && selOK n l
  | (false, _) :: l => selOK n l
def selTk (c : Ctx) : List (Bool × Nat) → List Tok
  | [] => []
  | (true, t) :: l => c.tk.getD t ⟨none, 0, 0, 0⟩ :: selTk c l
  | (false, k) :: l => ⟨none, 0, 0, k⟩ :: selTk c l
def selLens (tk : List Nat) : List (Bool × Nat) → List Nat
  | [] => []
  | (true, t) :: l => tk.getD t 0 :: selLens tk l
  | (false, _) :: l => 0 :: selLens tk l

section
variable {P : Program} {w0 : World} {im0 : Im} {c : Ctx} {st : St} {a : Act} {w : World}

theorem selTk_get : ∀ {sel : List (Bool × Nat)} {i : Nat}, (selTk c sel)[i]? = (sel[i]?).map fun p => if p.1 = true then c.tk.getD p.2 ⟨none, 0, 0, 0⟩ else ⟨none, 0, 0, p.2⟩
  | [], i => by simp [selTk]
  | (true, t) :: l, i => by cases i with
    | zero => simp [selTk]
    | succ i => simp only [selTk, List.getElem?_cons_succ]; exact selTk_get
  | (false, k) :: l, i => by cases i with
    | zero => simp [selTk]
    | succ i => simp only [selTk, List.getElem?_cons_succ]; exact selTk_get

theorem selLens_eq (r : Rel w0 im0 c st a w) : ∀ {sel : List (Bool × Nat)}, selOK st.tk.length sel = true → (selTk c sel).map (·.tail) = selLens st.tk sel
  | [], _ => rfl
  | (true, t) :: l, h => by
    simp only [selOK, Bool.and_eq_true, decide_eq_true_eq] at h
    have hlt : t < c.tk.length := by rw [r.tklen]; exact h.1.1
    have h1 : c.tk[t]? = some c.tk[t] := by simp [hlt]
    have h2 := r.tail t _ h1
    simp only [selTk, List.map_cons, selLens, selLens_eq r h.2, List.getD_eq_getElem?_getD, h1, h2, Option.getD_some]
  | (false, k) :: l, h => by
    simp only [selOK] at h
    simp only [selTk, List.map_cons, selLens, selLens_eq r h]

theorem selOK_lt : ∀ {n : Nat} {sel : List (Bool × Nat)} {i t : Nat}, selOK n sel = true → sel[i]? = some (true, t) → t < n
  | n, (true, u) :: l, i, t, h, he => by
    simp only [selOK, Bool.and_eq_true, decide_eq_true_eq] at h
    cases i with
    | zero => simp only [List.getElem?_cons_zero, Option.some.injEq, Prod.mk.injEq, true_and] at he; subst he; exact h.1.1
    | succ i => exact selOK_lt h.2 (by simpa using he)
  | n, (false, k) :: l, i, t, h, he => by
    simp only [selOK] at h
    cases i with
    | zero => simp at he
    | succ i => exact selOK_lt h (by simpa using he)
  | n, [], i, t, h, he => by simp at he

theorem selOK_inj : ∀ {n : Nat} {sel : List (Bool × Nat)} {i j t : Nat}, selOK n sel = true → sel[i]? = some (true, t) → sel[j]? = some (true, t) → i = j
  | n, (true, u) :: l, i, j, t, h, h1, h2 => by
    simp only [selOK, Bool.and_eq_true, decide_eq_true_eq, Bool.not_eq_true', List.contains_eq_mem, decide_eq_false_iff_not] at h
    cases i with
    | zero => cases j with
      | zero => rfl
      | succ j =>
        simp only [List.getElem?_cons_zero, Option.some.injEq, Prod.mk.injEq, true_and] at h1; subst h1
        exact absurd (List.mem_of_getElem? (by simpa using h2)) h.1.2
    | succ i => cases j with
      | zero =>
        simp only [List.getElem?_cons_zero, Option.some.injEq, Prod.mk.injEq, true_and] at h2; subst h2
        exact absurd (List.mem_of_getElem? (by simpa using h1)) h.1.2
      | succ j => exact congrArg Nat.succ (selOK_inj h.2 (by simpa using h1) (by simpa using h2))
  | n, (false, k) :: l, i, j, t, h, h1, h2 => by
    simp only [selOK] at h
    cases i with
    | zero => simp at h1
    | succ i => cases j with
      | zero => simp at h2
      | succ j => exact congrArg Nat.succ (selOK_inj h (by simpa using h1) (by simpa using h2))
  | n, [], i, j, t, h, h1, h2 => by simp at h1

theorem selToks (r : Rel w0 im0 c st a w) {sel : List (Bool × Nat)} (h : selOK st.tk.length sel = true) : ToksOK c.im w0.heap.size w (selTk c sel) := by
  have key : ∀ (i : Nat) (T : Tok) (b : Nat), (selTk c sel)[i]? = some T → T.blk = some b → ∃ t, sel[i]? = some (true, t) ∧ c.tk[t]? = some T := by
    intro i T b h1 h2
    rw [selTk_get] at h1
    cases hs : sel[i]? with
    | none => simp [hs] at h1
    | some p =>
      obtain ⟨q, t⟩ := p
      simp only [hs, Option.map_some, Option.some.injEq] at h1
      cases q with
      | false => simp at h1; subst h1; simp at h2
      | true =>
        simp only [if_true] at h1
        have hlt : t < c.tk.length := by rw [r.tklen]; exact selOK_lt h hs
        refine ⟨t, rfl, ?_⟩
        simp only [List.getD_eq_getElem?_getD, List.getElem?_eq_getElem hlt, Option.getD_some] at h1
        rw [← h1]; simp [hlt]
  refine ⟨fun i T b h1 h2 => ?_, fun i j T U b d h1 h2 h3 h4 hne => ?_⟩
  · obtain ⟨t, _, h5⟩ := key i T b h1 h2
    exact r.tok t T b h5 h2
  · obtain ⟨t, e1, h5⟩ := key i T b h1 h3
    obtain ⟨u, e2, h6⟩ := key j U d h2 h4
    refine r.apart.tt t u T U b d h5 h6 h3 h4 (fun e => hne ?_)
    subst e
    exact selOK_inj h e1 e2

theorem outV_ok (r : Rel w0 im0 c st a w) {sel : List (Bool × Nat)} (hs : selOK st.tk.length sel = true) {x y : AV} {v : Value} (h : VR c x v) (ho : OutV sel x y) : VR ⟨[], selTk c sel, c.im⟩ y v := by
  unfold OutV at ho
  split at ho
  · rename_i t k es i k' es'
    obtain ⟨h1, rfl, rfl⟩ := ho
    cases h with
    | base h => cases h
    | tok hT h0 hk hle hcur =>
      refine .tok ?_ h0 hk hle hcur
      rw [selTk_get, h1]
      simp [List.getD_eq_getElem?_getD, hT]
  · obtain ⟨rfl, rfl⟩ := ho
    exact .base h.sl_base
  · cases h.inv_nilS; exact .base (.sl0 _ _ _)
  · rename_i i k
    cases h.inv_nilS
    exact .tok (T := ⟨none, 0, 0, k⟩) (by rw [selTk_get, ho]; simp) (.sl0 k none 0) rfl (Nat.le_refl _) (fun _ => .inl ⟨rfl, rfl⟩)
  · cases h.inv_nilS; exact .base .nilS
  · subst ho; cases h.inv_v; exact .base (.v _)
  · subst ho; obtain ⟨b, o, rfl, h0⟩ := h.rptr_pt; exact .base h0
  · exact .base (.any _)
  · exact ho.elim

theorem outL_get {sel : List (Bool × Nat)} : ∀ {xs ys : List AV}, OutL sel xs ys → xs.length = ys.length ∧ ∀ (i : Nat) (y : AV), ys[i]? = some y → ∃ x, xs[i]? = some x ∧ OutV sel x y
  | [], [], _ => ⟨rfl, by simp⟩
  | x :: xs, y :: ys, h => by
    obtain ⟨h1, h2⟩ := outL_get h.2
    refine ⟨by simp [h1], fun i z hz => ?_⟩
    cases i with
    | zero => simp only [List.getElem?_cons_zero, Option.some.injEq] at hz; subst hz; exact ⟨x, rfl, h.1⟩
    | succ i => exact h2 i z (by simpa using hz)
  | [], _ :: _, h => h.elim
  | _ :: _, [], h => h.elim
theorem outLA_get {sel : List (Bool × Nat)} : ∀ {xs ys : List AV}, OutLA sel xs ys → xs.length = ys.length ∧ ∀ (i : Nat) (y : AV), ys[i]? = some y → ∃ x, xs[i]? = some x ∧ OutA sel x y
  | [], [], _ => ⟨rfl, by simp⟩
  | x :: xs, y :: ys, h => by
    obtain ⟨h1, h2⟩ := outLA_get h.2
    refine ⟨by simp [h1], fun i z hz => ?_⟩
    cases i with
    | zero => simp only [List.getElem?_cons_zero, Option.some.injEq] at hz; subst hz; exact ⟨x, rfl, h.1⟩
    | succ i => exact h2 i z (by simpa using hz)
  | [], _ :: _, h => h.elim
  | _ :: _, [], h => h.elim

theorem outA_ok (r : Rel w0 im0 c st a w) {sel : List (Bool × Nat)} (hs : selOK st.tk.length sel = true) {x y : AV} {v : Value} (h : VR c x v) (ho : OutA sel x y) : VR ⟨[], selTk c sel, c.im⟩ y v := by
  unfold OutA at ho
  split at ho
  · rename_i xs ys
    obtain ⟨h1, h2⟩ := outL_get ho
    obtain ⟨vs, rfl, hn, hp⟩ := h.inv_agg
    refine .agg ys vs (by omega) (fun i y u e1 e2 => ?_)
    obtain ⟨x, hx, hxo⟩ := h2 i y e1
    exact outV_ok r hs (hp i x u hx e2) hxo
  · exact outV_ok r hs h ho

theorem outT_ok (r : Rel w0 im0 c st a w) {sel : List (Bool × Nat)} (hs : selOK st.tk.length sel = true) {x y : AV} {v : Value} (h : VR c x v) (ho : OutT sel x y) : VR ⟨[], selTk c sel, c.im⟩ y v := by
  unfold OutT at ho
  split at ho
  · rename_i xs ys
    obtain ⟨h1, h2⟩ := outLA_get ho
    obtain ⟨vs, rfl, hn, hp⟩ := h.inv_tup
    refine .tup ys vs (by omega) (fun i y u e1 e2 => ?_)
    obtain ⟨x, hx, hxo⟩ := h2 i y e1
    exact outA_ok r hs (hp i x u hx e2) hxo
  · exact outA_ok r hs h ho

/-- What a function's results hold. -/
def ARes (P : Program) (st : St) : List ResultVar → (List AV → Prop) → Prop
  | [], k => k []
  | .tmp t :: rs, k => ARes P st rs fun l => k (st.ev (.tmp t) :: l)
  | .cell x t :: rs, k => ALoad P st t (st.ev (.tmp x)) fun y => ARes P st rs fun l => k (y :: l)
def tupOf : List AV → AV
  | [x] => x
  | l => .tup l
/-- A body's end. -/
def AEnd (P : Program) (rs : List ResultVar) (R : AV → List Nat → Prop) (st : St) : Prop :=
  ARes P st rs fun l => ∃ sel y, selOK st.tk.length sel = true ∧ OutT sel (tupOf l) y ∧ R y (selLens st.tk sel)
def APost (P : Program) (rs : List ResultVar) (R : AV → List Nat → Prop) : Exit → St → Prop
  | .normal, st | .ret, st => AEnd P rs R st
  | _, _ => False
end
end Go.Abs
