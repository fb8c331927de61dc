/- Several texts of one chain, put together (BkU, BkV, BkY, BkZ). -/
import Derived.Test.YtajeeghgiilhiaaLc
import Derived.Test.YtajeeghgiilhiaaPo
/- Sums and products within bounds; a sum told in two words. No program. -/
set_option linter.unusedVariables false
set_option linter.unusedSimpArgs false
namespace Go.Bk
open Go Go.Abs
def numB (n : Int) : Bool := decide (-4611686018427387904 ≤ n) && decide (n ≤ 4611686018427387904)
def mulF (a b : Int) : Int × Bool := if numB a && numB b && numB (a * b) then (a * b, true) else (0, false)
def sumL : List Int → Int
  | [] => 0
  | x :: l => x + sumL l
def sumF (l : List Int) : Int × Bool := if l.all numB && numB (sumL l) then (sumL l, true) else (0, false)
theorem sumL_app (l m : List Int) : sumL (l ++ m) = sumL l + sumL m := by
  induction l with
  | nil => simp [sumL]
  | cons x l ih => simp only [List.cons_append, sumL, ih]; omega
theorem numB_iff {n : Int} : numB n = true ↔ -4611686018427387904 ≤ n ∧ n ≤ 4611686018427387904 := by simp [numB]
theorem numB_no {n : Int} : numB n = false ↔ ¬ (-4611686018427387904 ≤ n ∧ n ≤ 4611686018427387904) := by rw [← numB_iff]; simp
abbrev M64 : Int := 18446744073709551616
theorem u64_wrap (x : Int) : IntKind.u64.wrap x = x % M64 := by
  simp only [IntKind.wrap, IntKind.bits, IntKind.signed]
  rfl
/-- The low word, the high word of a number in two's complement. -/
def loW (s : Int) : Int := s % M64
def hiW (s : Int) : Int := (s / M64) % M64
theorem lo_rng (s : Int) : 0 ≤ loW s ∧ loW s < M64 := ⟨Int.emod_nonneg _ (by decide), Int.emod_lt_of_pos _ (by decide)⟩
theorem hi_rng (s : Int) : 0 ≤ hiW s ∧ hiW s < M64 := ⟨Int.emod_nonneg _ (by decide), Int.emod_lt_of_pos _ (by decide)⟩
theorem sar63 {n : Int} (h1 : -9223372036854775808 ≤ n) (h2 : n ≤ 9223372036854775807) : n / 9223372036854775808 = if n < 0 then -1 else 0 := by
  split <;> omega
/-- One number more: the low word, what is carried, the high word. -/
theorem add_lo (s n : Int) : (loW s + n % M64) % M64 = loW (s + n) := by unfold loW M64; omega
theorem add_carry (s n : Int) : (loW s + n % M64) / M64 = 0 ∨ (loW s + n % M64) / M64 = 1 := by
  have h1 := lo_rng s
  have h2 : 0 ≤ n % M64 ∧ n % M64 < M64 := ⟨Int.emod_nonneg _ (by decide), Int.emod_lt_of_pos _ (by decide)⟩
  unfold M64 at *; omega
theorem add_hi {s n : Int} (h1 : -9223372036854775808 ≤ n) (h2 : n ≤ 9223372036854775807) : (hiW s + (n / 9223372036854775808) % M64 + (loW s + n % M64) / M64) % M64 = hiW (s + n) := by
  have e1 : n / 9223372036854775808 = n / M64 := by unfold M64; omega
  have e2 : (s + n) / M64 = s / M64 + n / M64 + (s % M64 + n % M64) / M64 := by unfold M64; omega
  unfold hiW loW
  rw [e1, e2]
  generalize s / M64 = a
  generalize n / M64 = b
  generalize (s % M64 + n % M64) / M64 = c
  unfold M64; omega
/-- A number that fits one word. -/
theorem fits {s : Int} (hs : -85070591730234615865843651857942052864 ≤ s) (hs2 : s ≤ 85070591730234615865843651857942052864) : hiW s = (IntKind.i64.wrap (loW s) / 9223372036854775808) % M64 ↔ IntKind.i64.wrap (loW s) = s := by
  have hw : ∀ x : Int, 0 ≤ x → x < M64 → IntKind.i64.wrap x = if x < 9223372036854775808 then x else x - 18446744073709551616 := by
    intro x h1 h2
    unfold M64 at h2
    split
    · rw [wrap64_id (by omega) (by omega)]
    · have e : IntKind.i64.wrap x = IntKind.i64.wrap (x - 18446744073709551616) := by
        have h3 : x % (2 : Int) ^ IntKind.i64.bits = (x - 18446744073709551616) % (2 : Int) ^ IntKind.i64.bits := by
          show x % (2 : Int) ^ 64 = (x - 18446744073709551616) % (2 : Int) ^ 64
          omega
        unfold IntKind.wrap
        exact congrArg (fun r : Int => if (IntKind.i64.signed && decide (r ≥ 2 ^ (IntKind.i64.bits - 1))) = true then r - 2 ^ IntKind.i64.bits else r) h3
      rw [e, wrap64_id (by omega) (by omega)]
  have h1 := lo_rng s
  rw [hw _ h1.1 h1.2]
  unfold hiW loW M64 at *
  split <;> constructor <;> intro h <;> omega
theorem sumL_bnd {l : List Int} (h : l.all numB = true) : -(l.length * 4611686018427387904 : Int) ≤ sumL l ∧ sumL l ≤ l.length * 4611686018427387904 := by
  induction l with
  | nil => simp [sumL]
  | cons x l ih =>
    simp only [List.all_cons, Bool.and_eq_true] at h
    have h1 := numB_iff.1 h.1
    have h2 := ih h.2
    simp only [sumL, List.length_cons, Int.natCast_add]
    omega
theorem sumF_no {l : List Int} {i : Nat} {x : Int} (h : l[i]? = some x) (h2 : numB x = false) : sumF l = (0, false) := by
  have : l.all numB = false := List.all_eq_false.2 ⟨x, List.mem_of_getElem? h, by simp [h2]⟩
  unfold sumF; rw [this]; rfl
theorem sumF_yes {l : List Int} (h : l.all numB = true) (h2 : numB (sumL l) = true) : sumF l = (sumL l, true) := by unfold sumF; rw [h, h2]; rfl
theorem sumF_over {l : List Int} (h : l.all numB = true) (h2 : numB (sumL l) = false) : sumF l = (0, false) := by unfold sumF; rw [h, h2]; rfl
end Go.Bk

/- A position, told by the book's fills. No program. -/
set_option linter.unusedVariables false
set_option linter.unusedSimpArgs false
namespace Go.Bk
open Go Go.Abs
structure Po where
  acc : Bs
  sym : Bs
  qty : Int
  value : Int
  over : Bool
def sgn (f : Dn) : Int := if f.buy then f.qty else -f.qty
def matB (acc sym : Bs) (f : Dn) : Bool := f.live && decide (f.acc = acc) && decide (f.sym = sym)
def valF (f : Dn) : Int × Bool := mulF (sgn f) f.price
def matsF (acc sym : Bs) (l : List Dn) : List Dn := l.filter (matB acc sym)
def posG (acc sym : Bs) (m : List Dn) : Po :=
  if m.all (fun f => (valF f).2) && ((sumF (m.map sgn)).2 && (sumF (m.map fun f => (valF f).1)).2) then ⟨acc, sym, (sumF (m.map sgn)).1, (sumF (m.map fun f => (valF f).1)).1, false⟩ else ⟨acc, sym, 0, 0, true⟩
def posF (b : Bk) (acc sym : Bs) : Po := if rightBk b then posG acc sym (matsF acc sym b.fills) else ⟨acc, sym, 0, 0, false⟩
section
variable {b : Bk} {acc sym : Bs} {i : Nat} {f : Dn} {qs vs : List Int}
def upM (b : Bk) (acc sym : Bs) (i : Nat) : List Dn := matsF acc sym (b.fills.take i)
theorem matB_iff : matB acc sym f = true ↔ f.live = true ∧ f.acc = acc ∧ f.sym = sym := by simp [matB, and_assoc]
theorem upM_no (hb : b.fills[i]? = some f) (h : ¬ (f.live = true ∧ f.acc = acc ∧ f.sym = sym)) : upM b acc sym (i + 1) = upM b acc sym i := by
  unfold upM matsF; rw [take_next hb, List.filter_append]
  have : matB acc sym f = false := by cases hm : matB acc sym f with
    | false => rfl
    | true => exact absurd (matB_iff.1 hm) h
  simp [this]
theorem upM_yes (hb : b.fills[i]? = some f) (h : f.live = true ∧ f.acc = acc ∧ f.sym = sym) : upM b acc sym (i + 1) = upM b acc sym i ++ [f] := by
  unfold upM matsF; rw [take_next hb, List.filter_append]; simp [matB_iff.2 h]
/-- What is gathered so far. -/
structure Gath (b : Bk) (acc sym : Bs) (i : Nat) (qs vs : List Int) : Prop where
  le : i ≤ b.fills.length
  qs : qs = (upM b acc sym i).map sgn
  vs : vs = (upM b acc sym i).map fun f => (valF f).1
  ok : (upM b acc sym i).all (fun f => (valF f).2) = true
theorem Gath.zero : Gath b acc sym 0 [] [] := ⟨Nat.zero_le _, rfl, rfl, rfl⟩
theorem Gath.no (g : Gath b acc sym i qs vs) (hb : b.fills[i]? = some f) (h : ¬ (f.live = true ∧ f.acc = acc ∧ f.sym = sym)) : Gath b acc sym (i + 1) qs vs := by
  have e := upM_no hb h
  exact ⟨(List.getElem?_eq_some_iff.1 hb).1, by rw [e]; exact g.qs, by rw [e]; exact g.vs, by rw [e]; exact g.ok⟩
theorem Gath.yes (g : Gath b acc sym i qs vs) (hb : b.fills[i]? = some f) (h : f.live = true ∧ f.acc = acc ∧ f.sym = sym) {q : Int} (hq : sgn f = q) (hok : (mulF q f.price).2 = true) : Gath b acc sym (i + 1) (qs ++ [q]) (vs ++ [(mulF q f.price).1]) := by
  have e := upM_yes hb h
  subst hq
  exact ⟨(List.getElem?_eq_some_iff.1 hb).1, by rw [e, List.map_append, ← g.qs]; rfl, by rw [e, List.map_append, ← g.vs]; rfl, by rw [e, List.all_append, g.ok]; simp [valF, hok]⟩
theorem Gath.len (g : Gath b acc sym i qs vs) (hr : rightBk b = true) : qs.length ≤ 256 ∧ vs.length ≤ 256 := by
  have h1 : (upM b acc sym i).length ≤ 256 := by
    have h2 := List.length_filter_le (matB acc sym) (b.fills.take i)
    have h3 := (rightBk_iff.1 hr).1.2.1
    rw [List.length_take] at h2
    unfold upM matsF; omega
  rw [g.qs, g.vs, List.length_map, List.length_map]; exact ⟨h1, h1⟩
theorem pos_over (hr : rightBk b = true) (hb : b.fills[i]? = some f) (h : f.live = true ∧ f.acc = acc ∧ f.sym = sym) {q : Int} (hq : sgn f = q) (hok : (mulF q f.price).2 = false) : posF b acc sym = ⟨acc, sym, 0, 0, true⟩ := by
  have hm : f ∈ matsF acc sym b.fills := List.mem_filter.2 ⟨List.mem_of_getElem? hb, matB_iff.2 h⟩
  have ha : (matsF acc sym b.fills).all (fun f => (valF f).2) = false := List.all_eq_false.2 ⟨f, hm, by subst hq; simp [valF, hok]⟩
  unfold posF posG; rw [if_pos hr, ha]; rfl
theorem Gath.fin (g : Gath b acc sym i qs vs) (hr : rightBk b = true) (hi : b.fills.length ≤ i) : posF b acc sym = if (sumF qs).2 && (sumF vs).2 then ⟨acc, sym, (sumF qs).1, (sumF vs).1, false⟩ else ⟨acc, sym, 0, 0, true⟩ := by
  have e : upM b acc sym i = matsF acc sym b.fills := by unfold upM; rw [List.take_of_length_le hi]
  have h1 := g.ok
  rw [e] at h1
  unfold posF posG; rw [if_pos hr, h1, g.qs, g.vs, e, Bool.true_and]
theorem pos_no1 (g : Gath b acc sym i qs vs) (hr : rightBk b = true) (hi : b.fills.length ≤ i) (h : (sumF qs).2 = false ∨ (sumF vs).2 = false) : posF b acc sym = ⟨acc, sym, 0, 0, true⟩ := by
  rw [g.fin hr hi]; rcases h with h | h <;> simp [h]
theorem pos_yes (g : Gath b acc sym i qs vs) (hr : rightBk b = true) (hi : b.fills.length ≤ i) (h : (sumF qs).2 = true) (h2 : (sumF vs).2 = true) : posF b acc sym = ⟨acc, sym, (sumF qs).1, (sumF vs).1, false⟩ := by
  rw [g.fin hr hi]; simp [h, h2]
theorem pos_none (hr : rightBk b = false) : posF b acc sym = ⟨acc, sym, 0, 0, false⟩ := by unfold posF; rw [hr]; rfl
end
end Go.Bk

/- Positions of a book whose sides are exchanged, of one without its busted fills. No program. -/
set_option linter.unusedVariables false
set_option linter.unusedSimpArgs false
namespace Go.Bk
open Go Go.Abs
def trn (f : Dn) : Dn := ⟨f.id, f.ord, f.acc, f.sym, !f.buy, f.qty, f.price, f.time, f.live⟩
/-- The first sides exchanged. -/
def turnN (l : List Dn) (i : Nat) : List Dn := (l.take i).map trn ++ l.drop i
def liveN (l : List Dn) (i : Nat) : List Dn := (l.take i).filter (·.live)
theorem turnN_len (l : List Dn) (i : Nat) : (turnN l i).length = l.length := by unfold turnN; simp; omega
theorem turnN_zero (l : List Dn) : turnN l 0 = l := by simp [turnN]
theorem turnN_all {l : List Dn} {i : Nat} (h : l.length ≤ i) : turnN l i = l.map trn := by unfold turnN; rw [List.take_of_length_le h, List.drop_eq_nil_of_le h, List.append_nil]
theorem turnN_get {l : List Dn} {i : Nat} {f : Dn} (h : l[i]? = some f) : (turnN l i)[i]? = some f := by
  have hi := get_lt h
  unfold turnN
  rw [List.getElem?_append_right (by simp; omega), List.getElem?_drop]
  rw [List.length_map, List.length_take, show min i l.length = i by omega, show i + (i - i) = i by omega]; exact h
theorem turnN_next {l : List Dn} {i : Nat} {f : Dn} (h : l[i]? = some f) : (turnN l i).set i (trn f) = turnN l (i + 1) := by
  have hi := get_lt h
  unfold turnN
  rw [take_next h, drop_cons h, List.map_append, List.set_append_right _ _ (by simp; omega)]
  have : i - ((l.take i).map trn).length = 0 := by rw [List.length_map, List.length_take]; omega
  rw [this]; simp
theorem liveN_next {l : List Dn} {i : Nat} {f : Dn} (h : l[i]? = some f) (hl : f.live = true) : liveN l (i + 1) = liveN l i ++ [f] := by
  unfold liveN; rw [take_next h, List.filter_append]; simp [hl]
theorem liveN_skip {l : List Dn} {i : Nat} {f : Dn} (h : l[i]? = some f) (hl : f.live = false) : liveN l (i + 1) = liveN l i := by
  unfold liveN; rw [take_next h, List.filter_append]; simp [hl]
theorem liveN_len (l : List Dn) (i : Nat) : (liveN l i).length ≤ l.length := by
  have h := List.length_filter_le (fun f : Dn => f.live) (l.take i)
  rw [List.length_take] at h; unfold liveN; omega
theorem liveN_all {l : List Dn} {i : Nat} (h : l.length ≤ i) : liveN l i = l.filter (·.live) := by unfold liveN; rw [List.take_of_length_le h]
theorem mats_turn (acc sym : Bs) (l : List Dn) : matsF acc sym (l.map trn) = (matsF acc sym l).map trn := by
  unfold matsF; rw [List.filter_map]; congr 1
theorem mats_live (acc sym : Bs) (l : List Dn) : matsF acc sym (l.filter (·.live)) = matsF acc sym l := by
  unfold matsF; rw [List.filter_filter]
  refine List.filter_congr fun f _ => ?_
  unfold matB; cases f.live <;> simp
theorem sgn_trn (f : Dn) : sgn (trn f) = -sgn f := by unfold sgn trn; cases f.buy <;> simp
theorem numB_neg (n : Int) : numB (-n) = numB n := by
  unfold numB
  rw [show decide (-4611686018427387904 ≤ -n) = decide (n ≤ 4611686018427387904) from decide_eq_decide.2 (by omega), show decide (-n ≤ 4611686018427387904) = decide (-4611686018427387904 ≤ n) from decide_eq_decide.2 (by omega), Bool.and_comm]
theorem mulF_neg (a b : Int) : mulF (-a) b = (-(mulF a b).1, (mulF a b).2) := by
  unfold mulF; rw [Int.neg_mul, numB_neg, numB_neg]
  split <;> simp
theorem val_trn (f : Dn) : valF (trn f) = (-(valF f).1, (valF f).2) := by unfold valF; rw [sgn_trn]; exact mulF_neg _ _
theorem sumL_neg : ∀ l : List Int, sumL (l.map fun x => -x) = -sumL l
  | [] => rfl
  | x :: l => by simp only [List.map_cons, sumL, sumL_neg l]; omega
theorem sumF_neg (l : List Int) : sumF (l.map fun x => -x) = (-(sumF l).1, (sumF l).2) := by
  have e : (l.map fun x => -x).all numB = l.all numB := by rw [List.all_map]; congr 1; funext x; exact numB_neg x
  unfold sumF; rw [e, sumL_neg, numB_neg]
  split <;> simp
theorem posG_turn (acc sym : Bs) (m : List Dn) : posG acc sym (m.map trn) = ⟨acc, sym, -(posG acc sym m).qty, -(posG acc sym m).value, (posG acc sym m).over⟩ := by
  have e1 : (m.map trn).all (fun f => (valF f).2) = m.all (fun f => (valF f).2) := by rw [List.all_map]; congr 1; funext f; show (valF (trn f)).2 = _; rw [val_trn]
  have e2 : (m.map trn).map sgn = (m.map sgn).map fun x => -x := by rw [List.map_map, List.map_map]; exact List.map_congr_left fun f _ => sgn_trn f
  have e3 : (m.map trn).map (fun f => (valF f).1) = (m.map fun f => (valF f).1).map fun x => -x := by rw [List.map_map, List.map_map]; exact List.map_congr_left fun f _ => by show (valF (trn f)).1 = _; rw [val_trn]; rfl
  unfold posG; rw [e1, e2, e3, sumF_neg, sumF_neg]
  simp only []
  split <;> simp
section
variable {b : Bk} {acc sym : Bs}
theorem right_turn (hr : rightBk b = true) : rightBk ⟨b.orders, b.fills.map trn, b.ids, b.clock, b.bad⟩ = true := by
  have h := rightBk_iff.1 hr
  refine rightBk_iff.2 ⟨⟨h.1.1, by simpa using h.1.2.1, h.1.2.2⟩, h.2.1, fun f hf => ?_, ?_⟩
  · obtain ⟨g, hg, rfl⟩ := List.mem_map.1 hf
    exact h.2.2.1 g hg
  · have : (b.fills.map trn).map (·.id) = b.fills.map (·.id) := by rw [List.map_map]; exact List.map_congr_left fun f _ => rfl
    rw [this]; exact h.2.2.2
theorem right_live (hr : rightBk b = true) : rightBk ⟨b.orders, b.fills.filter (·.live), b.ids, b.clock, b.bad⟩ = true := by
  have h := rightBk_iff.1 hr
  have hs : (b.fills.filter (·.live)).Sublist b.fills := List.filter_sublist
  refine rightBk_iff.2 ⟨⟨h.1.1, Nat.le_trans (List.length_filter_le _ _) h.1.2.1, h.1.2.2⟩, h.2.1, fun f hf => ?_, ?_⟩
  · exact h.2.2.1 f (List.mem_filter.1 hf).1
  · exact (hs.map _).nodup h.2.2.2
theorem pos_turn (hr : rightBk b = true) : posF ⟨b.orders, b.fills.map trn, b.ids, b.clock, b.bad⟩ acc sym = ⟨acc, sym, -(posF b acc sym).qty, -(posF b acc sym).value, (posF b acc sym).over⟩ := by
  unfold posF; rw [if_pos hr, if_pos (right_turn hr)]
  show posG acc sym (matsF acc sym (b.fills.map trn)) = _
  rw [mats_turn, posG_turn]
theorem pos_live (hr : rightBk b = true) : posF ⟨b.orders, b.fills.filter (·.live), b.ids, b.clock, b.bad⟩ acc sym = posF b acc sym := by
  unfold posF; rw [if_pos hr, if_pos (right_live hr)]
  show posG acc sym (matsF acc sym (b.fills.filter (·.live))) = _
  rw [mats_live]
end
theorem sumF_bnd' (l : List Int) : -4611686018427387904 ≤ (sumF l).1 ∧ (sumF l).1 ≤ 4611686018427387904 := by
  unfold sumF
  split
  · rename_i h
    simp only [Bool.and_eq_true] at h
    exact numB_iff.1 h.2
  · simp
theorem pos_bnds (b : Bk) (acc sym : Bs) : (-4611686018427387904 ≤ (posF b acc sym).qty ∧ (posF b acc sym).qty ≤ 4611686018427387904) ∧ -4611686018427387904 ≤ (posF b acc sym).value ∧ (posF b acc sym).value ≤ 4611686018427387904 := by
  unfold posF posG
  split
  · split
    · exact ⟨sumF_bnd' _, sumF_bnd' _⟩
    · simp
  · simp
theorem pos_names (b : Bk) (acc sym : Bs) : (posF b acc sym).acc = acc ∧ (posF b acc sym).sym = sym := by
  unfold posF posG; split
  · split <;> exact ⟨rfl, rfl⟩
  · exact ⟨rfl, rfl⟩
end Go.Bk

/- What may come at the worst, with all sides exchanged; what was sent, order by order. No program. -/
set_option linter.unusedVariables false
set_option linter.unusedSimpArgs false
namespace Go.Bk
open Go Go.Abs
def trO (o : Od) : Od := ⟨o.id, o.acc, o.sym, !o.buy, o.qty, o.price, o.done, o.opn⟩
def turnO (l : List Od) (i : Nat) : List Od := (l.take i).map trO ++ l.drop i
theorem turnO_len (l : List Od) (i : Nat) : (turnO l i).length = l.length := by unfold turnO; simp; omega
theorem turnO_zero (l : List Od) : turnO l 0 = l := by simp [turnO]
theorem turnO_all {l : List Od} {i : Nat} (h : l.length ≤ i) : turnO l i = l.map trO := by unfold turnO; rw [List.take_of_length_le h, List.drop_eq_nil_of_le h, List.append_nil]
theorem turnO_get {l : List Od} {i : Nat} {f : Od} (h : l[i]? = some f) : (turnO l i)[i]? = some f := by
  have hi := get_lt h
  unfold turnO
  rw [List.getElem?_append_right (by simp; omega), List.getElem?_drop]
  rw [List.length_map, List.length_take, show min i l.length = i by omega, show i + (i - i) = i by omega]; exact h
theorem turnO_next {l : List Od} {i : Nat} {f : Od} (h : l[i]? = some f) : (turnO l i).set i (trO f) = turnO l (i + 1) := by
  have hi := get_lt h
  unfold turnO
  rw [take_next h, drop_cons h, List.map_append, List.set_append_right _ _ (by simp; omega)]
  have : i - ((l.take i).map trO).length = 0 := by rw [List.length_map, List.length_take]; omega
  rw [this]; simp
def swapW (w : Ws) : Ws := (w.2, w.1)
theorem sumW_swap {α β : Type} {f : α → Ws} {g : β → Ws} {t : β → α} (h : ∀ x, f (t x) = swapW (g x)) : ∀ l : List β, sumW ((l.map t).map f) = swapW (sumW (l.map g))
  | [] => rfl
  | x :: l => by
    have ih := sumW_swap h l
    simp only [List.map_cons, sumW, h, ih]; rfl
theorem may_trO (o : Od) : mayB (trO o) = mayB o := rfl
theorem left_trO (o : Od) : leftF (trO o) = leftF o := rfl
theorem side_not (b : Bool) (q : Int) : sideW (!b) q = swapW (sideW b q) := by cases b <;> rfl
theorem ordA_trO (acc sym : Bs) (o : Od) : ordA acc sym (trO o) = swapW (ordA acc sym o) := by
  unfold ordA; rw [left_trO]
  show (if o.acc = acc ∧ o.sym = sym then sideW (!o.buy) (leftF o) else (0, 0)) = _
  split
  · exact side_not _ _
  · rfl
theorem fillA_trn (fin : Bool) (acc sym : Bs) (f : Dn) : fillA fin acc sym (trn f) = swapW (fillA fin acc sym f) := by
  unfold fillA
  show (if f.live = true ∧ f.acc = acc ∧ f.sym = sym then (if (!f.buy) = true then (f.qty, if fin = true then -f.qty else 0) else (if fin = true then -f.qty else 0, f.qty)) else (0, 0)) = _
  split
  · cases f.buy <;> rfl
  · rfl
theorem rightO_turn {l : List Od} (h : rightO l = true) : rightO (l.map trO) = true := by
  have h1 := rightO_iff.1 h
  refine rightO_iff.2 ⟨by simpa using h1.1, fun o ho => ?_, ?_⟩
  · obtain ⟨p, hp, rfl⟩ := List.mem_map.1 ho
    exact h1.2.1 p hp
  · have : (l.map trO).map (·.id) = l.map (·.id) := by rw [List.map_map]; exact List.map_congr_left fun f _ => rfl
    rw [this]; exact h1.2.2
section
variable {b : Bk} {acc sym : Bs}
theorem right_turn2 (hr : rightBk b = true) : rightBk ⟨b.orders.map trO, b.fills.map trn, b.ids, b.clock, b.bad⟩ = true := by
  have h := rightBk_iff.1 (right_turn hr)
  exact rightBk_iff.2 ⟨⟨rightO_turn h.1.1, h.1.2⟩, h.2.1, h.2.2.1, h.2.2.2⟩
theorem of_turn (hr : rightBk b = true) : ofF ⟨b.orders.map trO, b.fills.map trn, b.ids, b.clock, b.bad⟩ acc sym = swapW (ofF b acc sym) := by
  unfold ofF; rw [if_pos hr, if_pos (right_turn2 hr)]
  unfold ofE fillsA
  have e1 : sumW ((b.fills.map trn).map fun f => fillA (finalF ⟨b.orders.map trO, b.fills.map trn, b.ids, b.clock, b.bad⟩ f) acc sym f) = swapW (sumW (b.fills.map fun f => fillA (finalF b f) acc sym f)) := sumW_swap (fun f => by
    show fillA (finalF b f) acc sym (trn f) = _
    exact fillA_trn _ _ _ _) b.fills
  have e2 : sumW ((b.orders.map trO).map (ordA acc sym)) = swapW (sumW (b.orders.map (ordA acc sym))) := sumW_swap (fun o => ordA_trO acc sym o) b.orders
  show ((sumW ((b.fills.map trn).map _)).1 + (sumW ((b.orders.map trO).map (ordA acc sym))).1, (sumW ((b.fills.map trn).map _)).2 + (sumW ((b.orders.map trO).map (ordA acc sym))).2) = _
  rw [e1, e2]; rfl
end
section
variable {l : List Od} {acc sym : Bs} {i : Nat} {o : Od} {w : Ws}
def upP (l : List Od) (acc sym : Bs) (i : Nat) : Ws := sumW ((l.take i).map (pendA acc sym))
theorem pendA_bnd (h : mayB o = true) : Bnd (pendA acc sym o) 1099511627776 := by
  have h2 := h
  simp only [mayB, smallB, Bool.and_eq_true, decide_eq_true_eq] at h2
  unfold pendA
  split
  · exact side_bnd (by omega) (by omega)
  · simp [Bnd]
theorem upP_bnd (hr : rightO l = true) : Bnd (upP l acc sym i) (64 * 1099511627776) := by
  have h := rightO_iff.1 hr
  have h2 : Bnd (sumW ((l.take i).map (pendA acc sym))) (((l.take i).map (pendA acc sym)).length * 1099511627776) := sum_bnd (by omega) (fun x hx => by
    obtain ⟨o, ho, rfl⟩ := List.mem_map.1 hx; exact pendA_bnd (h.2.1 o (List.mem_of_mem_take ho)))
  have h3 : ((l.take i).map (pendA acc sym)).length ≤ 64 := by
    have := h.1
    simp only [List.length_map, List.length_take]; omega
  simp only [Bnd, upP] at *
  omega
theorem upP_next (hb : l[i]? = some o) : upP l acc sym (i + 1) = ((upP l acc sym i).1 + (pendA acc sym o).1, (upP l acc sym i).2 + (pendA acc sym o).2) := by
  unfold upP
  rw [take_next hb, List.map_append, sumW_app]
  simp [sumW]
theorem upP_no (hb : l[i]? = some o) (hw : w = upP l acc sym i) (h : ¬ (o.acc = acc ∧ o.sym = sym)) : w = upP l acc sym (i + 1) := by
  rw [upP_next hb, hw]; unfold pendA; rw [if_neg h]; simp
theorem upP_yes (hr : rightO l = true) (hb : l[i]? = some o) (hw : w = upP l acc sym i) (h : o.acc = acc ∧ o.sym = sym) : plusW w (sideW o.buy (o.qty - o.done)) = upP l acc sym (i + 1) := by
  have hm := right_at hr hb
  have h2 := pendA_bnd (acc := acc) (sym := sym) hm
  have e : pendA acc sym o = sideW o.buy (o.qty - o.done) := by unfold pendA; rw [if_pos h]
  rw [e] at h2
  rw [upP_next hb, hw, plus_eq (upP_bnd hr) h2 (by omega), e]
theorem upP_end (hr : rightO l = true) (hi : l.length ≤ i) (hw : w = upP l acc sym i) : w = pendF l acc sym := by
  rw [hw]; unfold upP pendF; rw [List.take_of_length_le hi, if_pos hr]
theorem pend_no (h : rightO l = false) : pendF l acc sym = (0, 0) := by unfold pendF; rw [h]; rfl
theorem pend_one (hr : rightO l = true) (hb : l[i]? = some o) : pendF [o] acc sym = pendA acc sym o := by
  have hm := right_at hr hb
  have h1 : rightO [o] = true := rightO_iff.2 ⟨by simp, by simpa using hm, by simp⟩
  unfold pendF; rw [if_pos h1]; simp [sumW]
theorem pend_step (hr : rightO l = true) (hb : l[i]? = some o) (hw : w = upP l acc sym i) : plusW w (pendF [o] acc sym) = upP l acc sym (i + 1) := by
  rw [pend_one hr hb, upP_next hb, hw, plus_eq (upP_bnd hr) (pendA_bnd (right_at hr hb)) (by omega)]
end
end Go.Bk
