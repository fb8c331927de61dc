/- A position, told by the book's fills. No program. -/
import Derived.Test.YtlhdnenlgceeeaaBkU
import Derived.Test.YtlhdnenlgceeeaaBkS
set_option linter.unusedVariables false
set_option linter.unusedSimpArgs false
namespace Go.Bk
open Go Go.Abs
structure Po where
  acc : Bs
  sym : Bs
  qty : Int
  value : Int
  over : Bool
def sgn (f : Dn) : Int := if f.buy then f.qty else -f.qty
def matB (acc sym : Bs) (f : Dn) : Bool := f.live && decide (f.acc = acc) && decide (f.sym = sym)
def valF (f : Dn) : Int × Bool := mulF (sgn f) f.price
def matsF (acc sym : Bs) (l : List Dn) : List Dn := l.filter (matB acc sym)
def posG (acc sym : Bs) (m : List Dn) : Po :=
  if m.all (fun f => (valF f).2) && ((sumF (m.map sgn)).2 && (sumF (m.map fun f => (valF f).1)).2) then ⟨acc, sym, (sumF (m.map sgn)).1, (sumF (m.map fun f => (valF f).1)).1, false⟩ else ⟨acc, sym, 0, 0, true⟩
def posF (b : Bk) (acc sym : Bs) : Po := if rightBk b then posG acc sym (matsF acc sym b.fills) else ⟨acc, sym, 0, 0, false⟩
section
variable {b : Bk} {acc sym : Bs} {i : Nat} {f : Dn} {qs vs : List Int}
def upM (b : Bk) (acc sym : Bs) (i : Nat) : List Dn := matsF acc sym (b.fills.take i)
theorem matB_iff : matB acc sym f = true ↔ f.live = true ∧ f.acc = acc ∧ f.sym = sym := by simp [matB, and_assoc]
theorem upM_no (hb : b.fills[i]? = some f) (h : ¬ (f.live = true ∧ f.acc = acc ∧ f.sym = sym)) : upM b acc sym (i + 1) = upM b acc sym i := by
  unfold upM matsF; rw [take_next hb, List.filter_append]
  have : matB acc sym f = false := by cases hm : matB acc sym f with
    | false => rfl
    | true => exact absurd (matB_iff.1 hm) h
  simp [this]
theorem upM_yes (hb : b.fills[i]? = some f) (h : f.live = true ∧ f.acc = acc ∧ f.sym = sym) : upM b acc sym (i + 1) = upM b acc sym i ++ [f] := by
  unfold upM matsF; rw [take_next hb, List.filter_append]; simp [matB_iff.2 h]
/-- What is gathered so far. -/
structure Gath (b : Bk) (acc sym : Bs) (i : Nat) (qs vs : List Int) : Prop where
  le : i ≤ b.fills.length
  qs : qs = (upM b acc sym i).map sgn
  vs : vs = (upM b acc sym i).map fun f => (valF f).1
  ok : (upM b acc sym i).all (fun f => (valF f).2) = true
theorem Gath.zero : Gath b acc sym 0 [] [] := ⟨Nat.zero_le _, rfl, rfl, rfl⟩
theorem Gath.no (g : Gath b acc sym i qs vs) (hb : b.fills[i]? = some f) (h : ¬ (f.live = true ∧ f.acc = acc ∧ f.sym = sym)) : Gath b acc sym (i + 1) qs vs := by
  have e := upM_no hb h
  exact ⟨(List.getElem?_eq_some_iff.1 hb).1, by rw [e]; exact g.qs, by rw [e]; exact g.vs, by rw [e]; exact g.ok⟩
theorem Gath.yes (g : Gath b acc sym i qs vs) (hb : b.fills[i]? = some f) (h : f.live = true ∧ f.acc = acc ∧ f.sym = sym) {q : Int} (hq : sgn f = q) (hok : (mulF q f.price).2 = true) : Gath b acc sym (i + 1) (qs ++ [q]) (vs ++ [(mulF q f.price).1]) := by
  have e := upM_yes hb h
  subst hq
  exact ⟨(List.getElem?_eq_some_iff.1 hb).1, by rw [e, List.map_append, ← g.qs]; rfl, by rw [e, List.map_append, ← g.vs]; rfl, by rw [e, List.all_append, g.ok]; simp [valF, hok]⟩
theorem Gath.len (g : Gath b acc sym i qs vs) (hr : rightBk b = true) : qs.length ≤ 256 ∧ vs.length ≤ 256 := by
  have h1 : (upM b acc sym i).length ≤ 256 := by
    have h2 := List.length_filter_le (matB acc sym) (b.fills.take i)
    have h3 := (rightBk_iff.1 hr).1.2.1
    rw [List.length_take] at h2
    unfold upM matsF; omega
  rw [g.qs, g.vs, List.length_map, List.length_map]; exact ⟨h1, h1⟩
theorem pos_over (hr : rightBk b = true) (hb : b.fills[i]? = some f) (h : f.live = true ∧ f.acc = acc ∧ f.sym = sym) {q : Int} (hq : sgn f = q) (hok : (mulF q f.price).2 = false) : posF b acc sym = ⟨acc, sym, 0, 0, true⟩ := by
  have hm : f ∈ matsF acc sym b.fills := List.mem_filter.2 ⟨List.mem_of_getElem? hb, matB_iff.2 h⟩
  have ha : (matsF acc sym b.fills).all (fun f => (valF f).2) = false := List.all_eq_false.2 ⟨f, hm, by subst hq; simp [valF, hok]⟩
  unfold posF posG; rw [if_pos hr, ha]; rfl
theorem Gath.fin (g : Gath b acc sym i qs vs) (hr : rightBk b = true) (hi : b.fills.length ≤ i) : posF b acc sym = if (sumF qs).2 && (sumF vs).2 then ⟨acc, sym, (sumF qs).1, (sumF vs).1, false⟩ else ⟨acc, sym, 0, 0, true⟩ := by
  have e : upM b acc sym i = matsF acc sym b.fills := by unfold upM; rw [List.take_of_length_le hi]
  have h1 := g.ok
  rw [e] at h1
  unfold posF posG; rw [if_pos hr, h1, g.qs, g.vs, e, Bool.true_and]
theorem pos_no1 (g : Gath b acc sym i qs vs) (hr : rightBk b = true) (hi : b.fills.length ≤ i) (h : (sumF qs).2 = false ∨ (sumF vs).2 = false) : posF b acc sym = ⟨acc, sym, 0, 0, true⟩ := by
  rw [g.fin hr hi]; rcases h with h | h <;> simp [h]
theorem pos_yes (g : Gath b acc sym i qs vs) (hr : rightBk b = true) (hi : b.fills.length ≤ i) (h : (sumF qs).2 = true) (h2 : (sumF vs).2 = true) : posF b acc sym = ⟨acc, sym, (sumF qs).1, (sumF vs).1, false⟩ := by
  rw [g.fin hr hi]; simp [h, h2]
theorem pos_none (hr : rightBk b = false) : posF b acc sym = ⟨acc, sym, 0, 0, false⟩ := by unfold posF; rw [hr]; rfl
end
end Go.Bk
