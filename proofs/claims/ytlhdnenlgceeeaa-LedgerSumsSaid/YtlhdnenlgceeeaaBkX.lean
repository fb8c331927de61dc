/- What a position becomes, execution by execution. No program. -/
import Derived.Test.YtlhdnenlgceeeaaBkW
set_option linter.unusedVariables false
set_option linter.unusedSimpArgs false
namespace Go.Bk
open Go Go.Abs
def sgx (b : Bool) : Int := if b then 1 else -1
def pdF (a b : Int) : Int := if 1000000 < a ∨ 1000000 < b then 0 else IntKind.i64.wrap (a * b)
def cS (acc sym : Bs) (f : Dn) : Int := if matB acc sym f then sgn f else 0
def cV (acc sym : Bs) (f : Dn) : Int := if matB acc sym f then sgn f * f.price else 0
def SmallD (l : List Dn) : Prop := ∀ f ∈ l, 0 ≤ f.qty ∧ f.qty ≤ 1000000 ∧ 0 ≤ f.price ∧ f.price ≤ 1000000
theorem prod_bnd {a b : Int} (h1 : 0 ≤ a) (h2 : a ≤ 1000000) (h3 : 0 ≤ b) (h4 : b ≤ 1000000) : 0 ≤ a * b ∧ a * b ≤ 1000000000000 := by
  refine ⟨Int.mul_nonneg h1 h3, ?_⟩
  have := Int.mul_le_mul h2 h4 h3 (by omega : (0 : Int) ≤ 1000000)
  omega
theorem pd_small {a b : Int} (h1 : 0 ≤ a) (h2 : a ≤ 1000000) (h3 : 0 ≤ b) (h4 : b ≤ 1000000) : pdF a b = a * b := by
  have := prod_bnd h1 h2 h3 h4
  unfold pdF; rw [if_neg (by omega), wrap64_id (by omega) (by omega)]
theorem pd_bnd {a b : Int} (h1 : 0 ≤ a) (h3 : 0 ≤ b) : 0 ≤ pdF a b ∧ pdF a b ≤ 1000000000000 := by
  by_cases h : 1000000 < a ∨ 1000000 < b
  · unfold pdF; rw [if_pos h]; omega
  · rw [pd_small h1 (by omega) h3 (by omega)]; exact prod_bnd h1 (by omega) h3 (by omega)
theorem sum_S (acc sym : Bs) : ∀ l : List Dn, sumL ((matsF acc sym l).map sgn) = sumL (l.map (cS acc sym))
  | [] => rfl
  | f :: l => by
    have ih := sum_S acc sym l
    unfold matsF at ih ⊢
    rw [List.filter_cons, List.map_cons]
    simp only [sumL, cS]
    by_cases h : matB acc sym f = true
    · rw [if_pos h, if_pos h]; simp only [List.map_cons, sumL]; rw [ih]
    · rw [if_neg h, if_neg h, ih, Int.zero_add]
theorem sum_V (acc sym : Bs) : ∀ l : List Dn, sumL ((matsF acc sym l).map fun f => sgn f * f.price) = sumL (l.map (cV acc sym))
  | [] => rfl
  | f :: l => by
    have ih := sum_V acc sym l
    unfold matsF at ih ⊢
    rw [List.filter_cons, List.map_cons]
    simp only [sumL, cV]
    by_cases h : matB acc sym f = true
    · rw [if_pos h, if_pos h]; simp only [List.map_cons, sumL]; rw [ih]
    · rw [if_neg h, if_neg h, ih, Int.zero_add]
theorem sumL_set {α : Type} {g : α → Int} : ∀ {l : List α} {n : Nat} {x y : α}, l[n]? = some x → sumL ((l.set n y).map g) = sumL (l.map g) - g x + g y
  | [], n, x, y, h => by simp at h
  | z :: l, 0, x, y, h => by
    simp only [List.getElem?_cons_zero, Option.some.injEq] at h; subst h
    simp only [List.set_cons_zero, List.map_cons, sumL]; omega
  | z :: l, n + 1, x, y, h => by
    simp only [List.getElem?_cons_succ] at h
    simp only [List.set_cons_succ, List.map_cons, sumL, sumL_set h]; omega
theorem sgn_sg (f : Dn) : sgn f = sgx f.buy * f.qty := by unfold sgn sgx; cases f.buy <;> simp
theorem sgn_bnd {f : Dn} (h1 : 0 ≤ f.qty) (h2 : f.qty ≤ 1000000) : -1000000 ≤ sgn f ∧ sgn f ≤ 1000000 := by unfold sgn; split <;> omega
theorem sgp_bnd {f : Dn} (h1 : 0 ≤ f.qty) (h2 : f.qty ≤ 1000000) (h3 : 0 ≤ f.price) (h4 : f.price ≤ 1000000) : -1000000000000 ≤ sgn f * f.price ∧ sgn f * f.price ≤ 1000000000000 := by
  have := prod_bnd h1 h2 h3 h4
  unfold sgn; split
  · omega
  · rw [Int.neg_mul]; omega
theorem sumL_small {l : List Int} {c : Int} (hc : 0 ≤ c) (h : ∀ x ∈ l, -c ≤ x ∧ x ≤ c) : -(l.length * c) ≤ sumL l ∧ sumL l ≤ l.length * c := by
  induction l with
  | nil => simp [sumL]
  | cons x l ih =>
    have h1 := h x (by simp)
    have h2 := ih fun w hw => h w (by simp [hw])
    simp only [sumL, List.length_cons]
    rw [show (((l.length + 1 : Nat) : Int)) * c = l.length * c + c by rw [Int.natCast_add, Int.add_mul]; simp]
    omega
theorem pos_small {b : Bk} {acc sym : Bs} (hr : rightBk b = true) (hs : SmallD b.fills) (hl : b.fills.length ≤ 100) :
    posF b acc sym = ⟨acc, sym, sumL (b.fills.map (cS acc sym)), sumL (b.fills.map (cV acc sym)), false⟩ ∧ -100000000 ≤ sumL (b.fills.map (cS acc sym)) ∧ sumL (b.fills.map (cS acc sym)) ≤ 100000000 ∧ -100000000000000 ≤ sumL (b.fills.map (cV acc sym)) ∧ sumL (b.fills.map (cV acc sym)) ≤ 100000000000000 := by
  have hm : ∀ f ∈ matsF acc sym b.fills, 0 ≤ f.qty ∧ f.qty ≤ 1000000 ∧ 0 ≤ f.price ∧ f.price ≤ 1000000 := fun f hf => hs f (List.mem_filter.1 hf).1
  have hml : (matsF acc sym b.fills).length ≤ 100 := Nat.le_trans (List.length_filter_le _ _) hl
  have hv : ∀ f ∈ matsF acc sym b.fills, valF f = (sgn f * f.price, true) := fun f hf => by
    have h1 := hm f hf
    have h2 := sgn_bnd h1.1 h1.2.1
    have h3 := sgp_bnd h1.1 h1.2.1 h1.2.2.1 h1.2.2.2
    unfold valF mulF; rw [numB_iff.2 (by omega), numB_iff.2 (by omega), numB_iff.2 (by omega)]; rfl
  have e1 : (matsF acc sym b.fills).all (fun f => (valF f).2) = true := List.all_eq_true.2 fun f hf => by rw [hv f hf]
  have e2 : (matsF acc sym b.fills).map (fun f => (valF f).1) = (matsF acc sym b.fills).map fun f => sgn f * f.price := List.map_congr_left fun f hf => by rw [hv f hf]
  have b1 := sumL_small (l := (matsF acc sym b.fills).map sgn) (c := 1000000) (by omega) (fun x hx => by
    obtain ⟨f, hf, rfl⟩ := List.mem_map.1 hx; have h1 := hm f hf; exact sgn_bnd h1.1 h1.2.1)
  have b2 := sumL_small (l := (matsF acc sym b.fills).map fun f => sgn f * f.price) (c := 1000000000000) (by omega) (fun x hx => by
    obtain ⟨f, hf, rfl⟩ := List.mem_map.1 hx; have h1 := hm f hf; exact sgp_bnd h1.1 h1.2.1 h1.2.2.1 h1.2.2.2)
  rw [List.length_map] at b1 b2
  have s1 : sumF ((matsF acc sym b.fills).map sgn) = (sumL ((matsF acc sym b.fills).map sgn), true) := sumF_yes (List.all_eq_true.2 fun x hx => by
    obtain ⟨f, hf, rfl⟩ := List.mem_map.1 hx; have h1 := hm f hf; have := sgn_bnd h1.1 h1.2.1; exact numB_iff.2 (by omega)) (numB_iff.2 (by omega))
  have s2 : sumF ((matsF acc sym b.fills).map fun f => sgn f * f.price) = (sumL ((matsF acc sym b.fills).map fun f => sgn f * f.price), true) := sumF_yes (List.all_eq_true.2 fun x hx => by
    obtain ⟨f, hf, rfl⟩ := List.mem_map.1 hx; have h1 := hm f hf; have := sgp_bnd h1.1 h1.2.1 h1.2.2.1 h1.2.2.2; exact numB_iff.2 (by omega)) (numB_iff.2 (by omega))
  rw [sum_S] at b1
  rw [sum_V] at b2
  refine ⟨?_, by omega, by omega, by omega, by omega⟩
  unfold posF posG; rw [if_pos hr, e1, e2, s1, s2, sum_S, sum_V]; rfl
theorem at_uniq {l : List Dn} {n : Nat} {f : Dn} (hn : (l.map (·.id)).Nodup) (h : l[n]? = some f) : atI l f.id = n := by
  apply Classical.byContradiction; intro hc; exact fonce_not h hc hn
section
variable {b c : Bk} {x : Ex} {ids : List Bs}
theorem mat_own {f : Dn} (hl : f.live = true) (ha : f.acc = x.acc) (hs : f.sym = x.sym) : matB x.acc x.sym f = true := matB_iff.2 ⟨hl, ha, hs⟩
theorem sums_does (hd : Does ⟨b.orders, b.fills, ids, b.clock, b.bad⟩ x c) :
    (x.kind = 2 → c.fills = b.fills ++ [doneOf x]) ∧
    (x.kind = 7 → ∃ n f, b.fills[n]? = some f ∧ f.id = x.ref ∧ f.buy = x.buy ∧ matB x.acc x.sym f = true ∧ c.fills = b.fills.set n { f with live := false }) ∧
    (x.kind = 8 → ∃ n f, b.fills[n]? = some f ∧ f.id = x.ref ∧ f.buy = x.buy ∧ matB x.acc x.sym f = true ∧ c.fills = b.fills.set n { f with qty := x.qty, price := x.price }) ∧
    (¬ (x.kind = 2 ∨ x.kind = 7 ∨ x.kind = 8) → c.fills = b.fills) := by
  cases hd with
  | opens hk h0 => exact ⟨fun h => by omega, fun h => by omega, fun h => by omega, fun _ => rfl⟩
  | busts hk n f hn hid hl ht ho ha hs hb => exact ⟨fun h => by omega, fun _ => ⟨n, f, hn, hid, hb, mat_own hl ha hs, rfl⟩, fun h => by omega, fun h => by omega⟩
  | corrects hk n f hn hid hl ht ho ha hs hb hqq hf' hp => exact ⟨fun h => by omega, fun h => by omega, fun _ => ⟨n, f, hn, hid, hb, mat_own hl ha hs, rfl⟩, fun h => by omega⟩
  | fills hk h0 hf ho ha hs hb => exact ⟨fun _ => rfl, fun h => by omega, fun h => by omega, fun h => by omega⟩
  | changes hk h0 hf ho ha hs hb => exact ⟨fun h => by omega, fun h => by omega, fun h => by omega, fun _ => rfl⟩
  | closes hk h0 hf ho ha hs hb => exact ⟨fun h => by omega, fun h => by omega, fun h => by omega, fun _ => rfl⟩
theorem fresh_fills (hr : rightBk b = true) (h : (comeF b x).2 = 1) :
    (x.kind = 2 → (comeF b x).1.fills = b.fills ++ [doneOf x]) ∧
    (x.kind = 7 → ∃ n f, b.fills[n]? = some f ∧ f.id = x.ref ∧ f.buy = x.buy ∧ matB x.acc x.sym f = true ∧ (comeF b x).1.fills = b.fills.set n { f with live := false }) ∧
    (x.kind = 8 → ∃ n f, b.fills[n]? = some f ∧ f.id = x.ref ∧ f.buy = x.buy ∧ matB x.acc x.sym f = true ∧ (comeF b x).1.fills = b.fills.set n { f with qty := x.qty, price := x.price }) ∧
    (¬ (x.kind = 2 ∨ x.kind = 7 ∨ x.kind = 8) → (comeF b x).1.fills = b.fills) ∧ smallB x.qty = true ∧ smallB x.price = true := by
  obtain ⟨hx, _, _, c, e, _, hd⟩ := fresh_cases hr h
  have hs := sums_does hd
  have hsm := exec_small hx
  rw [e]; exact ⟨hs.1, hs.2.1, hs.2.2.1, hs.2.2.2, hsm.1, hsm.2.1⟩
theorem old_fills (hr : rightBk b = true) (hl : b.ids.length < 256) (h : ¬ (comeF b x).2 = 1) : (comeF b x).1.fills = b.fills := by
  have hF := stays_facts (x := x) hr hl
  cases hx : execB x with
  | false => rw [hF.1 hx]
  | true =>
    by_cases hb : b.bad = 0
    · by_cases hm : x.id ∈ b.ids
      · rw [hF.2.2.1 hx hb hm]
      · rcases (hF.2.2.2.1 hx hb hm).1 with ⟨_, _, _, h4⟩ | ⟨h4, _⟩
        · have := congrArg Bk.fills h4; exact this
        · exact absurd h4 h
    · rw [hF.2.1 hx hb]
end
abbrev Q0 (k : Bk) (x : Ex) : Int := (posF k x.acc x.sym).qty
abbrev V0 (k : Bk) (x : Ex) : Int := (posF k x.acc x.sym).value
structure Sums (k : Bk) (x : Ex) : Prop where
  ref : (comeF k x).2 = 1 → (x.kind = 7 ∨ x.kind = 8) → ∃ (m : Nat) (f : Dn), atI k.fills x.ref = m ∧ k.fills[m]? = some f ∧ 0 ≤ f.qty ∧ f.qty ≤ 1000000 ∧ 0 ≤ pdF f.qty f.price ∧ pdF f.qty f.price ≤ 1000000000000 ∧
    (x.qty ≤ 1000000 → x.price ≤ 1000000 → (x.kind = 7 → Q0 (comeF k x).1 x = Q0 k x - sgx x.buy * f.qty ∧ V0 (comeF k x).1 x = V0 k x - sgx x.buy * pdF f.qty f.price) ∧
      (x.kind = 8 → Q0 (comeF k x).1 x = Q0 k x - sgx x.buy * f.qty + sgx x.buy * x.qty ∧ V0 (comeF k x).1 x = V0 k x - sgx x.buy * pdF f.qty f.price + sgx x.buy * pdF x.qty x.price))
  amt : (comeF k x).2 = 1 → 0 ≤ x.qty ∧ x.qty ≤ 1099511627776 ∧ 0 ≤ pdF x.qty x.price ∧ pdF x.qty x.price ≤ 1000000000000
  fill : (comeF k x).2 = 1 → x.kind = 2 → x.qty ≤ 1000000 → x.price ≤ 1000000 → Q0 (comeF k x).1 x = Q0 k x + sgx x.buy * x.qty ∧ V0 (comeF k x).1 x = V0 k x + sgx x.buy * pdF x.qty x.price
  same : ¬ ((comeF k x).2 = 1 ∧ (x.kind = 2 ∨ x.kind = 7 ∨ x.kind = 8)) → Q0 (comeF k x).1 x = Q0 k x ∧ V0 (comeF k x).1 x = V0 k x
  over : x.qty ≤ 1000000 → x.price ≤ 1000000 → (posF (comeF k x).1 x.acc x.sym).over = false ∧ SmallD (comeF k x).1.fills ∧ -100000000 ≤ Q0 (comeF k x).1 x ∧ Q0 (comeF k x).1 x ≤ 100000000 ∧ -100000000000000 ≤ V0 (comeF k x).1 x ∧ V0 (comeF k x).1 x ≤ 100000000000000
  was : -100000000 ≤ Q0 k x ∧ Q0 k x ≤ 100000000 ∧ -100000000000000 ≤ V0 k x ∧ V0 k x ≤ 100000000000000
theorem sums_facts {k : Bk} {x : Ex} (hr : rightBk k = true) (hid : k.ids.length < 256) (hl : k.fills.length ≤ 60) (hs : SmallD k.fills) : Sums k x := by
  have hn := comeF_right (x := x) hr
  have p0 := pos_small (acc := x.acc) (sym := x.sym) hr hs (by omega)
  have e0 : Q0 k x = sumL (k.fills.map (cS x.acc x.sym)) := by unfold Q0; rw [p0.1]
  have v0 : V0 k x = sumL (k.fills.map (cV x.acc x.sym)) := by unfold V0; rw [p0.1]
  have now : SmallD (comeF k x).1.fills → (comeF k x).1.fills.length ≤ 100 → (posF (comeF k x).1 x.acc x.sym).over = false ∧ Q0 (comeF k x).1 x = sumL ((comeF k x).1.fills.map (cS x.acc x.sym)) ∧ V0 (comeF k x).1 x = sumL ((comeF k x).1.fills.map (cV x.acc x.sym)) ∧
      -100000000 ≤ Q0 (comeF k x).1 x ∧ Q0 (comeF k x).1 x ≤ 100000000 ∧ -100000000000000 ≤ V0 (comeF k x).1 x ∧ V0 (comeF k x).1 x ≤ 100000000000000 := fun h1 h2 => by
    have p1 := pos_small (acc := x.acc) (sym := x.sym) hn h1 h2
    have a1 : Q0 (comeF k x).1 x = sumL ((comeF k x).1.fills.map (cS x.acc x.sym)) := by unfold Q0; rw [p1.1]
    have a2 : V0 (comeF k x).1 x = sumL ((comeF k x).1.fills.map (cV x.acc x.sym)) := by unfold V0; rw [p1.1]
    exact ⟨by rw [p1.1], a1, a2, by rw [a1]; exact p1.2.1, by rw [a1]; exact p1.2.2.1, by rw [a2]; exact p1.2.2.2.1, by rw [a2]; exact p1.2.2.2.2⟩
  have same : (comeF k x).1.fills = k.fills → Q0 (comeF k x).1 x = Q0 k x ∧ V0 (comeF k x).1 x = V0 k x := fun h => by
    have h1 := now (by rw [h]; exact hs) (by rw [h]; omega)
    rw [h1.2.1, h1.2.2.1, h, e0, v0]; exact ⟨rfl, rfl⟩
  have hnd := (rightBk_iff.1 hr).2.2.2
  have amt : (comeF k x).2 = 1 → 0 ≤ x.qty ∧ x.qty ≤ 1099511627776 ∧ 0 ≤ x.price := fun h => by
    have h1 := fresh_fills hr h
    have h2 := h1.2.2.2.2.1; have h3 := h1.2.2.2.2.2
    simp only [smallB, Bool.and_eq_true, decide_eq_true_eq] at h2 h3; omega
  have dn : matB x.acc x.sym (doneOf x) = true := mat_own rfl rfl rfl
  have small : x.qty ≤ 1000000 → x.price ≤ 1000000 → SmallD (comeF k x).1.fills ∧ (comeF k x).1.fills.length ≤ 100 := fun q1 q2 => by
    by_cases h : (comeF k x).2 = 1
    · have h1 := fresh_fills hr h
      have ha := amt h
      by_cases c2 : x.kind = 2
      · rw [h1.1 c2]
        refine ⟨fun f hf => ?_, by simp; omega⟩
        rcases List.mem_append.1 hf with hf | hf
        · exact hs f hf
        · rw [List.mem_singleton.1 hf]; exact ⟨ha.1, q1, ha.2.2, q2⟩
      by_cases c7 : x.kind = 7
      · obtain ⟨n, f, g1, g2, g3, g4, g5⟩ := h1.2.1 c7
        rw [g5]
        refine ⟨fun y hy => ?_, by simp; omega⟩
        rcases List.mem_or_eq_of_mem_set hy with hy | rfl
        · exact hs y hy
        · exact hs f (List.mem_of_getElem? g1)
      by_cases c8 : x.kind = 8
      · obtain ⟨n, f, g1, g2, g3, g4, g5⟩ := h1.2.2.1 c8
        rw [g5]
        refine ⟨fun y hy => ?_, by simp; omega⟩
        rcases List.mem_or_eq_of_mem_set hy with hy | rfl
        · exact hs y hy
        · exact ⟨ha.1, q1, ha.2.2, q2⟩
      rw [h1.2.2.2.1 (by omega)]; exact ⟨hs, by omega⟩
    · rw [old_fills hr hid h]; exact ⟨hs, by omega⟩
  refine ⟨fun h hk => ?_, fun h => ?_, fun h hk q1 q2 => ?_, fun h => ?_, fun q1 q2 => ?_, ?_⟩
  · have h1 := fresh_fills hr h
    have ha := amt h
    obtain ⟨n, f, g1, g2, g3, g4, g7, g8⟩ : ∃ n f, k.fills[n]? = some f ∧ f.id = x.ref ∧ f.buy = x.buy ∧ matB x.acc x.sym f = true ∧ (x.kind = 7 → (comeF k x).1.fills = k.fills.set n { f with live := false }) ∧ (x.kind = 8 → (comeF k x).1.fills = k.fills.set n { f with qty := x.qty, price := x.price }) := by
      rcases hk with hk | hk
      · obtain ⟨n, f, g1, g2, g3, g4, g5⟩ := h1.2.1 hk; exact ⟨n, f, g1, g2, g3, g4, fun _ => g5, fun h => by omega⟩
      · obtain ⟨n, f, g1, g2, g3, g4, g5⟩ := h1.2.2.1 hk; exact ⟨n, f, g1, g2, g3, g4, fun h => by omega, fun _ => g5⟩
    have hf := hs f (List.mem_of_getElem? g1)
    have hp := pd_bnd hf.1 hf.2.2.1
    have hpe := pd_small hf.1 hf.2.1 hf.2.2.1 hf.2.2.2
    refine ⟨n, f, by rw [← g2]; exact at_uniq hnd g1, g1, hf.1, hf.2.1, hp.1, hp.2, fun q1 q2 => ?_⟩
    have hsm := small q1 q2
    have h2 := now hsm.1 hsm.2
    have cs : cS x.acc x.sym f = sgx x.buy * f.qty := by unfold cS; rw [if_pos g4, sgn_sg, g3]
    have cv : cV x.acc x.sym f = sgx x.buy * pdF f.qty f.price := by unfold cV; rw [if_pos g4, sgn_sg, g3, hpe, Int.mul_assoc]
    refine ⟨fun c7 => ?_, fun c8 => ?_⟩
    · rw [h2.2.1, h2.2.2.1, e0, v0, g7 c7, sumL_set g1, sumL_set g1, cs, cv]
      have z : matB x.acc x.sym { f with live := false } = false := by simp [matB]
      simp [cS, cV, z]
    · rw [h2.2.1, h2.2.2.1, e0, v0, g8 c8, sumL_set g1, sumL_set g1, cs, cv]
      have z : matB x.acc x.sym { f with qty := x.qty, price := x.price } = true := g4
      have cs2 : cS x.acc x.sym { f with qty := x.qty, price := x.price } = sgx x.buy * x.qty := by unfold cS; rw [if_pos z, sgn_sg]; simp only [g3]
      have cv2 : cV x.acc x.sym { f with qty := x.qty, price := x.price } = sgx x.buy * pdF x.qty x.price := by unfold cV; rw [if_pos z, sgn_sg, pd_small ha.1 q1 ha.2.2 q2]; simp only [g3, Int.mul_assoc]
      rw [cs2, cv2]; exact ⟨rfl, rfl⟩
  · have ha := amt h
    have hp := pd_bnd ha.1 ha.2.2
    exact ⟨ha.1, ha.2.1, hp.1, hp.2⟩
  · have h1 := fresh_fills hr h
    have ha := amt h
    have hsm := small q1 q2
    have h2 := now hsm.1 hsm.2
    have cs : cS x.acc x.sym (doneOf x) = sgx x.buy * x.qty := by unfold cS; rw [if_pos dn, sgn_sg]; rfl
    have cv : cV x.acc x.sym (doneOf x) = sgx x.buy * pdF x.qty x.price := by unfold cV; rw [if_pos dn, sgn_sg, pd_small ha.1 q1 ha.2.2 q2, Int.mul_assoc]; rfl
    rw [h2.2.1, h2.2.2.1, e0, v0, h1.1 hk, List.map_append, List.map_append, sumL_app, sumL_app]
    simp only [List.map_cons, List.map_nil, sumL, cs, cv]; omega
  · refine same ?_
    by_cases h1 : (comeF k x).2 = 1
    · exact (fresh_fills hr h1).2.2.2.1 fun hk => h ⟨h1, hk⟩
    · exact old_fills hr hid h1
  · have hsm := small q1 q2
    have h2 := now hsm.1 hsm.2
    exact ⟨h2.1, hsm.1, h2.2.2.2⟩
  · rw [e0, v0]; exact p0.2
end Go.Bk
