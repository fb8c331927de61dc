import Derived.Test.YtobaignbahnjbaaDoorM3
set_option linter.unusedVariables false
set_option linter.unusedSimpArgs false
namespace Go.Proofs.YtobaignbahnjbaaDoor
open Go Go.Abs Go.RowKit Go.Bk Go.Msg
theorem maybe_end {l : List Fld.Fd} {n : Nat} {tag : Int} {bad : Bool} (h : l.length ≤ n) : maybeS l tag (n, bad) = ([], n, bad) := by
  unfold maybeS hdAt; rw [List.getElem?_eq_none h]; rfl
theorem maybe_no {l : List Fld.Fd} {n : Nat} {tag : Int} {bad : Bool} {b : Fld.Fd} (hb : l[n]? = some b) (h : ¬ b.1 = tag) : maybeS l tag (n, bad) = ([], n, bad) := by
  unfold maybeS hdAt; simp [hb, h]
theorem maybe_yes {l : List Fld.Fd} {n n1 : Nat} {tag : Int} {bad b1 : Bool} {y : List UInt8} {b : Fld.Fd} (hb : l[n]? = some b) (h : b.1 = tag) (e : takeS l tag (n, bad) = (y, n1, b1)) : maybeS l tag (n, bad) = (y, n1, b1) := by
  unfold maybeS; rw [if_pos (by unfold hdAt; simp [hb, h]), e]
theorem num_at {l : List Fld.Fd} {n n1 : Nat} {tag : Int} {bad b1 : Bool} {y : List UInt8} (e : takeS l tag (n, bad) = (y, n1, b1)) (h : (Fld.parseF y).2 = 0) : numS l tag (n, bad) = ((Fld.parseF y).1, n1, b1) := by
  unfold numS; rw [e]; simp [h]
theorem num_bad {l : List Fld.Fd} {n n1 : Nat} {tag : Int} {bad b1 : Bool} {y : List UInt8} (e : takeS l tag (n, bad) = (y, n1, b1)) (h : ¬ (Fld.parseF y).2 = 0) : numS l tag (n, bad) = ((Fld.parseF y).1, n1, true) := by
  unfold numS; rw [e]; simp [h]
theorem yes_none {l : List Fld.Fd} {n n1 : Nat} {tag : Int} {bad b1 : Bool} {y : List UInt8} (e : maybeS l tag (n, bad) = (y, n1, b1)) (h : y = []) : yesS l tag (n, bad) = (decide (y = [89]), n1, b1) := by
  unfold yesS; rw [e]; simp [h]
theorem yes_y {l : List Fld.Fd} {n n1 : Nat} {tag : Int} {bad b1 : Bool} {y : List UInt8} (e : maybeS l tag (n, bad) = (y, n1, b1)) (h : y = [89]) : yesS l tag (n, bad) = (decide (y = [89]), n1, b1) := by
  unfold yesS; rw [e]; simp [h]
theorem yes_bad {l : List Fld.Fd} {n n1 : Nat} {tag : Int} {bad b1 : Bool} {y : List UInt8} (e : maybeS l tag (n, bad) = (y, n1, b1)) (h : ¬ y = []) (h2 : ¬ y = [89]) : yesS l tag (n, bad) = (decide (y = [89]), n1, true) := by
  unfold yesS; rw [e]; simp [h, h2]
abbrev tkV (o : Option Nat) (l : List Fld.Fd) (n : Nat) (bad : Bool) : AV := .agg [.sl o 2 (l.map fldV), i64 n, bl bad]
theorem set_same {α : Type} {l : List α} {i : Nat} {x : α} (h : l[i]? = some x) : l.set i x = l := by
  apply List.ext_getElem?
  intro j
  rw [List.getElem?_set]
  split
  · rename_i e; subst e; split
    · exact h.symm
    · rename_i hlt; rw [List.getElem?_eq_none (by omega)]
  · rfl
theorem take_end {l : List Fld.Fd} {n : Nat} {tag : Int} {bad : Bool} (h : l.length ≤ n) : takeS l tag (n, bad) = ([], n, true) := by
  unfold takeS hdAt; rw [List.getElem?_eq_none h]; rfl
theorem take_no {l : List Fld.Fd} {n : Nat} {tag : Int} {bad : Bool} {b : Fld.Fd} (hb : l[n]? = some b) (h : ¬ b.1 = tag) : takeS l tag (n, bad) = ([], n, true) := by
  unfold takeS hdAt; simp [hb, h]
theorem take_yes {l : List Fld.Fd} {n : Nat} {tag : Int} {bad : Bool} {b : Fld.Fd} (hb : l[n]? = some b) (h : b.1 = tag) : takeS l tag (n, bad) = (b.2, n + 1, bad) := by
  unfold takeS hdAt valAt; simp [hb, h]

set_option maxRecDepth 100000 in
set_option maxHeartbeats 4000000 in
theorem take_call {ops : Array Oper} {l0 : List Oper} {Q : Exit → St → Prop} {tmps up : List AV} {gl : Nat → Option (List AV)} {own : List (Option (List AV))} {tk : List Nat} {id : Nat} {o : Option Nat} {l : List Fld.Fd} {n : Nat} {bad : Bool} {tag : Int} {dst : Option Tmp} {x0 x1 : Operand} {tys : Array TypeId} {ty : TypeId} {pos : String} {after : Array Edge}
    (hx0 : St.ev ⟨tmps, own, tk, gl, none, up⟩ x0 = .ptr id 0 0) (hx1 : St.ev ⟨tmps, own, tk, gl, none, up⟩ x1 = i64 tag) (ho : own[id]? = some (some [tkV o l n bad])) (hl : l.length ≤ 1000) (hn : n ≤ l.length)
    (h : ∀ y n2 bad2, takeS l tag (n, bad) = (y, n2, bad2) → n2 ≤ l.length → AWPL E ops l0 Q (St.put ⟨tmps, own.set id (some [tkV o l n2 bad2]), tk, gl, none, up⟩ dst (str y))) :
    AWPL E ops (⟨dst, .call ⟨.value (.func 36), #[x0, x1], tys⟩, ty, pos, after, none⟩ :: l0) Q ⟨tmps, own, tk, gl, none, up⟩ := by
  refine AWPL.call (caps := []) (rs := [.tmp 4]) Tryd.func36 rfl Tryd.ntmps36 rfl (by kernel_rfl) rfl rfl ?_
  show AWP E _ _ ⟨([St.ev _ x0, St.ev _ x1] ++ []) ++ List.replicate (52 - 2) (.v undef), own, tk, gl, none, tmps ++ up⟩
  rw [hx0, hx1]
  have hset : ∀ x, (own.set id x)[id]? = some x := fun x => List.getElem?_set_self (Go.Fld.get_lt ho)
  have hss : ∀ x y, (own.set id x).set id y = own.set id y := fun x y => List.set_set ..
  have hsame : own.set id (some [tkV o l n bad]) = own := set_same ho
  have hw : IntKind.i64.wrap ((n : Int) + 1) = ((n + 1 : Nat) : Int) := by rw [wrap64_id (by omega) (by omega)]; rfl
  have hw2 : IntKind.i64.wrap (((n + 1 : Nat) : Int) - 1) = (n : Int) := by rw [wrap64_id (by omega) (by omega)]; omega
  have hB : ∀ (tm : List AV) (ow : List (Option (List AV))) (u : AV) y n2 bad2, takeS l tag (n, bad) = (y, n2, bad2) → n2 ≤ l.length → ow = own.set id (some [tkV o l n2 bad2]) → tm[4]? = some u → u = str y → AInPost E.P [.tmp 4] ⟨tmps, own, tk, gl, none, up⟩ (fun s z => AWPL E ops l0 Q (s.put dst z)) .ret ⟨tm, ow, tk, gl, none, tmps ++ up⟩ := by
    intro tm ow u y n2 bad2 he hle how h4 hu
    subst how; subst hu
    refine ⟨rfl, ?_⟩
    have : St.ev ⟨tm, own.set id (some [tkV o l n2 bad2]), tk, gl, none, tmps ++ up⟩ (.tmp 4) = str y := by simp [St.ev, List.getD_eq_getElem?_getD, h4]
    show AWPL E ops l0 Q (St.put _ dst (tupOf [St.ev _ (.tmp 4)]))
    rw [this]
    exact h y n2 bad2 he hle
  generalize AInPost E.P [.tmp 4] ⟨tmps, own, tk, gl, none, up⟩ (fun s z => AWPL E ops l0 Q (s.put dst z)) = Q' at hB ⊢
  generalize tmps ++ up = up' at hB ⊢
  clear h hx0 hx1
  repeat' (first
    | refine AWP.seqk fun K hK => ?_
    | (refine AWP.region ?_; simp only [go_sem, ho, hset, hss, hw, hw2])
    | (refine AWP.here 1 5 25 rfl ?_; refine AWP.regionO [0, 1, 2, 3, 4, 5, 6, 7, 8, 9, 10, 11, 12, 13, 14, 15, 16, 17, 18, 19, 20, 21, 22, 23, 24] [] (by kernel_rfl) (by kernel_rfl) rfl ?_; simp only [go_sem, ho, hset, hss, hw, hw2])
    | (refine AWP.here 5 40 13 rfl ?_; refine AWP.regionO [0, 1, 2, 3, 4, 5, 6, 7, 8, 9, 10, 11, 12] [] (by kernel_rfl) (by kernel_rfl) rfl ?_; simp only [go_sem, ho, hset, hss, hw, hw2])
    | (refine hK _ ?_; clear hK K)
    | refine AWP.block ?_
    | refine AWP.cond rfl (fun c => ?_) (fun c => ?_) <;> first | exact Bool.noConfusion c | (try simp only [dD] at c)
    | refine AWP.skip ?_
    | (refine AWP.exit ?_; simp only [go_sem, ho, hset, hss, hw, hw2])
    | (refine AGuard.splitN (fun h => ?_) (fun h => ?_) <;> simp only [h, go_sem, ho, hset, hss, hw, hw2] <;> (try simp only [dD] at h))
    | (refine AGuard.split (fun h => ?_) (fun h => ?_) <;> simp only [h, go_sem, ho, hset, hss, hw, hw2] <;> (try simp only [dD] at h))
    | (refine AGet.haveM (by assumption) ?_; (try simp only [go_sem, ho, hset, hss, hw, hw2]))
    | (refine AGet.have' (by assumption) ?_; (try simp only [go_sem, ho, hset, hss, hw, hw2]))
    | ((first | refine AGet.nth ?_ (fun b hb => ?_) | refine AGet.nth1 ?_ (fun b hb => ?_) | with_reducible refine And.intro ?_ ?_); (focus (first | omega | assumption | exact List.length_pos_iff.2 (by assumption) | (simp only [List.length_append, List.length_cons, List.length_nil, List.length_map, List.length_take, List.length_drop] at *; omega) | (rw [wrap64_id (by omega) (by omega)]; omega) | (simp; done) | (simp [spare_len]; done) | (exact ⟨by omega, by omega⟩))); (try simp only [hb, go_sem, ho, hset, hss, hw, hw2]))
    | (
        refine AWP.ret ?_
        (try simp only [inb_ret, athen_ret])
        first
        | (exact hB _ _ _ _ _ _ (take_end (by omega)) (by omega) rfl rfl rfl)
        | (exact hB _ _ _ _ _ _ (take_no hb (by assumption)) (by omega) rfl rfl rfl)
        | (exact hB _ _ _ _ _ _ (take_yes hb (by assumption)) (by have := Go.Fld.get_lt hb; omega) rfl rfl rfl)
        | trace_state)
    | refine AWP.fin (by assumption) ?_
    | fail)

set_option maxRecDepth 100000 in
set_option maxHeartbeats 4000000 in
theorem maybe_call {ops : Array Oper} {l0 : List Oper} {Q : Exit → St → Prop} {tmps up : List AV} {gl : Nat → Option (List AV)} {own : List (Option (List AV))} {tk : List Nat} {id : Nat} {o : Option Nat} {l : List Fld.Fd} {n : Nat} {bad : Bool} {tag : Int} {dst : Option Tmp} {x0 x1 : Operand} {tys : Array TypeId} {ty : TypeId} {pos : String} {after : Array Edge}
    (hx0 : St.ev ⟨tmps, own, tk, gl, none, up⟩ x0 = .ptr id 0 0) (hx1 : St.ev ⟨tmps, own, tk, gl, none, up⟩ x1 = i64 tag) (ho : own[id]? = some (some [tkV o l n bad])) (hl : l.length ≤ 1000) (hn : n ≤ l.length)
    (h : ∀ y n2 bad2, maybeS l tag (n, bad) = (y, n2, bad2) → n2 ≤ l.length → AWPL E ops l0 Q (St.put ⟨tmps, own.set id (some [tkV o l n2 bad2]), tk, gl, none, up⟩ dst (str y))) :
    AWPL E ops (⟨dst, .call ⟨.value (.func 39), #[x0, x1], tys⟩, ty, pos, after, none⟩ :: l0) Q ⟨tmps, own, tk, gl, none, up⟩ := by
  refine AWPL.call (caps := []) (rs := [.tmp 4]) Tryd.func39 rfl Tryd.ntmps39 rfl (by kernel_rfl) rfl rfl ?_
  show AWP E _ _ ⟨([St.ev _ x0, St.ev _ x1] ++ []) ++ List.replicate (33 - 2) (.v undef), own, tk, gl, none, tmps ++ up⟩
  rw [hx0, hx1]
  have hset : ∀ x, (own.set id x)[id]? = some x := fun x => List.getElem?_set_self (Go.Fld.get_lt ho)
  have hss : ∀ x y, (own.set id x).set id y = own.set id y := fun x y => List.set_set ..
  have hsame : own.set id (some [tkV o l n bad]) = own := set_same ho
  have hw : IntKind.i64.wrap ((n : Int) + 1) = ((n + 1 : Nat) : Int) := by rw [wrap64_id (by omega) (by omega)]; rfl
  have hw2 : IntKind.i64.wrap (((n + 1 : Nat) : Int) - 1) = (n : Int) := by rw [wrap64_id (by omega) (by omega)]; omega
  have hB : ∀ (tm : List AV) (ow : List (Option (List AV))) (u : AV) y n2 bad2, maybeS l tag (n, bad) = (y, n2, bad2) → n2 ≤ l.length → ow = own.set id (some [tkV o l n2 bad2]) → tm[4]? = some u → u = str y → AInPost E.P [.tmp 4] ⟨tmps, own, tk, gl, none, up⟩ (fun s z => AWPL E ops l0 Q (s.put dst z)) .ret ⟨tm, ow, tk, gl, none, tmps ++ up⟩ := by
    intro tm ow u y n2 bad2 he hle how h4 hu
    subst how; subst hu
    refine ⟨rfl, ?_⟩
    have : St.ev ⟨tm, own.set id (some [tkV o l n2 bad2]), tk, gl, none, tmps ++ up⟩ (.tmp 4) = str y := by simp [St.ev, List.getD_eq_getElem?_getD, h4]
    show AWPL E ops l0 Q (St.put _ dst (tupOf [St.ev _ (.tmp 4)]))
    rw [this]
    exact h y n2 bad2 he hle
  generalize AInPost E.P [.tmp 4] ⟨tmps, own, tk, gl, none, up⟩ (fun s z => AWPL E ops l0 Q (s.put dst z)) = Q' at hB ⊢
  generalize tmps ++ up = up' at hB ⊢
  clear h hx0 hx1
  repeat' (first
    | refine AWP.seqk fun K hK => ?_
    | (refine take_call rfl rfl (by first | assumption | rfl) (by assumption) (by omega) ?_; intro y1 n1 b1 e1 hn1; simp only [go_sem, ho, hset, hss, hsame])
    | (refine AWPL.call (rs := [.tmp 4]) Tryd.func36 rfl Tryd.ntmps36 rfl (by kernel_rfl) rfl rfl ?_; simp only [go_sem])
    | (refine AWP.here 2 30 4 rfl ?_; refine AWP.regionL ?_; refine AWPL.at 4 2 rfl ?_; simp only [go_sem, ho, hset, hss, hsame])
    | (refine AWP.region ?_; simp only [go_sem, ho, hset, hss, hsame])
    | (refine AWP.here 1 5 25 rfl ?_; refine AWP.regionO [0, 1, 2, 3, 4, 5, 6, 7, 8, 9, 10, 11, 12, 13, 14, 15, 16, 17, 18, 19, 20, 21, 22, 23, 24] [] (by kernel_rfl) (by kernel_rfl) rfl ?_; simp only [go_sem, ho, hset, hss, hsame])
    | (refine AWP.here 1 5 25 rfl ?_; refine AWP.regionO [0, 1, 2, 3, 4, 5, 6, 7, 8, 9, 10, 11, 12, 13, 14, 15, 16, 17, 18, 19, 20, 21, 22, 23, 24] [] (by kernel_rfl) (by kernel_rfl) rfl ?_; simp only [go_sem])
    | (refine AWP.here 5 40 13 rfl ?_; refine AWP.regionO [0, 1, 2, 3, 4, 5, 6, 7, 8, 9, 10, 11, 12] [] (by kernel_rfl) (by kernel_rfl) rfl ?_; simp only [go_sem])
    | (refine hK _ ?_; clear hK K)
    | refine AWP.block ?_
    | refine AWP.cond rfl (fun c => ?_) (fun c => ?_) <;> first | exact Bool.noConfusion c | (try simp only [dD] at c)
    | refine AWP.skip ?_
    | (refine AWP.exit ?_; simp only [go_sem, ho, hset, hss, hsame])
    | (refine AGuard.splitN (fun h => ?_) (fun h => ?_) <;> simp only [h, go_sem, ho, hset, hss, hsame] <;> (try simp only [dD] at h))
    | (refine AGuard.split (fun h => ?_) (fun h => ?_) <;> simp only [h, go_sem, ho, hset, hss, hsame] <;> (try simp only [dD] at h))
    | (refine AGet.haveM (by assumption) ?_; (try simp only [go_sem, ho, hset, hss, hsame]))
    | (refine AGet.have' (by assumption) ?_; (try simp only [go_sem, ho, hset, hss, hsame]))
    | ((first | refine AGet.nth ?_ (fun b hb => ?_) | refine AGet.nth1 ?_ (fun b hb => ?_) | with_reducible refine And.intro ?_ ?_); (focus (first | omega | assumption | exact List.length_pos_iff.2 (by assumption) | (simp only [List.length_append, List.length_cons, List.length_nil, List.length_map, List.length_take, List.length_drop] at *; omega) | (rw [wrap64_id (by omega) (by omega)]; omega) | (simp; done) | (simp [spare_len]; done) | (exact ⟨by omega, by omega⟩))); (try simp only [hb, go_sem, ho, hset, hss, hsame]))
    | (
        refine AWP.ret ?_
        (try simp only [inb_ret, athen_ret])
        first
        | (exact hB _ _ _ _ _ _ (maybe_end (by omega)) (by omega) hsame.symm rfl rfl)
        | (exact hB _ _ _ _ _ _ (maybe_no hb (by assumption)) (by omega) hsame.symm rfl rfl)
        | (exact hB _ _ _ _ _ _ (maybe_yes hb (by assumption) (by assumption)) (by omega) rfl rfl rfl)
        | trace_state)
    | (refine AWP.ret ?_; refine AInPost.ret rfl ?_; simp only [go_sem, ho, hset, hss, hsame])
    | (refine AWP.ret ?_; simp only [inb_ret, athen_ret]; refine AInPost.ret rfl ?_; simp only [go_sem, ho, hset, hss, hsame])
    | (refine AWP.ret ?_; (try simp only [inb_ret, athen_ret]); refine AInPost.ret rfl ?_; (try simp only [go_sem, ho, hset, hss, hsame]))
    | (refine AWPL.of ?_; simp only [go_sem, ho, hset, hss, hsame])
    | refine AWP.fin (by assumption) ?_
    | fail)

set_option maxRecDepth 100000 in
set_option maxHeartbeats 4000000 in
theorem numb_call {ops : Array Oper} {l0 : List Oper} {Q : Exit → St → Prop} {tmps up : List AV} {gl : Nat → Option (List AV)} {own : List (Option (List AV))} {tk : List Nat} {id : Nat} {o : Option Nat} {l : List Fld.Fd} {n : Nat} {bad : Bool} {tag : Int} {dst : Option Tmp} {x0 x1 : Operand} {tys : Array TypeId} {ty : TypeId} {pos : String} {after : Array Edge}
    (hx0 : St.ev ⟨tmps, own, tk, gl, none, up⟩ x0 = .ptr id 0 0) (hx1 : St.ev ⟨tmps, own, tk, gl, none, up⟩ x1 = i64 tag) (ho : own[id]? = some (some [tkV o l n bad])) (hl : l.length ≤ 1000) (hn : n ≤ l.length)
    (h : ∀ y n2 bad2, numS l tag (n, bad) = (y, n2, bad2) → n2 ≤ l.length → AWPL E ops l0 Q (St.put ⟨tmps, own.set id (some [tkV o l n2 bad2]), tk, gl, none, up⟩ dst (i64 y))) :
    AWPL E ops (⟨dst, .call ⟨.value (.func 37), #[x0, x1], tys⟩, ty, pos, after, none⟩ :: l0) Q ⟨tmps, own, tk, gl, none, up⟩ := by
  refine AWPL.call (caps := []) (rs := [.tmp 4]) Tryd.func37 rfl Tryd.ntmps37 rfl (by kernel_rfl) rfl rfl ?_
  show AWP E _ _ ⟨([St.ev _ x0, St.ev _ x1] ++ []) ++ List.replicate (20 - 2) (.v undef), own, tk, gl, none, tmps ++ up⟩
  rw [hx0, hx1]
  have hset : ∀ x, (own.set id x)[id]? = some x := fun x => List.getElem?_set_self (Go.Fld.get_lt ho)
  have hss : ∀ x y, (own.set id x).set id y = own.set id y := fun x y => List.set_set ..
  have hsame : own.set id (some [tkV o l n bad]) = own := set_same ho
  have hw : IntKind.i64.wrap ((n : Int) + 1) = ((n + 1 : Nat) : Int) := by rw [wrap64_id (by omega) (by omega)]; rfl
  have hw2 : IntKind.i64.wrap (((n + 1 : Nat) : Int) - 1) = (n : Int) := by rw [wrap64_id (by omega) (by omega)]; omega
  have hB : ∀ (tm : List AV) (ow : List (Option (List AV))) (u : AV) y n2 bad2, numS l tag (n, bad) = (y, n2, bad2) → n2 ≤ l.length → ow = own.set id (some [tkV o l n2 bad2]) → tm[4]? = some u → u = i64 y → AInPost E.P [.tmp 4] ⟨tmps, own, tk, gl, none, up⟩ (fun s z => AWPL E ops l0 Q (s.put dst z)) .ret ⟨tm, ow, tk, gl, none, tmps ++ up⟩ := by
    intro tm ow u y n2 bad2 he hle how h4 hu
    subst how; subst hu
    refine ⟨rfl, ?_⟩
    have : St.ev ⟨tm, own.set id (some [tkV o l n2 bad2]), tk, gl, none, tmps ++ up⟩ (.tmp 4) = i64 y := by simp [St.ev, List.getD_eq_getElem?_getD, h4]
    show AWPL E ops l0 Q (St.put _ dst (tupOf [St.ev _ (.tmp 4)]))
    rw [this]
    exact h y n2 bad2 he hle
  generalize AInPost E.P [.tmp 4] ⟨tmps, own, tk, gl, none, up⟩ (fun s z => AWPL E ops l0 Q (s.put dst z)) = Q' at hB ⊢
  generalize tmps ++ up = up' at hB ⊢
  clear h hx0 hx1
  repeat' (first
    | refine AWP.seqk fun K hK => ?_
    | (refine take_call rfl rfl (by first | assumption | rfl) (by assumption) (by omega) ?_; intro y1 n1 b1 e1 hn1; simp only [go_sem, ho, hset, hss, hsame])
    | (refine ACall.one (r1parse_c _) (by kernel_rfl) rfl ?_; simp only [go_sem, ho, hset, hss, hsame])
    | (refine AWPL.call (rs := [.tmp 4]) Tryd.func36 rfl Tryd.ntmps36 rfl (by kernel_rfl) rfl rfl ?_; simp only [go_sem])
    | (refine AWP.here 1 8 9 rfl ?_; refine AWP.regionL ?_; refine AWPL.at 9 2 rfl ?_; simp only [go_sem, ho, hset, hss, hsame])
    | (refine AWP.region ?_; simp only [go_sem, ho, hset, hss, hsame])
    | (refine AWP.here 1 5 25 rfl ?_; refine AWP.regionO [0, 1, 2, 3, 4, 5, 6, 7, 8, 9, 10, 11, 12, 13, 14, 15, 16, 17, 18, 19, 20, 21, 22, 23, 24] [] (by kernel_rfl) (by kernel_rfl) rfl ?_; simp only [go_sem])
    | (refine AWP.here 5 40 13 rfl ?_; refine AWP.regionO [0, 1, 2, 3, 4, 5, 6, 7, 8, 9, 10, 11, 12] [] (by kernel_rfl) (by kernel_rfl) rfl ?_; simp only [go_sem])
    | (refine hK _ ?_; clear hK K)
    | refine AWP.block ?_
    | refine AWP.cond rfl (fun c => ?_) (fun c => ?_) <;> first | exact Bool.noConfusion c | (try simp only [dD] at c)
    | refine AWP.skip ?_
    | (refine AWP.exit ?_; simp only [go_sem, ho, hset, hss, hsame])
    | (refine AGuard.splitN (fun h => ?_) (fun h => ?_) <;> simp only [h, go_sem, ho, hset, hss, hsame] <;> (try simp only [dD] at h))
    | (refine AGuard.split (fun h => ?_) (fun h => ?_) <;> simp only [h, go_sem, ho, hset, hss, hsame] <;> (try simp only [dD] at h))
    | (refine AGet.haveM (by assumption) ?_; (try simp only [go_sem, ho, hset, hss, hsame]))
    | (refine AGet.have' (by assumption) ?_; (try simp only [go_sem, ho, hset, hss, hsame]))
    | ((first | refine AGet.nth ?_ (fun b hb => ?_) | refine AGet.nth1 ?_ (fun b hb => ?_) | with_reducible refine And.intro ?_ ?_); (focus (first | omega | assumption | exact List.length_pos_iff.2 (by assumption) | (simp only [List.length_append, List.length_cons, List.length_nil, List.length_map, List.length_take, List.length_drop] at *; omega) | (rw [wrap64_id (by omega) (by omega)]; omega) | (simp; done) | (simp [spare_len]; done) | (exact ⟨by omega, by omega⟩))); (try simp only [hb, go_sem, ho, hset, hss, hsame]))
    | (
        refine AWP.ret ?_
        (try simp only [inb_ret, athen_ret])
        first
        | (exact hB _ _ _ _ _ _ (num_at (by assumption) (by assumption)) (by omega) rfl rfl rfl)
        | (exact hB _ _ _ _ _ _ (num_bad (by assumption) (by assumption)) (by omega) rfl rfl rfl)
        | trace_state)
    | (refine AWP.ret ?_; refine AInPost.ret rfl ?_; simp only [go_sem, ho, hset, hss, hsame])
    | (refine AWP.ret ?_; simp only [inb_ret, athen_ret]; refine AInPost.ret rfl ?_; simp only [go_sem, ho, hset, hss, hsame])
    | (refine AWP.ret ?_; (try simp only [inb_ret, athen_ret]); refine AInPost.ret rfl ?_; (try simp only [go_sem, ho, hset, hss, hsame]))
    | (refine AWPL.of ?_; simp only [go_sem, ho, hset, hss, hsame])
    | refine AWP.fin (by assumption) ?_
    | fail)

set_option maxRecDepth 100000 in
set_option maxHeartbeats 4000000 in
theorem yes_call {ops : Array Oper} {l0 : List Oper} {Q : Exit → St → Prop} {tmps up : List AV} {gl : Nat → Option (List AV)} {own : List (Option (List AV))} {tk : List Nat} {id : Nat} {o : Option Nat} {l : List Fld.Fd} {n : Nat} {bad : Bool} {tag : Int} {dst : Option Tmp} {x0 x1 : Operand} {tys : Array TypeId} {ty : TypeId} {pos : String} {after : Array Edge}
    (hx0 : St.ev ⟨tmps, own, tk, gl, none, up⟩ x0 = .ptr id 0 0) (hx1 : St.ev ⟨tmps, own, tk, gl, none, up⟩ x1 = i64 tag) (ho : own[id]? = some (some [tkV o l n bad])) (hl : l.length ≤ 1000) (hn : n ≤ l.length)
    (h : ∀ y n2 bad2, yesS l tag (n, bad) = (y, n2, bad2) → n2 ≤ l.length → AWPL E ops l0 Q (St.put ⟨tmps, own.set id (some [tkV o l n2 bad2]), tk, gl, none, up⟩ dst (bl y))) :
    AWPL E ops (⟨dst, .call ⟨.value (.func 38), #[x0, x1], tys⟩, ty, pos, after, none⟩ :: l0) Q ⟨tmps, own, tk, gl, none, up⟩ := by
  refine AWPL.call (caps := []) (rs := [.tmp 4]) Tryd.func38 rfl Tryd.ntmps38 rfl (by kernel_rfl) rfl rfl ?_
  show AWP E _ _ ⟨([St.ev _ x0, St.ev _ x1] ++ []) ++ List.replicate (20 - 2) (.v undef), own, tk, gl, none, tmps ++ up⟩
  rw [hx0, hx1]
  have hset : ∀ x, (own.set id x)[id]? = some x := fun x => List.getElem?_set_self (Go.Fld.get_lt ho)
  have hss : ∀ x y, (own.set id x).set id y = own.set id y := fun x y => List.set_set ..
  have hsame : own.set id (some [tkV o l n bad]) = own := set_same ho
  have hw : IntKind.i64.wrap ((n : Int) + 1) = ((n + 1 : Nat) : Int) := by rw [wrap64_id (by omega) (by omega)]; rfl
  have hw2 : IntKind.i64.wrap (((n + 1 : Nat) : Int) - 1) = (n : Int) := by rw [wrap64_id (by omega) (by omega)]; omega
  have hB : ∀ (tm : List AV) (ow : List (Option (List AV))) (u : AV) y n2 bad2, yesS l tag (n, bad) = (y, n2, bad2) → n2 ≤ l.length → ow = own.set id (some [tkV o l n2 bad2]) → tm[4]? = some u → u = bl y → AInPost E.P [.tmp 4] ⟨tmps, own, tk, gl, none, up⟩ (fun s z => AWPL E ops l0 Q (s.put dst z)) .ret ⟨tm, ow, tk, gl, none, tmps ++ up⟩ := by
    intro tm ow u y n2 bad2 he hle how h4 hu
    subst how; subst hu
    refine ⟨rfl, ?_⟩
    have : St.ev ⟨tm, own.set id (some [tkV o l n2 bad2]), tk, gl, none, tmps ++ up⟩ (.tmp 4) = bl y := by simp [St.ev, List.getD_eq_getElem?_getD, h4]
    show AWPL E ops l0 Q (St.put _ dst (tupOf [St.ev _ (.tmp 4)]))
    rw [this]
    exact h y n2 bad2 he hle
  generalize AInPost E.P [.tmp 4] ⟨tmps, own, tk, gl, none, up⟩ (fun s z => AWPL E ops l0 Q (s.put dst z)) = Q' at hB ⊢
  generalize tmps ++ up = up' at hB ⊢
  clear h hx0 hx1
  repeat' (first
    | refine AWP.seqk fun K hK => ?_
    | (refine maybe_call rfl rfl (by first | assumption | rfl) (by assumption) (by omega) ?_; intro y1 n1 b1 e1 hn1; simp only [go_sem, ho, hset, hss, hsame])
    | (refine ACall.one (take_call ) (by kernel_rfl) rfl ?_; simp only [go_sem])
    | (refine AWPL.call (rs := [.tmp 4]) Tryd.func39 rfl Tryd.ntmps39 rfl (by kernel_rfl) rfl rfl ?_; simp only [go_sem])
    | (refine AWP.here 1 6 4 rfl ?_; refine AWP.regionL ?_; refine AWPL.at 4 2 rfl ?_; simp only [go_sem, ho, hset, hss, hsame])
    | (refine AWP.region ?_; simp only [go_sem, ho, hset, hss, hsame])
    | (refine AWP.here 1 5 25 rfl ?_; refine AWP.regionO [0, 1, 2, 3, 4, 5, 6, 7, 8, 9, 10, 11, 12, 13, 14, 15, 16, 17, 18, 19, 20, 21, 22, 23, 24] [] (by kernel_rfl) (by kernel_rfl) rfl ?_; simp only [go_sem])
    | (refine hK _ ?_; clear hK K)
    | refine AWP.block ?_
    | refine AWP.cond rfl (fun c => ?_) (fun c => ?_) <;> first | exact Bool.noConfusion c | (try simp only [dD] at c)
    | refine AWP.skip ?_
    | (refine AWP.exit ?_; simp only [go_sem, ho, hset, hss, hsame])
    | (refine AGuard.splitN (fun h => ?_) (fun h => ?_) <;> simp only [h, go_sem, ho, hset, hss, hsame] <;> (try simp only [dD] at h))
    | (refine AGuard.split (fun h => ?_) (fun h => ?_) <;> simp only [h, go_sem, ho, hset, hss, hsame] <;> (try simp only [dD] at h))
    | (refine AGet.haveM (by assumption) ?_; (try simp only [go_sem, ho, hset, hss, hsame]))
    | (refine AGet.have' (by assumption) ?_; (try simp only [go_sem, ho, hset, hss, hsame]))
    | ((first | refine AGet.nth ?_ (fun b hb => ?_) | refine AGet.nth1 ?_ (fun b hb => ?_) | with_reducible refine And.intro ?_ ?_); (focus (first | omega | assumption | exact List.length_pos_iff.2 (by assumption) | (simp only [List.length_append, List.length_cons, List.length_nil, List.length_map, List.length_take, List.length_drop] at *; omega) | (rw [wrap64_id (by omega) (by omega)]; omega) | (simp; done) | (simp [spare_len]; done) | (exact ⟨by omega, by omega⟩))); (try simp only [hb, go_sem, ho, hset, hss, hsame]))
    | (
        refine AWP.ret ?_
        (try simp only [inb_ret, athen_ret])
        first
        | (exact hB _ _ _ _ _ _ (yes_none (by assumption) (by assumption)) (by omega) rfl rfl rfl)
        | (exact hB _ _ _ _ _ _ (yes_y (by assumption) (by assumption)) (by omega) rfl rfl rfl)
        | (exact hB _ _ _ _ _ _ (yes_bad (by assumption) (by assumption) (by assumption)) (by omega) rfl rfl rfl)
        | trace_state)
    | (refine AWP.ret ?_; refine AInPost.ret rfl ?_; simp only [go_sem, ho, hset, hss, hsame])
    | (refine AWP.ret ?_; simp only [inb_ret, athen_ret]; refine AInPost.ret rfl ?_; simp only [go_sem, ho, hset, hss, hsame])
    | (refine AWP.ret ?_; (try simp only [inb_ret, athen_ret]); refine AInPost.ret rfl ?_; (try simp only [go_sem, ho, hset, hss, hsame]))
    | (refine AWPL.of ?_; simp only [go_sem, ho, hset, hss, hsame])
    | refine AWP.fin (by assumption) ?_
    | fail)


end Go.Proofs.YtobaignbahnjbaaDoor
