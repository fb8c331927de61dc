import Derived.Test.YtceiiajacnihjaaC3
set_option linter.unusedVariables false
set_option linter.unusedSimpArgs false
namespace Go.Proofs.Ytceiiajacnihjaa
open Go Go.Abs Go.RowKit Go.Bk
abbrev bdM (nm : List Bs) (c : Nat) : AV := .agg [.sl none 1 (nm.map str), .mu c 1 0 nm.length nm.length, .v (.int .i32 0), .v (.int .u32 0), .v (.int .u32 0), .v (.int .i32 1), .v (.int .u32 0)]
abbrev bdN (nm : List Bs) (c : Nat) : AV := .agg [.sl none 1 (nm.map str), .mu c 1 0 nm.length nm.length, .v (.int .i32 0), .v (.int .u32 0), .v (.int .u32 1), .v (.int .i32 1), .v (.int .u32 0)]
theorem set_store2 {cn : List Int} {i : Nat} {x y : Int} : some ((cn.map i64).set i (stEl (i64 x) 0 (i64 y))) = some ((cn.set i y).map i64) := set_store
section
variable {Q : Exit → St → Prop} {st : St} {ops : Array Oper} {l : List Oper}
theorem AWPL.callDo {dst : Option Tmp} {f x y : Operand} {tys : Array TypeId} {ty : TypeId} {pos : String} {after : Array Edge} {id id2 c : Nat} {nm : List Bs} {b0 : Bool}
    (he : st.ev f = .fn 30 []) (hx : st.ev x = .ptr id 0 4) (hy : st.ev y = .fn 31 [.ptr id2 0 0]) (ho : st.own[id]? = some (some [bdV nm c 0 0])) (ho2 : st.own[id2]? = some (some [bl b0])) (hne : id2 ≠ id)
    (h : AWPL E ops l Q (St.put { st with own := (st.own.set id (some [bdV nm c 0 1])).set id2 (some [bl true]) } dst (.tup []))) :
    AWPL E ops (⟨dst, .call ⟨.value f, #[x, y], tys⟩, ty, pos, after, none⟩ :: l) Q st := by
  refine AWPL.callRaw (by kernel_rfl) he fun w0 im0 cx a w vs h0 hG r hpw => ?_
  have hpw : Pw cx [st.ev x, st.ev y] vs := by simpa using hpw
  rw [hx, hy] at hpw
  obtain ⟨hn, hp⟩ := hpw
  obtain ⟨v1, v2, rfl⟩ : ∃ v1 v2, vs = [v1, v2] := by
    match vs, hn with
    | [v1, v2], _ => exact ⟨v1, v2, rfl⟩
  obtain ⟨g, q, hb, rfl⟩ := (hp 0 _ v1 rfl rfl).inv_ptr
  obtain ⟨us, rfl, hnu, hpu⟩ := (hp 1 _ v2 rfl rfl).inv_fn
  obtain ⟨u, rfl⟩ : ∃ u, us = [u] := by
    match us, hnu with
    | [u], _ => exact ⟨u, rfl⟩
  obtain ⟨g2, q2, hb2, rfl⟩ := (hpu 0 _ u rfl rfl).inv_ptr
  obtain ⟨c1, f1⟩ := r.ownCell hb ho (idx := 0) (off := 4) rfl rfl
  obtain ⟨c2, f2⟩ := r.ownCell hb ho (idx := 0) (off := 5) rfl rfl
  obtain ⟨c3, f3⟩ := r.ownCell hb2 ho2 (idx := 0) (off := 0) rfl rfl
  have hgg : g ≠ g2 := r.apart.oo id id2 g q g2 q2 _ _ hb hb2 ho ho2 (Ne.symm hne)
  have hcall := do_first g (0 * q + 4) ⟨g2, 0 * q2 + 0, none⟩ hgg _ w c3 c1 c2 f1 f2 f3
  refine hcall.mono ?_
  rintro e' w' ⟨rfl, rfl⟩
  have r1 := r.setCell (P := E.P) (t := 21) (by kernel_rfl) hb ho (idx := 0) (off := 5) (v := .int .i32 1) rfl (by show 5 + 1 ≤ 7; omega) rfl rfl
  have r2 := r1.setCell (P := E.P) (t := 4) (by kernel_rfl) hb2 (es := [bl b0]) (by show (st.own.set id _)[id2]? = _; rw [List.getElem?_set_ne (Ne.symm hne)]; exact ho2) (idx := 0) (off := 0) (v := .bool true) rfl (by show 0 + 1 ≤ 1; omega) rfl rfl
  have r3 := r2.drewW.setCell (P := E.P) (t := 57) (by kernel_rfl) hb (es := [bdM nm c]) (by show ((st.own.set id _).set id2 _)[id]? = _; rw [List.getElem?_set_ne hne, List.getElem?_set_self (lt_of_get ho)]; rfl) (idx := 0) (off := 4) (v := .int .u32 1) rfl (by show 4 + 1 ≤ 7; omega) rfl rfl
  have r4 := r3.setCell (P := E.P) (t := 21) (by kernel_rfl) hb (es := [bdN nm c]) (by show (((st.own.set id _).set id2 _).set id _)[id]? = _; rw [List.getElem?_set_self (by simp [lt_of_get ho])]; rfl) (idx := 0) (off := 5) (v := .int .i32 0) rfl (by show 5 + 1 ≤ 7; omega) rfl rfl
  refine ⟨_, rfl, cx, _, .tup [], r4, .base (.tup [] [] rfl (by simp)), ?_⟩
  have e : ((((st.own.set id (some ([bdV nm c 0 0].set 0 (stEl (bdV nm c 0 0) 5 (.v (.int .i32 1)))))).set id2 (some ([bl b0].set 0 (stEl (bl b0) 0 (.v (.bool true)))))).set id (some ([bdM nm c].set 0 (stEl (bdM nm c) 4 (.v (.int .u32 1)))))).set id (some ([bdN nm c].set 0 (stEl (bdN nm c) 5 (.v (.int .i32 0)))))) = (st.own.set id (some [bdV nm c 0 1])).set id2 (some [bl true]) := by
    rw [List.set_set, List.set_comm _ _ (Ne.symm hne), List.set_set, ← List.set_comm _ _ hne]
    rfl
  show AWPL E ops l Q (St.put { st with own := _ } dst (.tup []))
  rw [e]
  exact h
theorem AWPL.callDone {dst : Option Tmp} {f x y : Operand} {tys : Array TypeId} {ty : TypeId} {pos : String} {after : Array Edge} {id c : Nat} {nm : List Bs}
    (he : st.ev f = .fn 30 []) (hx : st.ev x = .ptr id 0 4) (ho : st.own[id]? = some (some [bdV nm c 0 1]))
    (h : AWPL E ops l Q (St.put st dst (.tup []))) :
    AWPL E ops (⟨dst, .call ⟨.value f, #[x, y], tys⟩, ty, pos, after, none⟩ :: l) Q st := by
  refine AWPL.callRaw (by kernel_rfl) he fun w0 im0 cx a w vs h0 hG r hpw => ?_
  have hpw : Pw cx [st.ev x, st.ev y] vs := by simpa using hpw
  rw [hx] at hpw
  obtain ⟨hn, hp⟩ := hpw
  obtain ⟨v1, v2, rfl⟩ : ∃ v1 v2, vs = [v1, v2] := by
    match vs, hn with
    | [v1, v2], _ => exact ⟨v1, v2, rfl⟩
  obtain ⟨g, q, hb, rfl⟩ := (hp 0 _ v1 rfl rfl).inv_ptr
  obtain ⟨c1, f1⟩ := r.ownCell hb ho (idx := 0) (off := 4) rfl rfl
  refine (do_done ⟨g, 0 * q + 4, none⟩ 1 (by decide) v2 w c1).mono ?_
  rintro e' w' ⟨rfl, rfl⟩
  exact ⟨_, rfl, cx, st, .tup [], r, .base (.tup [] [] rfl (by simp)), h⟩
end
theorem do_own {own : List (Option (List AV))} {id : Nat} {x y z : Option (List AV)} (h : id < own.length) : ((own ++ [x]).set id y).set own.length z = own.set id y ++ [z] := by
  rw [List.set_append_left _ _ h, List.set_append_right _ _ (by simp)]; simp
theorem do_get {own : List (Option (List AV))} {id : Nat} {y z : Option (List AV)} (h : id < own.length) : (own.set id y ++ [z])[own.length]? = some z := by
  rw [List.getElem?_append_right (by simp)]; simp

set_option maxRecDepth 100000 in
set_option maxHeartbeats 4000000 in
theorem first0_call {ops : Array Oper} {l0 : List Oper} {Q : Exit → St → Prop} {tmps up : List AV} {gl : Nat → Option (List AV)} {own : List (Option (List AV))} {tk : List Nat} {dst : Option Tmp} {x0 : Operand} {tys : Array TypeId} {ty : TypeId} {pos : String} {after : Array Edge} {id cid : Nat} {nm : List Bs}
    (hx0 : St.ev ⟨tmps, own, tk, gl, none, up⟩ x0 = .ptr id 0 0)
    (ho : own[id]? = some (some [bdV nm cid 0 0]))
    (h0 : AWPL E ops l0 Q (St.put ⟨tmps, own.set id (some [bdV nm cid 0 1]) ++ [some [bl true]], tk, gl, none, up⟩ dst (bl true))) :
    AWPL E ops (⟨dst, .call ⟨.value (.func 15), #[x0], tys⟩, ty, pos, after, none⟩ :: l0) Q ⟨tmps, own, tk, gl, none, up⟩ := by
  refine AWPL.call (caps := []) (rs := [.tmp 2]) Try.func15 rfl Try.ntmps15 rfl (by kernel_rfl) rfl rfl ?_
  show AWP E _ _ ⟨([St.ev _ x0] ++ []) ++ List.replicate (12 - 1) (.v undef), own, tk, gl, none, tmps ++ up⟩
  rw [hx0]
  have hB0 : ∀ (tm : List AV) (ow : List (Option (List AV))) (u0 : AV), ow = own.set id (some [bdV nm cid 0 1]) ++ [some [bl true]] → tm[2]? = some u0 → u0 = bl true → AInPost E.P [.tmp 2] ⟨tmps, own, tk, gl, none, up⟩ (fun s z => AWPL E ops l0 Q (s.put dst z)) .ret ⟨tm, ow, tk, gl, none, tmps ++ up⟩ := by
    intro tm ow u0   how hu0 eu0
    rw [how]; rw [eu0] at hu0
    refine ⟨rfl, ?_⟩
    have gu0 : St.ev ⟨tm, own.set id (some [bdV nm cid 0 1]) ++ [some [bl true]], tk, gl, none, tmps ++ up⟩ (.tmp 2) = bl true := by simp [St.ev, List.getD_eq_getElem?_getD, hu0]
    show AWPL E ops l0 Q (St.put _ dst (tupOf [St.ev _ (.tmp 2)]))
    rw [gu0]
    exact h0  
  generalize AInPost E.P [.tmp 2] ⟨tmps, own, tk, gl, none, up⟩ (fun s z => AWPL E ops l0 Q (s.put dst z)) = Q' at hB0 ⊢
  generalize tmps ++ up = up' at hB0 ⊢
  clear h0 hx0
  repeat' (first
    | refine AWP.seqk fun K hK => ?_
    | (
        refine AWP.here 4 11 2 rfl ?_
        refine AWP.region ?_; simp only [go_sem, ho, ow_len1, ow_app1, ow_get10, ow_set10, do_get (lt_of_get ho)])
    | (refine AWPL.callDo (id := id) (id2 := own.length) (nm := nm) (c := cid) (b0 := false) (by rfl) (by rfl) (by rfl) (by rw [List.getElem?_append_left (lt_of_get ho)]; exact ho) (by simp) (Nat.ne_of_gt (lt_of_get ho)) ?_; rw [do_own (lt_of_get ho)]; simp only [go_sem, do_get (lt_of_get ho)])
    | (refine AWPL.call (rs := []) Try.func30 rfl Try.ntmps30 rfl (by kernel_rfl) rfl rfl ?_; simp only [go_sem])
    | (refine AWP.here 3 6 5 rfl ?_; refine AWP.regionL ?_; refine AWPL.at 5 4 rfl ?_; simp only [go_sem, ho, ow_len1, ow_app1, ow_get10, ow_set10])
    | (refine AWP.region ?_; simp only [go_sem, ho, ow_len1, ow_app1, ow_get10, ow_set10])
    | (refine hK _ ?_; clear hK K)
    | refine AWP.block ?_
    | refine AWP.cond rfl (fun c => ?_) (fun c => ?_) <;> first | exact Bool.noConfusion c | (try simp only [dD] at c)
    | refine AWP.skip ?_
    | (refine AWP.exit ?_; simp only [go_sem, ho, ow_len1, ow_app1, ow_get10, ow_set10])
    | (refine AGet.haveM (by assumption) ?_; (try simp only [go_sem, ho, ow_len1, ow_app1, ow_get10, ow_set10]))
    | (refine AGet.have' (by assumption) ?_; (try simp only [go_sem, ho, ow_len1, ow_app1, ow_get10, ow_set10]))
    | ((first | refine AGet.nth ?_ (fun b hb => ?_) | refine AGet.nth1 ?_ (fun b hb => ?_) | with_reducible refine And.intro ?_ ?_); (focus (first | omega | assumption | exact List.length_pos_iff.2 (by assumption) | (simp only [List.length_append, List.length_cons, List.length_nil, List.length_map, List.length_take, List.length_drop] at *; omega) | (rw [wrap64_id (by omega) (by omega)]; omega) | (simp; done) | (simp [spare_len]; done) | (exact ⟨by omega, by omega⟩))); (try simp only [hb, go_sem, ho, ow_len1, ow_app1, ow_get10, ow_set10]))
    | (
        refine AWP.ret ?_
        (try simp only [inb_ret, athen_ret])
        first
        | (exact hB0 _ _ _ rfl rfl rfl))
    | (refine AWP.ret ?_; refine AInPost.ret rfl ?_; simp only [go_sem, ho, ow_len1, ow_app1, ow_get10, ow_set10])
    | (refine AWP.ret ?_; simp only [inb_ret, athen_ret]; refine AInPost.ret rfl ?_; simp only [go_sem, ho, ow_len1, ow_app1, ow_get10, ow_set10])
    | (refine AWP.ret ?_; (try simp only [inb_ret, athen_ret]); refine AInPost.ret rfl ?_; (try simp only [go_sem, ho, ow_len1, ow_app1, ow_get10, ow_set10]))
    | (refine AWPL.of ?_; simp only [go_sem, ho, ow_len1, ow_app1, ow_get10, ow_set10])
    | refine AWP.fin (by assumption) ?_
    | fail)

set_option maxRecDepth 100000 in
set_option maxHeartbeats 4000000 in
theorem first1_call {ops : Array Oper} {l0 : List Oper} {Q : Exit → St → Prop} {tmps up : List AV} {gl : Nat → Option (List AV)} {own : List (Option (List AV))} {tk : List Nat} {dst : Option Tmp} {x0 : Operand} {tys : Array TypeId} {ty : TypeId} {pos : String} {after : Array Edge} {id cid : Nat} {nm : List Bs}
    (hx0 : St.ev ⟨tmps, own, tk, gl, none, up⟩ x0 = .ptr id 0 0)
    (ho : own[id]? = some (some [bdV nm cid 0 1]))
    (h0 : AWPL E ops l0 Q (St.put ⟨tmps, own ++ [some [bl false]], tk, gl, none, up⟩ dst (bl false))) :
    AWPL E ops (⟨dst, .call ⟨.value (.func 15), #[x0], tys⟩, ty, pos, after, none⟩ :: l0) Q ⟨tmps, own, tk, gl, none, up⟩ := by
  refine AWPL.call (caps := []) (rs := [.tmp 2]) Try.func15 rfl Try.ntmps15 rfl (by kernel_rfl) rfl rfl ?_
  show AWP E _ _ ⟨([St.ev _ x0] ++ []) ++ List.replicate (12 - 1) (.v undef), own, tk, gl, none, tmps ++ up⟩
  rw [hx0]
  have hB0 : ∀ (tm : List AV) (ow : List (Option (List AV))) (u0 : AV), ow = own ++ [some [bl false]] → tm[2]? = some u0 → u0 = bl false → AInPost E.P [.tmp 2] ⟨tmps, own, tk, gl, none, up⟩ (fun s z => AWPL E ops l0 Q (s.put dst z)) .ret ⟨tm, ow, tk, gl, none, tmps ++ up⟩ := by
    intro tm ow u0   how hu0 eu0
    rw [how]; rw [eu0] at hu0
    refine ⟨rfl, ?_⟩
    have gu0 : St.ev ⟨tm, own ++ [some [bl false]], tk, gl, none, tmps ++ up⟩ (.tmp 2) = bl false := by simp [St.ev, List.getD_eq_getElem?_getD, hu0]
    show AWPL E ops l0 Q (St.put _ dst (tupOf [St.ev _ (.tmp 2)]))
    rw [gu0]
    exact h0  
  generalize AInPost E.P [.tmp 2] ⟨tmps, own, tk, gl, none, up⟩ (fun s z => AWPL E ops l0 Q (s.put dst z)) = Q' at hB0 ⊢
  generalize tmps ++ up = up' at hB0 ⊢
  clear h0 hx0
  repeat' (first
    | refine AWP.seqk fun K hK => ?_
    | (refine AWPL.callDone (id := id) (nm := nm) (c := cid) (by rfl) (by rfl) (by rw [List.getElem?_append_left (lt_of_get ho)]; exact ho) ?_; simp only [go_sem, ow_get10])
    | (refine AWPL.call (rs := []) Try.func30 rfl Try.ntmps30 rfl (by kernel_rfl) rfl rfl ?_; simp only [go_sem])
    | (refine AWP.here 3 6 5 rfl ?_; refine AWP.regionL ?_; refine AWPL.at 5 4 rfl ?_; simp only [go_sem, ho, ow_len1, ow_app1, ow_get10, ow_set10])
    | (refine AWP.region ?_; simp only [go_sem, ho, ow_len1, ow_app1, ow_get10, ow_set10])
    | (refine hK _ ?_; clear hK K)
    | refine AWP.block ?_
    | refine AWP.cond rfl (fun c => ?_) (fun c => ?_) <;> first | exact Bool.noConfusion c | (try simp only [dD] at c)
    | refine AWP.skip ?_
    | (refine AWP.exit ?_; simp only [go_sem, ho, ow_len1, ow_app1, ow_get10, ow_set10])
    | (refine AGet.haveM (by assumption) ?_; (try simp only [go_sem, ho, ow_len1, ow_app1, ow_get10, ow_set10]))
    | (refine AGet.have' (by assumption) ?_; (try simp only [go_sem, ho, ow_len1, ow_app1, ow_get10, ow_set10]))
    | ((first | refine AGet.nth ?_ (fun b hb => ?_) | refine AGet.nth1 ?_ (fun b hb => ?_) | with_reducible refine And.intro ?_ ?_); (focus (first | omega | assumption | exact List.length_pos_iff.2 (by assumption) | (simp only [List.length_append, List.length_cons, List.length_nil, List.length_map, List.length_take, List.length_drop] at *; omega) | (rw [wrap64_id (by omega) (by omega)]; omega) | (simp; done) | (simp [spare_len]; done) | (exact ⟨by omega, by omega⟩))); (try simp only [hb, go_sem, ho, ow_len1, ow_app1, ow_get10, ow_set10]))
    | (
        refine AWP.ret ?_
        (try simp only [inb_ret, athen_ret])
        first
        | (exact hB0 _ _ _ rfl rfl rfl))
    | (refine AWP.ret ?_; refine AInPost.ret rfl ?_; simp only [go_sem, ho, ow_len1, ow_app1, ow_get10, ow_set10])
    | (refine AWP.ret ?_; simp only [inb_ret, athen_ret]; refine AInPost.ret rfl ?_; simp only [go_sem, ho, ow_len1, ow_app1, ow_get10, ow_set10])
    | (refine AWP.ret ?_; (try simp only [inb_ret, athen_ret]); refine AInPost.ret rfl ?_; (try simp only [go_sem, ho, ow_len1, ow_app1, ow_get10, ow_set10]))
    | (refine AWPL.of ?_; simp only [go_sem, ho, ow_len1, ow_app1, ow_get10, ow_set10])
    | refine AWP.fin (by assumption) ?_
    | fail)

set_option maxRecDepth 100000 in
set_option maxHeartbeats 4000000 in
theorem rat_call {ops : Array Oper} {l0 : List Oper} {Q : Exit → St → Prop} {tmps up : List AV} {gl : Nat → Option (List AV)} {own : List (Option (List AV))} {tk : List Nat} {dst : Option Tmp} {x0 x1 : Operand} {tys : Array TypeId} {ty : TypeId} {pos : String} {after : Array Edge} {id c : Nat} {nm : List Bs} {cn : List Int} {s : Bs}
    (hx0 : St.ev ⟨tmps, own, tk, gl, none, up⟩ x0 = .ptr id 0 0)
    (hx1 : St.ev ⟨tmps, own, tk, gl, none, up⟩ x1 = str s)
    (ho : own[id]? = some (some [.agg [.sl none 1 (nm.map str), .mu c 1 0 nm.length nm.length]])) (hc : own[c]? = some (some (cn.map i64))) (hl : cn.length = nm.length) (hn : nm.length ≤ 1000) (hbu : (tmps ++ up).all (AV.bel own.length tk.length) = true) (hbo : OwnBel own own.length tk.length)
    (h0 : AWPL E ops l0 Q (St.put ⟨tmps, own, tk, gl, none, up⟩ dst (i64 (idI nm s)))) :
    AWPL E ops (⟨dst, .call ⟨.value (.func 14), #[x0, x1], tys⟩, ty, pos, after, none⟩ :: l0) Q ⟨tmps, own, tk, gl, none, up⟩ := by
  refine AWPL.call (caps := []) (rs := [.tmp 4]) Try.func14 rfl Try.ntmps14 rfl (by kernel_rfl) rfl rfl ?_
  show AWP E _ _ ⟨([St.ev _ x0, St.ev _ x1] ++ []) ++ List.replicate (25 - 2) (.v undef), own, tk, gl, none, tmps ++ up⟩
  rw [hx0, hx1]
  have hB0 : ∀ (tm : List AV) (ow : List (Option (List AV))) (u0 : AV), ow = own → tm[4]? = some u0 → u0 = i64 (idI nm s) → AInPost E.P [.tmp 4] ⟨tmps, own, tk, gl, none, up⟩ (fun s z => AWPL E ops l0 Q (s.put dst z)) .ret ⟨tm, ow, tk, gl, none, tmps ++ up⟩ := by
    intro tm ow u0   how hu0 eu0
    rw [how]; rw [eu0] at hu0
    refine ⟨rfl, ?_⟩
    have gu0 : St.ev ⟨tm, own, tk, gl, none, tmps ++ up⟩ (.tmp 4) = i64 (idI nm s) := by simp [St.ev, List.getD_eq_getElem?_getD, hu0]
    show AWPL E ops l0 Q (St.put _ dst (tupOf [St.ev _ (.tmp 4)]))
    rw [gu0]
    exact h0  
  generalize AInPost E.P [.tmp 4] ⟨tmps, own, tk, gl, none, up⟩ (fun s z => AWPL E ops l0 Q (s.put dst z)) = Q' at hB0 ⊢
  generalize tmps ++ up = up' at hbu hB0 ⊢
  clear h0 hx0 hx1
  repeat' (first
    | refine AWP.seqk fun K hK => ?_
    | (refine AWP.region ?_; simp only [go_sem, ho, hc])
    | (refine hK _ ?_; clear hK K)
    | refine AWP.block ?_
    | refine AWP.cond rfl (fun c => ?_) (fun c => ?_) <;> first | exact Bool.noConfusion c | (try simp only [dD] at c)
    | refine AWP.skip ?_
    | (refine AWP.exit ?_; simp only [go_sem, ho, hc])
    | (refine AGet.haveM (by assumption) ?_; (try simp only [go_sem, ho, hc]))
    | (refine AGet.have' (by assumption) ?_; (try simp only [go_sem, ho, hc]))
    | ((first | refine AGet.nth ?_ (fun b hb => ?_) | refine AGet.nth1 ?_ (fun b hb => ?_) | with_reducible refine And.intro ?_ ?_); (focus (first | omega | assumption | exact List.length_pos_iff.2 (by assumption) | (simp only [List.length_append, List.length_cons, List.length_nil, List.length_map, List.length_take, List.length_drop] at *; omega) | (rw [wrap64_id (by omega) (by omega)]; omega) | (simp; done) | (simp [spare_len]; done) | (exact ⟨by omega, by omega⟩))); (try simp only [hb, go_sem, ho, hc]))
    | (
        refine AWP.here 2 6 7 rfl ?_
        refine AWP.loopN (ι := Nat) [4, 6, 7, 8, 9, 10, 11, 12, 13, 14, 15, 16, 17, 18, 19, 20, 21, 22, 23, 24] (fun (i : Nat) => [(5, i64 i)]) (fun (i : Nat) => i ≤ nm.length ∧ (nm.take i).all (fun x => !decide (s = x)) = true) (fun (i : Nat) => nm.length - i) (0) ?_ ?_ ?_
        · (try simp only [go_sem]); (try simp only [ow_len1, ow_len2, ow_len3, ow_app1, ow_app2, ow_get10, ow_get20, ow_get21, ow_get30, ow_get31, ow_get32, ow_set10, ow_set20, ow_set21, ow_set30, ow_set31]); (repeat' (first | assumption | exact .inr ⟨rfl, decide_eq_true (lt_of_get ho)⟩ | exact .inr (decide_eq_true (lt_of_get ho)) | exact OwnBel.wk (by assumption) | exact wkK_self | refine And.intro ?_ ?_ | exact .inl rfl | exact .inr rfl | exact .inr ⟨rfl, rfl⟩ | trivial | exact .inr (oblA rfl) | exact .inr ⟨rfl, oblA rfl⟩ | exact .inr bel_strs | exact .inr ⟨rfl, bel_strs⟩ | exact .inr ⟨by simp, bel_strs⟩ | (simp; done) | exact .inr ⟨rfl, by simp⟩ | exact .inr ⟨by simp, by simp⟩)); done
        · exact ⟨by omega, by simp⟩
        rintro i ⟨h1, h2⟩
        simp only [go_sem, ho, hc])
    | (
        refine ⟨i + 1, ?_, ?_, ?_⟩
        · (try simp only [go_sem]); (try rw [wrap64_id (by omega) (by omega)]); (try simp only [ow_len1, ow_len2, ow_len3, ow_app1, ow_app2, ow_get10, ow_get20, ow_get21, ow_get30, ow_get31, ow_get32, ow_set10, ow_set20, ow_set21, ow_set30, ow_set31]); (repeat' (first | assumption | exact .inr ⟨rfl, decide_eq_true (lt_of_get ho)⟩ | exact .inr (decide_eq_true (lt_of_get ho)) | exact OwnBel.wk (by assumption) | exact wkK_self | refine And.intro ?_ ?_ | exact .inl rfl | exact .inr rfl | exact .inr ⟨rfl, rfl⟩ | trivial | exact .inr (oblA rfl) | exact .inr ⟨rfl, oblA rfl⟩ | exact .inr bel_strs | exact .inr ⟨rfl, bel_strs⟩ | exact .inr ⟨by simp, bel_strs⟩ | (simp; done) | exact .inr ⟨rfl, by simp⟩ | exact .inr ⟨by simp, by simp⟩)); done
        · exact ⟨by omega, all_next hb h2 (by rw [decide_eq_false (fun e => (by assumption : ¬ b = s) e.symm)]; rfl)⟩
        · (try simp only []); omega)
    | (
        refine AWP.ret ?_
        (try simp only [inb_ret, athen_ret])
        first
        | (exact hB0 _ _ _ rfl rfl (by rw [id_of hb (Eq.symm (by assumption)) h2]))
        | (exact hB0 _ _ _ rfl rfl (by rw [id_none (by omega) h2])))
    | refine AWP.fin (by assumption) ?_
    | fail)

set_option maxRecDepth 100000 in
set_option maxHeartbeats 4000000 in
theorem radd_call {ops : Array Oper} {l0 : List Oper} {Q : Exit → St → Prop} {tmps up : List AV} {gl : Nat → Option (List AV)} {own : List (Option (List AV))} {tk : List Nat} {dst : Option Tmp} {x0 x1 x2 : Operand} {tys : Array TypeId} {ty : TypeId} {pos : String} {after : Array Edge} {id c : Nat} {nm : List Bs} {cn : List Int} {s : Bs} {n : Int}
    (hx0 : St.ev ⟨tmps, own, tk, gl, none, up⟩ x0 = .ptr id 0 0)
    (hx1 : St.ev ⟨tmps, own, tk, gl, none, up⟩ x1 = str s)
    (hx2 : St.ev ⟨tmps, own, tk, gl, none, up⟩ x2 = i64 n)
    (ho : own[id]? = some (some [.agg [.sl none 1 (nm.map str), .mu c 1 0 nm.length nm.length]])) (hc : own[c]? = some (some (cn.map i64))) (hl : cn.length = nm.length) (hn : nm.length ≤ 1000) (hbu : (tmps ++ up).all (AV.bel own.length tk.length) = true) (hbo : OwnBel own own.length tk.length) (hne : c ≠ id)
    (h0 : AWPL E ops l0 Q (St.put ⟨tmps, own.set c (some ((addS nm cn s n).2.map i64)), tk, gl, none, up⟩ dst (i64 (addS nm cn s n).1))) :
    AWPL E ops (⟨dst, .call ⟨.value (.func 13), #[x0, x1, x2], tys⟩, ty, pos, after, none⟩ :: l0) Q ⟨tmps, own, tk, gl, none, up⟩ := by
  refine AWPL.call (caps := []) (rs := [.tmp 6]) Try.func13 rfl Try.ntmps13 rfl (by kernel_rfl) rfl rfl ?_
  show AWP E _ _ ⟨([St.ev _ x0, St.ev _ x1, St.ev _ x2] ++ []) ++ List.replicate (36 - 3) (.v undef), own, tk, gl, none, tmps ++ up⟩
  rw [hx0, hx1, hx2]
  have hB0 : ∀ (tm : List AV) (ow : List (Option (List AV))) (u0 : AV), ow = own.set c (some ((addS nm cn s n).2.map i64)) → tm[6]? = some u0 → u0 = i64 (addS nm cn s n).1 → AInPost E.P [.tmp 6] ⟨tmps, own, tk, gl, none, up⟩ (fun s z => AWPL E ops l0 Q (s.put dst z)) .ret ⟨tm, ow, tk, gl, none, tmps ++ up⟩ := by
    intro tm ow u0   how hu0 eu0
    rw [how]; rw [eu0] at hu0
    refine ⟨rfl, ?_⟩
    have gu0 : St.ev ⟨tm, own.set c (some ((addS nm cn s n).2.map i64)), tk, gl, none, tmps ++ up⟩ (.tmp 6) = i64 (addS nm cn s n).1 := by simp [St.ev, List.getD_eq_getElem?_getD, hu0]
    show AWPL E ops l0 Q (St.put _ dst (tupOf [St.ev _ (.tmp 6)]))
    rw [gu0]
    exact h0  
  generalize AInPost E.P [.tmp 6] ⟨tmps, own, tk, gl, none, up⟩ (fun s z => AWPL E ops l0 Q (s.put dst z)) = Q' at hB0 ⊢
  generalize tmps ++ up = up' at hbu hB0 ⊢
  clear h0 hx0 hx1 hx2
  repeat' (first
    | refine AWP.seqk fun K hK => ?_
    | (
        refine AWP.here 4 16 14 rfl ?_
        obtain ⟨i, hi2, hi⟩ := idI_nat (by assumption)
        obtain ⟨x, hxx⟩ : ∃ x, cn[i]? = some x := ⟨_, List.getElem?_eq_getElem (by omega)⟩
        simp only [hi2]
        refine AWP.region ?_; simp only [go_sem, ho, hc, hi2, hxx, Option.map_some, map_get hxx])
    | (
        refine AWP.here 7 29 8 rfl ?_
        refine AWP.region ?_; simp only [go_sem, ho, hc, hc, set_store2])
    | (refine rat_call rfl rfl ho hc hl hn (by rw [List.all_append, Bool.and_eq_true]; exact ⟨by simp [AV.bel, AV.bel2, AV.bel1, lt_of_get ho], by assumption⟩) hbo ?_; simp only [go_sem, ho, hc])
    | (refine ACall.one (r1add_c x n) (by kernel_rfl) rfl ?_; simp only [go_sem, ho, hc])
    | (refine AWPL.call (rs := [.tmp 4]) Try.func14 rfl Try.ntmps14 rfl (by kernel_rfl) rfl rfl ?_; simp only [go_sem])
    | (refine AWP.here 1 10 4 rfl ?_; refine AWP.regionL ?_; refine AWPL.at 4 2 rfl ?_; simp only [go_sem, ho, hc])
    | (refine AWP.region ?_; simp only [go_sem, ho, hc])
    | (refine hK _ ?_; clear hK K)
    | refine AWP.block ?_
    | refine AWP.cond rfl (fun c => ?_) (fun c => ?_) <;> first | exact Bool.noConfusion c | (try simp only [dD] at c)
    | refine AWP.skip ?_
    | (refine AWP.exit ?_; simp only [go_sem, ho, hc])
    | (refine AGet.haveM (by assumption) ?_; (try simp only [go_sem, ho, hc]))
    | (refine AGet.have' (by assumption) ?_; (try simp only [go_sem, ho, hc]))
    | ((first | refine AGet.nth ?_ (fun b hb => ?_) | refine AGet.nth1 ?_ (fun b hb => ?_) | with_reducible refine And.intro ?_ ?_); (focus (first | omega | assumption | exact List.length_pos_iff.2 (by assumption) | (simp only [List.length_append, List.length_cons, List.length_nil, List.length_map, List.length_take, List.length_drop] at *; omega) | (rw [wrap64_id (by omega) (by omega)]; omega) | (simp; done) | (simp [spare_len]; done) | (exact ⟨by omega, by omega⟩))); (try simp only [hb, go_sem, ho, hc]))
    | (
        refine AWP.ret ?_
        (try simp only [inb_ret, athen_ret])
        first
        | (exact hB0 _ _ _ (by rw [addS_no (by assumption), set_same hc]) rfl (by rw [addS_no (by assumption)]))
        | (exact hB0 _ _ _ (by rw [addS_over hi2 hxx (by assumption), set_same hc]) rfl (by rw [addS_over hi2 hxx (by assumption)]))
        | (exact hB0 _ _ _ (by rw [addS_yes hi2 hxx (by assumption)]; simp only [List.map_set]) rfl (by rw [addS_yes hi2 hxx (by assumption)])))
    | (refine AWP.ret ?_; refine AInPost.ret rfl ?_; simp only [go_sem, ho, hc])
    | (refine AWP.ret ?_; simp only [inb_ret, athen_ret]; refine AInPost.ret rfl ?_; simp only [go_sem, ho, hc])
    | (refine AWP.ret ?_; (try simp only [inb_ret, athen_ret]); refine AInPost.ret rfl ?_; (try simp only [go_sem, ho, hc]))
    | (refine AWPL.of ?_; simp only [go_sem, ho, hc])
    | refine AWP.fin (by assumption) ?_
    | fail)


end Go.Proofs.Ytceiiajacnihjaa
