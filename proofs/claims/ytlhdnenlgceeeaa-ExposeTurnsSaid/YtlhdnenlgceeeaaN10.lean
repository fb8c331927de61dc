import Derived.Test.YtlhdnenlgceeeaaN9
set_option linter.unusedVariables false
set_option linter.unusedSimpArgs false
namespace Go.Proofs.Ytlhdnenlgceeeaa
open Go Go.Abs Go.RowKit Go.Bk

theorem tk_4 {b : Bk} {x : Ex} (h : b.bad ≠ 0 ∨ 256 ≤ b.ids.length) : takeF b x = (b, 4) := by unfold takeF; rw [if_pos h]
theorem tk_2 {b : Bk} {x : Ex} (h0 : b.bad = 0) (h1 : ¬ 256 ≤ b.ids.length) (h : hasF b.ids x.id = true) : takeF b x = (b, 2) := by unfold takeF; rw [if_neg (by simp [h0]; omega), if_pos h]
theorem tk_3 {b b2 : Bk} {x : Ex} {e : Int} (h0 : b.bad = 0) (h1 : ¬ 256 ≤ b.ids.length) (h : hasF b.ids x.id = false) (hb : applyF ⟨b.orders, b.fills, b.ids ++ [x.id], b.clock, b.bad⟩ x = (b2, e)) (he : ¬ e = 0) : takeF b x = (⟨b2.orders, b2.fills, b2.ids, b2.clock, e⟩, 3) := by
  unfold takeF; rw [if_neg (by simp [h0]; omega), if_neg (by simp [h])]
  have hb' : applyF { b with ids := b.ids ++ [x.id] } x = (b2, e) := hb
  simp only [hb']
  rw [if_pos he]
theorem tk_1 {b b2 : Bk} {x : Ex} {e : Int} (h0 : b.bad = 0) (h1 : ¬ 256 ≤ b.ids.length) (h : hasF b.ids x.id = false) (hb : applyF ⟨b.orders, b.fills, b.ids ++ [x.id], b.clock, b.bad⟩ x = (b2, e)) (he : e = 0) : takeF b x = (⟨b2.orders, b2.fills, b2.ids, x.time, b2.bad⟩, 1) := by
  unfold takeF; rw [if_neg (by simp [h0]; omega), if_neg (by simp [h])]
  have hb' : applyF { b with ids := b.ids ++ [x.id] } x = (b2, e) := hb
  simp only [hb']
  rw [if_neg (by simp [he])]
theorem sg4 : ∀ i, i ≠ 2 → i < 4 → selAt [0, 1, 2, 3] i = some i := by
  intro i h1 h2
  have : i = 0 ∨ i = 1 ∨ i = 3 := by omega
  rcases this with rfl | rfl | rfl <;> rfl
theorem own_keep4 {os ids y1 y2 : AV} {k c m : Nat} {l : List Dn} {x : Ex} {rest : List (Option (List AV))} (h0 : os.ren1 (selAt [0, 1, 2, 3]) = os) (hi : ids.ren1 (selAt [0, 1, 2, 3]) = ids) (h1 : y1.ren1 (selAt [0, 1, 2, 3]) = y1) (h2 : y2.ren1 (selAt [0, 1, 2, 3]) = y2) :
    selOwn (Z0 :: some [.agg [os, .mu 2 9 0 k c, ids, y1, y2]] :: some (l.map dnV ++ spare 9 m) :: some [exV x] :: rest) [0, 1, 2, 3] = [Z0, some [.agg [os, .mu 2 9 0 k c, ids, y1, y2]], some (l.map dnV ++ spare 9 m), some [exV x]] := by
  show [Z0, some [.agg [os.ren1 _, .mu 2 9 0 k c, ids.ren1 _, y1.ren1 _, y2.ren1 _]], some ((l.map dnV ++ spare 9 m).map _), some [exV x]] = _
  rw [dn_ren, h0, hi, h1, h2]
theorem map_snoc (l : List Bs) (s : Bs) : l.map str ++ [str s] = (l ++ [s]).map str := by simp
/-- Younger own blocks and tokens are forgotten. -/
theorem AWP.cut2 {E : Env} {c : Code} {Q : Exit → St → Prop} {tmps tmps' up : List AV} {own' rest : List (Option (List AV))} {tk tk' : List Nat} {gl : Nat → Option (List AV)} {n : Nat} (hup : up.all (kp n) = true) (hn : n ≤ own'.length) (h0 : 1 ≤ tk'.length) (hb : belO own'.length tk'.length own' = true) (h1 : WkT own'.length tk'.length tmps tmps') (hk : WkK tk tk')
    (hw : AWP E c Q ⟨tmps', own', tk', gl, none, up⟩) : AWP E c Q ⟨tmps, own' ++ rest, tk, gl, none, up⟩ :=
  AWP.weaken (t := ⟨tmps', own', tk', gl, none, up⟩) ⟨h1, wkO_app hb, hk, rfl, rfl, rfl, List.all_eq_true.2 fun x hx => kp_bel hn h0 (List.all_eq_true.1 hup x hx)⟩ hw

set_option maxRecDepth 100000 in
set_option maxHeartbeats 8000000 in
theorem take_call {ops : Array Oper} {l : List Oper} {Q : Exit → St → Prop} {tmps up : List AV} {gl : Nat → Option (List AV)} {b : Bk} {x : Ex} {m : Nat} {dst : Option Tmp} {x0 x1 : Operand} {tys : Array TypeId} {ty : TypeId} {pos : String} {after : Array Edge}
    (hx0 : St.ev ⟨tmps, [Z0, some [bookV b m], some (rowV b m), some [exV x]], [b.ids.length], gl, none, up⟩ x0 = .ptr 1 0 0) (hx1 : St.ev ⟨tmps, [Z0, some [bookV b m], some (rowV b m), some [exV x]], [b.ids.length], gl, none, up⟩ x1 = exV x)
    (hx : execB x = true) (htf : ∀ f ∈ b.fills, 0 ≤ f.time ∧ f.time ≤ 4611686018427387904) (hi : b.ids.length ≤ 1000000) (ho : b.orders.length ≤ 1000000) (hf : b.fills.length ≤ 1000000) (hup : (tmps ++ up).all (kp 4) = true)
    (h : ∀ (b' : Bk) (e : Int) (m' : Nat), takeF b x = (b', e) → AWPL E ops l Q (St.put ⟨tmps, [Z0, some [bookV b' m'], some (rowV b' m'), some [exV x]], [b'.ids.length], gl, none, up⟩ dst (i64 e))) :
    AWPL E ops (⟨dst, .call ⟨.value (.func 43), #[x0, x1], tys⟩, ty, pos, after, none⟩ :: l) Q ⟨tmps, [Z0, some [bookV b m], some (rowV b m), some [exV x]], [b.ids.length], gl, none, up⟩ := by
  refine AWPL.call (caps := []) (rs := [.tmp 4]) Try.func43 rfl Try.ntmps43 rfl (by kernel_rfl) rfl rfl ?_
  show AWP E _ _ ⟨([St.ev ⟨tmps, [Z0, some [bookV b m], some (rowV b m), some [exV x]], [b.ids.length], gl, none, up⟩ x0, St.ev ⟨tmps, [Z0, some [bookV b m], some (rowV b m), some [exV x]], [b.ids.length], gl, none, up⟩ x1] ++ []) ++ List.replicate (51 - 2) (.v undef), [Z0, some [bookV b m], some (rowV b m), some [exV x]], [b.ids.length], gl, none, tmps ++ up⟩
  rw [hx0, hx1]
  have hK : ∀ (tm : List AV) (ow : List (Option (List AV))) (tk : List Nat) (b' : Bk) (e : Int) (m' : Nat), takeF b x = (b', e) → ow = [Z0, some [bookV b' m'], some (rowV b' m'), some [exV x]] → tk = [b'.ids.length] → tm[4]? = some (i64 e) → AInPost E.P [.tmp 4] ⟨tmps, [Z0, some [bookV b m], some (rowV b m), some [exV x]], [b.ids.length], gl, none, up⟩ (fun s z => AWPL E ops l Q (s.put dst z)) .ret ⟨tm, ow, tk, gl, none, tmps ++ up⟩ := by
    intro tm ow tk b' e m' hb' how htk h4
    subst how; subst htk
    refine ⟨rfl, ?_⟩
    have : St.ev ⟨tm, [Z0, some [bookV b' m'], some (rowV b' m'), some [exV x]], [b'.ids.length], gl, none, tmps ++ up⟩ (.tmp 4) = i64 e := by simp [St.ev, List.getD_eq_getElem?_getD, h4]
    show AWPL E ops l Q (St.put _ dst (tupOf [St.ev _ (.tmp 4)]))
    rw [this]
    exact h b' e m' hb'
  generalize AInPost E.P [.tmp 4] ⟨tmps, [Z0, some [bookV b m], some (rowV b m), some [exV x]], [b.ids.length], gl, none, up⟩ (fun s z => AWPL E ops l Q (s.put dst z)) = Q' at hK ⊢
  generalize tmps ++ up = up' at hup hK ⊢
  clear h hx0 hx1
  refine AWP.seqk fun K1 hK1 => ?_
  refine AWP.region ?_
  simp only [go_sem] -- region 0
  repeat' (first | (refine AGet.haveM (by assumption) ?_; (try simp only [go_sem])) | (refine AGet.have' (by assumption) ?_; (try simp only [go_sem])) | ((first | refine AGet.nth ?_ (fun b hb => ?_) | refine AGet.nth1 ?_ (fun b hb => ?_) | with_reducible refine And.intro ?_ ?_); (focus ((first | omega | exact List.length_pos_iff.2 (by assumption) | (simp only [List.length_append, List.length_cons, List.length_nil, List.length_map, List.length_take, List.length_drop] at *; omega) | (rw [wrap64_id (by omega) (by omega)]; omega) | (simp; done)))); (try simp only [hb, go_sem])))
  refine hK1 _ ?_; clear hK1 K1
  refine AWP.seqk fun K2 hK2 => ?_
  refine AWP.seqk fun K3 hK3 => ?_
  refine AWP.region ?_
  simp only [go_sem] -- region 1
  repeat' (first | (refine AGuard.splitN (fun h => ?_) (fun h => ?_) <;> simp only [h, go_sem] <;> try simp only [dD] at h) | (refine AGuard.split (fun h => ?_) (fun h => ?_) <;> simp only [h, go_sem] <;> try simp only [dD] at h) | (refine AGet.haveM (by assumption) ?_; (try simp only [go_sem])) | (refine AGet.have' (by assumption) ?_; (try simp only [go_sem])) | ((first | refine AGet.nth ?_ (fun b hb => ?_) | refine AGet.nth1 ?_ (fun b hb => ?_) | with_reducible refine And.intro ?_ ?_); (focus ((first | omega | exact List.length_pos_iff.2 (by assumption) | (simp only [List.length_append, List.length_cons, List.length_nil, List.length_map, List.length_take, List.length_drop] at *; omega) | (rw [wrap64_id (by omega) (by omega)]; omega) | (simp; done)))); (try simp only [hb, go_sem])))
  all_goals (
    refine hK3 _ ?_; clear hK3 K3
    refine AWP.cond rfl (fun c18 => ?_) (fun c18 => ?_)
    · first | exact Bool.noConfusion c18 | (
        try simp only [dD] at c18
        refine AWP.seqk fun K4 hK4 => ?_
        refine AWP.region ?_
        simp only [go_sem] -- region 2
        repeat' (first | (refine AGet.haveM (by assumption) ?_; (try simp only [go_sem])) | (refine AGet.have' (by assumption) ?_; (try simp only [go_sem])) | ((first | refine AGet.nth ?_ (fun b hb => ?_) | refine AGet.nth1 ?_ (fun b hb => ?_) | with_reducible refine And.intro ?_ ?_); (focus ((first | omega | exact List.length_pos_iff.2 (by assumption) | (simp only [List.length_append, List.length_cons, List.length_nil, List.length_map, List.length_take, List.length_drop] at *; omega) | (rw [wrap64_id (by omega) (by omega)]; omega) | (simp; done)))); (try simp only [hb, go_sem])))
        refine hK4 _ ?_; clear hK4 K4
        refine AWP.normW [0, 1, 2, 3] [Z0, some [bookV b m], some (rowV b m), some [exV x]] [b.ids.length] 4 (by decide) sg4 hup (Nat.le_refl _) (own_keep4 rfl rfl rfl rfl) own_bel1 ⟨rfl, trivial⟩ (Nat.le_refl _) ?_
        refine AWP.ret ?_
        try simp only [go_sem]
        clear hK2 K2
        first
        | (exfalso; omega)
        | exact hK _ _ _ b _ m (tk_4 (.inl (by assumption))) rfl rfl rfl
        | exact hK _ _ _ b _ m (tk_4 (.inr (by omega))) rfl rfl rfl
        | exact hK _ _ _ b _ m (tk_2 (by omega) (by omega) (by assumption)) rfl rfl rfl
        | exact hK _ _ _ _ _ m2 (tk_3 (by omega) (by omega) (by assumption) hb2 (by assumption)) rfl rfl rfl
        | exact hK _ _ _ _ _ m2 (tk_1 (by omega) (by omega) (by assumption) hb2 (by omega)) rfl rfl rfl
        | skip)
    · first | exact Bool.noConfusion c18 | (
        try simp only [dD] at c18
        refine AWP.skip ?_
        refine hK2 _ ?_; clear hK2 K2
        refine AWP.seqk fun K5 hK5 => ?_
        refine AWP.seqk fun K6 hK6 => ?_
        refine AWP.regionAs [0, 1, 2, 3, 4, 5, 6] [[], [0], [0, 1], [0, 1, 2], [], [4], [0, 1, 2, 3, 4, 5]] [] (by kernel_rfl) (by kernel_rfl) (by decide) rfl ?_
        simp only [go_sem] -- region 3
        repeat' (first | (refine ACall.one (scontains_c b.ids x.id (by omega)) (by kernel_rfl) rfl ?_; simp only [go_sem]) | (refine AGet.haveM (by assumption) ?_; (try simp only [go_sem])) | (refine AGet.have' (by assumption) ?_; (try simp only [go_sem])) | ((first | refine AGet.nth ?_ (fun b hb => ?_) | refine AGet.nth1 ?_ (fun b hb => ?_) | with_reducible refine And.intro ?_ ?_); (focus ((first | omega | exact List.length_pos_iff.2 (by assumption) | (simp only [List.length_append, List.length_cons, List.length_nil, List.length_map, List.length_take, List.length_drop] at *; omega) | (rw [wrap64_id (by omega) (by omega)]; omega) | (simp; done)))); (try simp only [hb, go_sem])))
        refine hK6 _ ?_; clear hK6 K6
        refine AWP.cond rfl (fun c25 => ?_) (fun c25 => ?_)
        · first | exact Bool.noConfusion c25 | (
            try simp only [dD] at c25
            refine AWP.seqk fun K7 hK7 => ?_
            refine AWP.region ?_
            simp only [go_sem] -- region 4
            repeat' (first | (refine AGet.haveM (by assumption) ?_; (try simp only [go_sem])) | (refine AGet.have' (by assumption) ?_; (try simp only [go_sem])) | ((first | refine AGet.nth ?_ (fun b hb => ?_) | refine AGet.nth1 ?_ (fun b hb => ?_) | with_reducible refine And.intro ?_ ?_); (focus ((first | omega | exact List.length_pos_iff.2 (by assumption) | (simp only [List.length_append, List.length_cons, List.length_nil, List.length_map, List.length_take, List.length_drop] at *; omega) | (rw [wrap64_id (by omega) (by omega)]; omega) | (simp; done)))); (try simp only [hb, go_sem])))
            refine hK7 _ ?_; clear hK7 K7
            refine AWP.normW [0, 1, 2, 3] [Z0, some [bookV b m], some (rowV b m), some [exV x]] [b.ids.length] 4 (by decide) sg4 hup (Nat.le_refl _) (own_keep4 rfl rfl rfl rfl) own_bel1 ⟨rfl, trivial⟩ (Nat.le_refl _) ?_
            refine AWP.ret ?_
            try simp only [go_sem]
            clear hK5 K5
            first
            | (exfalso; omega)
            | exact hK _ _ _ b _ m (tk_4 (.inl (by assumption))) rfl rfl rfl
            | exact hK _ _ _ b _ m (tk_4 (.inr (by omega))) rfl rfl rfl
            | exact hK _ _ _ b _ m (tk_2 (by omega) (by omega) (by assumption)) rfl rfl rfl
            | exact hK _ _ _ _ _ m2 (tk_3 (by omega) (by omega) (by assumption) hb2 (by assumption)) rfl rfl rfl
            | exact hK _ _ _ _ _ m2 (tk_1 (by omega) (by omega) (by assumption) hb2 (by omega)) rfl rfl rfl
            | skip)
        · first | exact Bool.noConfusion c25 | (
            try simp only [dD] at c25
            refine AWP.skip ?_
            refine hK5 _ ?_; clear hK5 K5
            refine AWP.seqk fun K8 hK8 => ?_
            refine AWP.regionAs [0, 1, 2, 3, 4, 5, 6, 7, 8, 9, 10, 11] [[], [], [1], [1, 2], [1, 2, 3], [], [5], [5, 6], [1, 2, 3, 4, 5, 6, 7], [0, 1, 2, 3, 4, 5, 6, 7, 8], [0, 1, 2, 3, 4, 5, 6, 7, 8, 9], [0, 1, 2, 3, 4, 5, 6, 7, 8, 9, 10]] [] (by kernel_rfl) (by kernel_rfl) (by decide) rfl ?_
            simp only [go_sem] -- region 5
            repeat' (first | (refine AGet.haveM (by assumption) ?_; (try simp only [go_sem])) | (refine AGet.have' (by assumption) ?_; (try simp only [go_sem])) | ((first | refine AGet.nth ?_ (fun b hb => ?_) | refine AGet.nth1 ?_ (fun b hb => ?_) | with_reducible refine And.intro ?_ ?_); (focus ((first | omega | exact List.length_pos_iff.2 (by assumption) | (simp only [List.length_append, List.length_cons, List.length_nil, List.length_map, List.length_take, List.length_drop] at *; omega) | (rw [wrap64_id (by omega) (by omega)]; omega) | (simp; done)))); (try simp only [hb, go_sem])))
            refine hK8 _ ?_; clear hK8 K8
            refine AWP.seqk fun K9 hK9 => ?_
            refine AWP.seqk fun K10 hK10 => ?_
            rw [map_snoc b.ids x.id]
            refine AWP.cut2 (tmps' := [.ptr 1 0 0, .any, .any, .ptr 4 0 0, .any, .any, .any, .any, .any, .any, .any, .any, .any, .any, .any, .any, .any, .any, .any, .any, .any, .any, .any, .any, .any, .any, .any, .any, .any, .any, .any, .any, .any, .any, .any, .any, .any, .any, .any, .any, .any, .any, .any, .any, .any, .any, .any, .any, .any, .any, .any]) (own' := [Z0, some [bookV ⟨b.orders, b.fills, b.ids ++ [x.id], b.clock, b.bad⟩ m], some (rowV ⟨b.orders, b.fills, b.ids ++ [x.id], b.clock, b.bad⟩ m), some [exV x], some [exV x]]) (rest := []) (tk' := [(b.ids ++ [x.id]).length]) hup (Nat.le_of_ble_eq_true rfl) (Nat.le_refl _) own_bel2 ⟨.inr ⟨rfl, rfl⟩, .inl rfl, .inl rfl, .inr ⟨rfl, rfl⟩, .inl rfl, .inl rfl, .inl rfl, .inl rfl, .inl rfl, .inl rfl, .inl rfl, .inl rfl, .inl rfl, .inl rfl, .inl rfl, .inl rfl, .inl rfl, .inl rfl, .inl rfl, .inl rfl, .inl rfl, .inl rfl, .inl rfl, .inl rfl, .inl rfl, .inl rfl, .inl rfl, .inl rfl, .inl rfl, .inl rfl, .inl rfl, .inl rfl, .inl rfl, .inl rfl, .inl rfl, .inl rfl, .inl rfl, .inl rfl, .inl rfl, .inl rfl, .inl rfl, .inl rfl, .inl rfl, .inl rfl, .inl rfl, .inl rfl, .inl rfl, .inl rfl, .inl rfl, .inl rfl, .inl rfl, trivial⟩ ⟨by simp, trivial⟩ ?_
            refine AWP.regionL ?_
            refine AWPL.app (l1 := [_, _]) (l2 := _ :: _) ?_
            simp only [go_sem]
            rw [show b.ids.length + 1 = (b.ids ++ [x.id]).length by simp]
            refine apply_call (b := ⟨b.orders, b.fills, b.ids ++ [x.id], b.clock, b.bad⟩) (x := x) (m := m) rfl rfl hx htf ho hf (kpL_app (by decide) rfl hup) ?_
            intro b2 e2 m2 hb2
            refine AWPL.of ?_
            simp only [go_sem]
            refine hK10 _ ?_; clear hK10 K10
            refine AWP.seqk fun K11 hK11 => ?_
            refine AWP.region ?_
            simp only [go_sem] -- region 7
            repeat' (first | (refine AGet.haveM (by assumption) ?_; (try simp only [go_sem])) | (refine AGet.have' (by assumption) ?_; (try simp only [go_sem])) | ((first | refine AGet.nth ?_ (fun b hb => ?_) | refine AGet.nth1 ?_ (fun b hb => ?_) | with_reducible refine And.intro ?_ ?_); (focus ((first | omega | exact List.length_pos_iff.2 (by assumption) | (simp only [List.length_append, List.length_cons, List.length_nil, List.length_map, List.length_take, List.length_drop] at *; omega) | (rw [wrap64_id (by omega) (by omega)]; omega) | (simp; done)))); (try simp only [hb, go_sem])))
            refine hK11 _ ?_; clear hK11 K11
            refine AWP.cond rfl (fun c41 => ?_) (fun c41 => ?_)
            · first | exact Bool.noConfusion c41 | (
                try simp only [dD] at c41
                refine AWP.seqk fun K12 hK12 => ?_
                refine AWP.region ?_
                simp only [go_sem] -- region 8
                repeat' (first | (refine AGet.haveM (by assumption) ?_; (try simp only [go_sem])) | (refine AGet.have' (by assumption) ?_; (try simp only [go_sem])) | ((first | refine AGet.nth ?_ (fun b hb => ?_) | refine AGet.nth1 ?_ (fun b hb => ?_) | with_reducible refine And.intro ?_ ?_); (focus ((first | omega | exact List.length_pos_iff.2 (by assumption) | (simp only [List.length_append, List.length_cons, List.length_nil, List.length_map, List.length_take, List.length_drop] at *; omega) | (rw [wrap64_id (by omega) (by omega)]; omega) | (simp; done)))); (try simp only [hb, go_sem])))
                refine hK12 _ ?_; clear hK12 K12
                refine AWP.seqk fun K13 hK13 => ?_
                refine AWP.region ?_
                simp only [go_sem] -- region 9
                repeat' (first | (refine AGet.haveM (by assumption) ?_; (try simp only [go_sem])) | (refine AGet.have' (by assumption) ?_; (try simp only [go_sem])) | ((first | refine AGet.nth ?_ (fun b hb => ?_) | refine AGet.nth1 ?_ (fun b hb => ?_) | with_reducible refine And.intro ?_ ?_); (focus ((first | omega | exact List.length_pos_iff.2 (by assumption) | (simp only [List.length_append, List.length_cons, List.length_nil, List.length_map, List.length_take, List.length_drop] at *; omega) | (rw [wrap64_id (by omega) (by omega)]; omega) | (simp; done)))); (try simp only [hb, go_sem])))
                refine hK13 _ ?_; clear hK13 K13
                refine AWP.normW [0, 1, 2, 3] [Z0, some [bookV ⟨b2.orders, b2.fills, b2.ids, b2.clock, e2⟩ m2], some (rowV ⟨b2.orders, b2.fills, b2.ids, b2.clock, e2⟩ m2), some [exV x]] [b2.ids.length] 4 (by decide) sg4 hup (Nat.le_refl _) (own_keep4 rfl rfl rfl rfl) own_bel1 ⟨rfl, trivial⟩ (Nat.le_refl _) ?_
                refine AWP.ret ?_
                try simp only [go_sem]
                clear hK9 K9
                first
                | (exfalso; omega)
                | exact hK _ _ _ b _ m (tk_4 (.inl (by assumption))) rfl rfl rfl
                | exact hK _ _ _ b _ m (tk_4 (.inr (by omega))) rfl rfl rfl
                | exact hK _ _ _ b _ m (tk_2 (by omega) (by omega) (by assumption)) rfl rfl rfl
                | exact hK _ _ _ _ _ m2 (tk_3 (by omega) (by omega) (by assumption) hb2 (by assumption)) rfl rfl rfl
                | exact hK _ _ _ _ _ m2 (tk_1 (by omega) (by omega) (by assumption) hb2 (by omega)) rfl rfl rfl
                | skip)
            · first | exact Bool.noConfusion c41 | (
                try simp only [dD] at c41
                refine AWP.skip ?_
                refine hK9 _ ?_; clear hK9 K9
                refine AWP.seqk fun K14 hK14 => ?_
                refine AWP.region ?_
                simp only [go_sem] -- region 10
                repeat' (first | (refine AGet.haveM (by assumption) ?_; (try simp only [go_sem])) | (refine AGet.have' (by assumption) ?_; (try simp only [go_sem])) | ((first | refine AGet.nth ?_ (fun b hb => ?_) | refine AGet.nth1 ?_ (fun b hb => ?_) | with_reducible refine And.intro ?_ ?_); (focus ((first | omega | exact List.length_pos_iff.2 (by assumption) | (simp only [List.length_append, List.length_cons, List.length_nil, List.length_map, List.length_take, List.length_drop] at *; omega) | (rw [wrap64_id (by omega) (by omega)]; omega) | (simp; done)))); (try simp only [hb, go_sem])))
                refine hK14 _ ?_; clear hK14 K14
                refine AWP.seqk fun K15 hK15 => ?_
                refine AWP.region ?_
                simp only [go_sem] -- region 11
                repeat' (first | (refine AGet.haveM (by assumption) ?_; (try simp only [go_sem])) | (refine AGet.have' (by assumption) ?_; (try simp only [go_sem])) | ((first | refine AGet.nth ?_ (fun b hb => ?_) | refine AGet.nth1 ?_ (fun b hb => ?_) | with_reducible refine And.intro ?_ ?_); (focus ((first | omega | exact List.length_pos_iff.2 (by assumption) | (simp only [List.length_append, List.length_cons, List.length_nil, List.length_map, List.length_take, List.length_drop] at *; omega) | (rw [wrap64_id (by omega) (by omega)]; omega) | (simp; done)))); (try simp only [hb, go_sem])))
                refine hK15 _ ?_; clear hK15 K15
                refine AWP.normW [0, 1, 2, 3] [Z0, some [bookV ⟨b2.orders, b2.fills, b2.ids, x.time, b2.bad⟩ m2], some (rowV ⟨b2.orders, b2.fills, b2.ids, x.time, b2.bad⟩ m2), some [exV x]] [b2.ids.length] 4 (by decide) sg4 hup (Nat.le_refl _) (own_keep4 rfl rfl rfl rfl) own_bel1 ⟨rfl, trivial⟩ (Nat.le_refl _) ?_
                refine AWP.ret ?_
                try simp only [go_sem]
                first
                | (exfalso; omega)
                | exact hK _ _ _ b _ m (tk_4 (.inl (by assumption))) rfl rfl rfl
                | exact hK _ _ _ b _ m (tk_4 (.inr (by omega))) rfl rfl rfl
                | exact hK _ _ _ b _ m (tk_2 (by omega) (by omega) (by assumption)) rfl rfl rfl
                | exact hK _ _ _ _ _ m2 (tk_3 (by omega) (by omega) (by assumption) hb2 (by assumption)) rfl rfl rfl
                | exact hK _ _ _ _ _ m2 (tk_1 (by omega) (by omega) (by assumption) hb2 (by omega)) rfl rfl rfl
                | skip))))


end Go.Proofs.Ytlhdnenlgceeeaa
