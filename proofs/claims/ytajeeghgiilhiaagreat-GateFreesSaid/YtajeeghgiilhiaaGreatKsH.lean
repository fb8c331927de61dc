/- Texts of one chain, put together (N8). -/
import Derived.Test.YtajeeghgiilhiaaGreatKsG
section
set_option linter.unusedVariables false
set_option linter.unusedSimpArgs false
namespace Go.Proofs.YtajeeghgiilhiaaGreat
open Go Go.Abs Go.RowKit Go.Bk

theorem repF_ok {b : Bk} {x : Ex} (h : (changeO b.orders x.ref x.ord x.qty x.price).2 = 0) : replaceF b x = (⟨(changeO b.orders x.ref x.ord x.qty x.price).1, b.fills, b.ids, b.clock, b.bad⟩, 0) := by unfold replaceF; simp [h]
theorem repF_1 {b : Bk} {x : Ex} (h : (changeO b.orders x.ref x.ord x.qty x.price).2 = 1) : replaceF b x = (b, 4) := by unfold replaceF; simp [h]
theorem repF_2 {b : Bk} {x : Ex} (h0 : ¬ (changeO b.orders x.ref x.ord x.qty x.price).2 = 0) (h1 : ¬ (changeO b.orders x.ref x.ord x.qty x.price).2 = 1) : replaceF b x = (b, 2) := by unfold replaceF; simp [h0, h1]
theorem amF_6 {b : Bk} {x : Ex} (h : atF b.fills x.ref = none) : amendF b x = (b, 6) := by unfold amendF; simp [h]
section
variable {b : Bk} {x : Ex} {n : Nat} {f : Dn} (e2 : atF b.fills x.ref = some n) (hb : b.fills[n]? = some f)
include e2 hb
theorem amF_6a (h : f.live = false) : amendF b x = (b, 6) := by unfold amendF; simp [e2, hb, h]
theorem amF_6b (h : 10 < x.time - f.time) : amendF b x = (b, 6) := by unfold amendF; simp [e2, hb, h]
variable (hl : f.live = true) (ht : ¬ 10 < x.time - f.time)
include hl ht
theorem amF_3 (h : f.ord ≠ x.ord ∨ f.acc ≠ x.acc ∨ f.sym ≠ x.sym ∨ f.buy ≠ x.buy) : amendF b x = (b, 3) := by
  unfold amendF; simp only [e2, getDD hb]
  rw [if_neg (by simp [hl]; omega), if_pos h]
variable (h1 : f.ord = x.ord) (h2 : f.acc = x.acc) (h3 : f.sym = x.sym) (h4 : f.buy = x.buy)
include h1 h2 h3 h4
theorem amF_bust (h : x.kind = 7) : amendF b x = (⟨b.orders, b.fills.set n ⟨f.id, f.ord, f.acc, f.sym, f.buy, f.qty, f.price, f.time, false⟩, b.ids, b.clock, b.bad⟩, 0) := by
  unfold amendF; simp only [e2, getDD hb]
  rw [if_neg (by simp [hl]; omega), if_neg (by simp [h1, h2, h3, h4]), if_pos h]
variable (h5 : ¬ x.kind = 7)
include h5
theorem amF_4 (h : f.qty < x.qty) : amendF b x = (b, 4) := by
  unfold amendF; simp only [e2, getDD hb]
  rw [if_neg (by simp [hl]; omega), if_neg (by simp [h1, h2, h3, h4]), if_neg h5, if_pos h]
variable (h6 : ¬ f.qty < x.qty)
include h6
theorem amF_5 (h : (findF b.orders f.ord).2 = false ∨ fairF { (findF b.orders f.ord).1 with buy := f.buy } x.price = false) : amendF b x = (b, 5) := by
  unfold amendF; simp only [e2, getDD hb]
  rw [if_neg (by simp [hl]; omega), if_neg (by simp [h1, h2, h3, h4]), if_neg h5, if_neg h6, if_pos h]
theorem amF_ok (h7 : (findF b.orders f.ord).2 = true) (h8 : fairF { (findF b.orders f.ord).1 with buy := f.buy } x.price = true) : amendF b x = (⟨b.orders, b.fills.set n ⟨f.id, f.ord, f.acc, f.sym, f.buy, x.qty, x.price, f.time, f.live⟩, b.ids, b.clock, b.bad⟩, 0) := by
  unfold amendF; simp only [e2, getDD hb]
  rw [if_neg (by simp [hl]; omega), if_neg (by simp [h1, h2, h3, h4]), if_neg h5, if_neg h6, if_neg (by simp [h7, h8])]
end
theorem own_keepG {os ids y1 y2 : AV} {k c m : Nat} {l : List Dn} {x : Ex} {rest : List (Option (List AV))} (h0 : os.ren1 (selAt [0, 1, 2, 3, 4, 5]) = os) (hi : ids.ren1 (selAt [0, 1, 2, 3, 4, 5]) = ids) (h1 : y1.ren1 (selAt [0, 1, 2, 3, 4, 5]) = y1) (h2 : y2.ren1 (selAt [0, 1, 2, 3, 4, 5]) = y2) :
    selOwn (Z0 :: some [.agg [os, .mu 2 9 0 k c, ids, y1, y2]] :: some (l.map dnV ++ spare 9 m) :: some [exV x] :: some [exV x] :: some [exV x] :: rest) [0, 1, 2, 3, 4, 5] = [Z0, some [.agg [os, .mu 2 9 0 k c, ids, y1, y2]], some (l.map dnV ++ spare 9 m), some [exV x], some [exV x], some [exV x]] := by
  show [Z0, some [.agg [os.ren1 _, .mu 2 9 0 k c, ids.ren1 _, y1.ren1 _, y2.ren1 _]], some ((l.map dnV ++ spare 9 m).map _), some [exV x], some [exV x], some [exV x]] = _
  rw [dn_ren, h0, hi, h1, h2]
theorem wrap_t {a b : Int} (h1 : 0 ≤ a ∧ a ≤ 4611686018427387904) (h2 : 0 ≤ b ∧ b ≤ 4611686018427387904) : IntKind.i64.wrap (a - b) = a - b := wrap64_id (by omega) (by omega)

set_option maxRecDepth 100000 in
set_option maxHeartbeats 8000000 in
theorem replace_call {ops : Array Oper} {l : List Oper} {Q : Exit → St → Prop} {tmps up : List AV} {gl : Nat → Option (List AV)} {b : Bk} {x : Ex} {m : Nat} {dst : Option Tmp} {x0 x1 : Operand} {tys : Array TypeId} {ty : TypeId} {pos : String} {after : Array Edge}
    (hx0 : St.ev ⟨tmps, [Z0, some [bookV b m], some (rowV b m), some [exV x], some [exV x], some [exV x]], [b.ids.length], gl, none, up⟩ x0 = .ptr 1 0 0) (hx1 : St.ev ⟨tmps, [Z0, some [bookV b m], some (rowV b m), some [exV x], some [exV x], some [exV x]], [b.ids.length], gl, none, up⟩ x1 = exV x)
     (ho : b.orders.length ≤ 1000000) (hf : b.fills.length ≤ 1000000) (hup : (tmps ++ up).all (kp 6) = true)
    (h : ∀ (b' : Bk) (e : Int) (m' : Nat), replaceF b x = (b', e) → AWPL E ops l Q (St.put ⟨tmps, [Z0, some [bookV b' m'], some (rowV b' m'), some [exV x], some [exV x], some [exV x]], [b'.ids.length], gl, none, up⟩ dst (i64 e))) :
    AWPL E ops (⟨dst, .call ⟨.value (.func 211), #[x0, x1], tys⟩, ty, pos, after, none⟩ :: l) Q ⟨tmps, [Z0, some [bookV b m], some (rowV b m), some [exV x], some [exV x], some [exV x]], [b.ids.length], gl, none, up⟩ := by
  refine AWPL.call (caps := []) (rs := [.tmp 4]) Tryz.func211 rfl Tryz.ntmps211 rfl (by kernel_rfl) rfl rfl ?_
  show AWP E _ _ ⟨([St.ev ⟨tmps, [Z0, some [bookV b m], some (rowV b m), some [exV x], some [exV x], some [exV x]], [b.ids.length], gl, none, up⟩ x0, St.ev ⟨tmps, [Z0, some [bookV b m], some (rowV b m), some [exV x], some [exV x], some [exV x]], [b.ids.length], gl, none, up⟩ x1] ++ []) ++ List.replicate (32 - 2) (.v undef), [Z0, some [bookV b m], some (rowV b m), some [exV x], some [exV x], some [exV x]], [b.ids.length], gl, none, tmps ++ up⟩
  rw [hx0, hx1]
  have hK : ∀ (tm : List AV) (ow : List (Option (List AV))) (tk : List Nat) (b' : Bk) (e : Int) (m' : Nat), replaceF b x = (b', e) → ow = [Z0, some [bookV b' m'], some (rowV b' m'), some [exV x], some [exV x], some [exV x]] → tk = [b'.ids.length] → tm[4]? = some (i64 e) → AInPost E.P [.tmp 4] ⟨tmps, [Z0, some [bookV b m], some (rowV b m), some [exV x], some [exV x], some [exV x]], [b.ids.length], gl, none, up⟩ (fun s z => AWPL E ops l Q (s.put dst z)) .ret ⟨tm, ow, tk, gl, none, tmps ++ up⟩ := by
    intro tm ow tk b' e m' hb' how htk h4
    subst how; subst htk
    refine ⟨rfl, ?_⟩
    have : St.ev ⟨tm, [Z0, some [bookV b' m'], some (rowV b' m'), some [exV x], some [exV x], some [exV x]], [b'.ids.length], gl, none, tmps ++ up⟩ (.tmp 4) = i64 e := by simp [St.ev, List.getD_eq_getElem?_getD, h4]
    show AWPL E ops l Q (St.put _ dst (tupOf [St.ev _ (.tmp 4)]))
    rw [this]
    exact h b' e m' hb'
  generalize AInPost E.P [.tmp 4] ⟨tmps, [Z0, some [bookV b m], some (rowV b m), some [exV x], some [exV x], some [exV x]], [b.ids.length], gl, none, up⟩ (fun s z => AWPL E ops l Q (s.put dst z)) = Q' at hK ⊢
  generalize tmps ++ up = up' at hup hK ⊢
  clear h hx0 hx1
  refine AWP.seqk fun K1 hK1 => ?_
  refine AWP.region ?_
  simp only [go_sem] -- region 0
  repeat' (first | (refine AGet.haveM (by assumption) ?_; (try simp only [go_sem])) | (refine AGet.have' (by assumption) ?_; (try simp only [go_sem])) | ((first | refine AGet.nth ?_ (fun b hb => ?_) | refine AGet.nth1 ?_ (fun b hb => ?_) | with_reducible refine And.intro ?_ ?_); (focus ((first | omega | exact List.length_pos_iff.2 (by assumption) | (simp only [List.length_append, List.length_cons, List.length_nil, List.length_map, List.length_take, List.length_drop] at *; omega) | (rw [wrap64_id (by omega) (by omega)]; omega) | (simp; done)))); (try simp only [hb, go_sem])))
  refine hK1 _ ?_; clear hK1 K1
  refine AWP.seqk fun K2 hK2 => ?_
  refine AWP.regionAs [0, 1, 2, 3, 4, 5, 6, 7, 8, 9, 10, 11, 12, 13, 14, 15, 16, 17] [[], [0], [0, 1], [0, 1, 2], [], [4], [], [6], [], [8], [], [10], [0, 1, 2, 3, 4, 5, 6, 7, 8, 9, 10, 11], [0, 1, 2, 3, 4, 5, 6, 7, 8, 9, 10, 11, 12], [0, 1, 2, 3, 4, 5, 6, 7, 8, 9, 10, 11, 12, 13], [0, 1, 2, 3, 4, 5, 6, 7, 8, 9, 10, 11, 12, 13], [0, 1, 2, 3, 4, 5, 6, 7, 8, 9, 10, 11, 12, 13, 14], [0, 1, 2, 3, 4, 5, 6, 7, 8, 9, 10, 11, 12, 13, 14, 15, 16]] [] (by kernel_rfl) (by kernel_rfl) (by decide) rfl ?_
  simp only [go_sem] -- region 1
  repeat' (first | (refine ACall.of (ochange_c b.orders x.ref x.ord x.qty x.price (by omega)) (by kernel_rfl) rfl ?_; rintro r t ⟨⟨y, rfl, hy⟩, rfl⟩ <;> simp only [go_sem]) | (refine AGet.haveM (by assumption) ?_; (try simp only [go_sem])) | (refine AGet.have' (by assumption) ?_; (try simp only [go_sem])) | ((first | refine AGet.nth ?_ (fun b hb => ?_) | refine AGet.nth1 ?_ (fun b hb => ?_) | with_reducible refine And.intro ?_ ?_); (focus ((first | omega | exact List.length_pos_iff.2 (by assumption) | (simp only [List.length_append, List.length_cons, List.length_nil, List.length_map, List.length_take, List.length_drop] at *; omega) | (rw [wrap64_id (by omega) (by omega)]; omega) | (simp; done)))); (try simp only [hb, go_sem])))
  refine hK2 _ ?_; clear hK2 K2
  refine AWP.seqk fun K3 hK3 => ?_
  refine AWP.seqk fun K4 hK4 => ?_
  refine AWP.region ?_
  simp only [go_sem] -- region 2
  repeat' (first | (refine AGet.haveM (by assumption) ?_; (try simp only [go_sem])) | (refine AGet.have' (by assumption) ?_; (try simp only [go_sem])) | ((first | refine AGet.nth ?_ (fun b hb => ?_) | refine AGet.nth1 ?_ (fun b hb => ?_) | with_reducible refine And.intro ?_ ?_); (focus ((first | omega | exact List.length_pos_iff.2 (by assumption) | (simp only [List.length_append, List.length_cons, List.length_nil, List.length_map, List.length_take, List.length_drop] at *; omega) | (rw [wrap64_id (by omega) (by omega)]; omega) | (simp; done)))); (try simp only [hb, go_sem])))
  refine hK4 _ ?_; clear hK4 K4
  refine AWP.block ?_ -- 0
  refine AWP.seqk fun K5 hK5 => ?_
  refine AWP.region ?_
  simp only [go_sem] -- region 4
  repeat' (first | (refine AGet.haveM (by assumption) ?_; (try simp only [go_sem])) | (refine AGet.have' (by assumption) ?_; (try simp only [go_sem])) | ((first | refine AGet.nth ?_ (fun b hb => ?_) | refine AGet.nth1 ?_ (fun b hb => ?_) | with_reducible refine And.intro ?_ ?_); (focus ((first | omega | exact List.length_pos_iff.2 (by assumption) | (simp only [List.length_append, List.length_cons, List.length_nil, List.length_map, List.length_take, List.length_drop] at *; omega) | (rw [wrap64_id (by omega) (by omega)]; omega) | (simp; done)))); (try simp only [hb, go_sem])))
  refine hK5 _ ?_; clear hK5 K5
  refine AWP.cond rfl (fun c24 => ?_) (fun c24 => ?_)
  · first | exact Bool.noConfusion c24 | (
      try simp only [dD] at c24
      refine AWP.skip ?_
      refine hK3 _ ?_; clear hK3 K3
      refine AWP.seqk fun K6 hK6 => ?_
      have hx9 := hy (by assumption)
      subst hx9
      refine AWP.region ?_
      simp only [go_sem] -- region 7
      repeat' (first | (refine AGet.haveM (by assumption) ?_; (try simp only [go_sem])) | (refine AGet.have' (by assumption) ?_; (try simp only [go_sem])) | ((first | refine AGet.nth ?_ (fun b hb => ?_) | refine AGet.nth1 ?_ (fun b hb => ?_) | with_reducible refine And.intro ?_ ?_); (focus ((first | omega | exact List.length_pos_iff.2 (by assumption) | (simp only [List.length_append, List.length_cons, List.length_nil, List.length_map, List.length_take, List.length_drop] at *; omega) | (rw [wrap64_id (by omega) (by omega)]; omega) | (simp; done)))); (try simp only [hb, go_sem])))
      refine hK6 _ ?_; clear hK6 K6
      refine AWP.seqk fun K7 hK7 => ?_
      refine AWP.region ?_
      simp only [go_sem] -- region 8
      repeat' (first | (refine AGet.haveM (by assumption) ?_; (try simp only [go_sem])) | (refine AGet.have' (by assumption) ?_; (try simp only [go_sem])) | ((first | refine AGet.nth ?_ (fun b hb => ?_) | refine AGet.nth1 ?_ (fun b hb => ?_) | with_reducible refine And.intro ?_ ?_); (focus ((first | omega | exact List.length_pos_iff.2 (by assumption) | (simp only [List.length_append, List.length_cons, List.length_nil, List.length_map, List.length_take, List.length_drop] at *; omega) | (rw [wrap64_id (by omega) (by omega)]; omega) | (simp; done)))); (try simp only [hb, go_sem])))
      refine hK7 _ ?_; clear hK7 K7
      refine AWP.normW [0, 1, 2, 3, 4, 5] [Z0, some [bookV (replaceF b x).1 m], some (rowV (replaceF b x).1 m), some [exV x], some [exV x], some [exV x]] [b.ids.length] 6 (by decide) sg6 hup (Nat.le_refl _) (by rw [repF_ok (by assumption)]; exact own_keepG rfl rfl rfl rfl) own_bel3 ⟨rfl, trivial⟩ (Nat.le_refl _) ?_
      refine AWP.ret ?_
      try simp only [go_sem]
      first
      | exact hK _ _ _ b _ m (repF_1 (by assumption)) rfl rfl rfl
      | exact hK _ _ _ b _ m (repF_2 (by assumption) (by assumption)) rfl rfl rfl
      | exact hK _ _ _ (replaceF b x).1 0 m (by rw [repF_ok (by assumption)]) rfl (by rw [repF_ok (by assumption)]) rfl
      | skip)
  · first | exact Bool.noConfusion c24 | (
      try simp only [dD] at c24
      refine AWP.seqk fun K8 hK8 => ?_
      refine AWP.region ?_
      simp only [go_sem] -- region 5
      repeat' (first | (refine AGet.haveM (by assumption) ?_; (try simp only [go_sem])) | (refine AGet.have' (by assumption) ?_; (try simp only [go_sem])) | ((first | refine AGet.nth ?_ (fun b hb => ?_) | refine AGet.nth1 ?_ (fun b hb => ?_) | with_reducible refine And.intro ?_ ?_); (focus ((first | omega | exact List.length_pos_iff.2 (by assumption) | (simp only [List.length_append, List.length_cons, List.length_nil, List.length_map, List.length_take, List.length_drop] at *; omega) | (rw [wrap64_id (by omega) (by omega)]; omega) | (simp; done)))); (try simp only [hb, go_sem])))
      refine hK8 _ ?_; clear hK8 K8
      refine AWP.cond rfl (fun c26 => ?_) (fun c26 => ?_)
      · first | exact Bool.noConfusion c26 | (
          try simp only [dD] at c26
          refine AWP.seqk fun K9 hK9 => ?_
          refine AWP.region ?_
          simp only [go_sem] -- region 6
          repeat' (first | (refine AGet.haveM (by assumption) ?_; (try simp only [go_sem])) | (refine AGet.have' (by assumption) ?_; (try simp only [go_sem])) | ((first | refine AGet.nth ?_ (fun b hb => ?_) | refine AGet.nth1 ?_ (fun b hb => ?_) | with_reducible refine And.intro ?_ ?_); (focus ((first | omega | exact List.length_pos_iff.2 (by assumption) | (simp only [List.length_append, List.length_cons, List.length_nil, List.length_map, List.length_take, List.length_drop] at *; omega) | (rw [wrap64_id (by omega) (by omega)]; omega) | (simp; done)))); (try simp only [hb, go_sem])))
          refine hK9 _ ?_; clear hK9 K9
          refine AWP.normW [0, 1, 2, 3, 4, 5] [Z0, some [bookV b m], some (rowV b m), some [exV x], some [exV x], some [exV x]] [b.ids.length] 6 (by decide) sg6 hup (Nat.le_refl _) own_keep own_bel3 ⟨rfl, trivial⟩ (Nat.le_refl _) ?_
          refine AWP.ret ?_
          try simp only [go_sem]
          clear hK3 K3
          first
          | exact hK _ _ _ b _ m (repF_1 (by assumption)) rfl rfl rfl
          | exact hK _ _ _ b _ m (repF_2 (by assumption) (by assumption)) rfl rfl rfl
          | exact hK _ _ _ (replaceF b x).1 0 m (by rw [repF_ok (by assumption)]) rfl (by rw [repF_ok (by assumption)]) rfl
          | skip)
      · first | exact Bool.noConfusion c26 | (
          try simp only [dD] at c26
          refine AWP.seqk fun K10 hK10 => ?_
          refine AWP.region ?_
          simp only [go_sem] -- region 3
          repeat' (first | (refine AGet.haveM (by assumption) ?_; (try simp only [go_sem])) | (refine AGet.have' (by assumption) ?_; (try simp only [go_sem])) | ((first | refine AGet.nth ?_ (fun b hb => ?_) | refine AGet.nth1 ?_ (fun b hb => ?_) | with_reducible refine And.intro ?_ ?_); (focus ((first | omega | exact List.length_pos_iff.2 (by assumption) | (simp only [List.length_append, List.length_cons, List.length_nil, List.length_map, List.length_take, List.length_drop] at *; omega) | (rw [wrap64_id (by omega) (by omega)]; omega) | (simp; done)))); (try simp only [hb, go_sem])))
          refine hK10 _ ?_; clear hK10 K10
          refine AWP.normW [0, 1, 2, 3, 4, 5] [Z0, some [bookV b m], some (rowV b m), some [exV x], some [exV x], some [exV x]] [b.ids.length] 6 (by decide) sg6 hup (Nat.le_refl _) own_keep own_bel3 ⟨rfl, trivial⟩ (Nat.le_refl _) ?_
          refine AWP.ret ?_
          try simp only [go_sem]
          clear hK3 K3
          first
          | exact hK _ _ _ b _ m (repF_1 (by assumption)) rfl rfl rfl
          | exact hK _ _ _ b _ m (repF_2 (by assumption) (by assumption)) rfl rfl rfl
          | exact hK _ _ _ (replaceF b x).1 0 m (by rw [repF_ok (by assumption)]) rfl (by rw [repF_ok (by assumption)]) rfl
          | skip))


set_option maxRecDepth 100000 in
set_option maxHeartbeats 8000000 in
theorem amend_call {ops : Array Oper} {l : List Oper} {Q : Exit → St → Prop} {tmps up : List AV} {gl : Nat → Option (List AV)} {b : Bk} {x : Ex} {m : Nat} {dst : Option Tmp} {x0 x1 : Operand} {tys : Array TypeId} {ty : TypeId} {pos : String} {after : Array Edge}
    (hx0 : St.ev ⟨tmps, [Z0, some [bookV b m], some (rowV b m), some [exV x], some [exV x], some [exV x]], [b.ids.length], gl, none, up⟩ x0 = .ptr 1 0 0) (hx1 : St.ev ⟨tmps, [Z0, some [bookV b m], some (rowV b m), some [exV x], some [exV x], some [exV x]], [b.ids.length], gl, none, up⟩ x1 = exV x)
    (htx : 0 ≤ x.time ∧ x.time ≤ 4611686018427387904) (htf : ∀ f ∈ b.fills, 0 ≤ f.time ∧ f.time ≤ 4611686018427387904) (ho : b.orders.length ≤ 1000000) (hf : b.fills.length ≤ 1000000) (hup : (tmps ++ up).all (kp 6) = true)
    (h : ∀ (b' : Bk) (e : Int) (m' : Nat), amendF b x = (b', e) → AWPL E ops l Q (St.put ⟨tmps, [Z0, some [bookV b' m'], some (rowV b' m'), some [exV x], some [exV x], some [exV x]], [b'.ids.length], gl, none, up⟩ dst (i64 e))) :
    AWPL E ops (⟨dst, .call ⟨.value (.func 209), #[x0, x1], tys⟩, ty, pos, after, none⟩ :: l) Q ⟨tmps, [Z0, some [bookV b m], some (rowV b m), some [exV x], some [exV x], some [exV x]], [b.ids.length], gl, none, up⟩ := by
  refine AWPL.call (caps := []) (rs := [.tmp 4]) Tryz.func209 rfl Tryz.ntmps209 rfl (by kernel_rfl) rfl rfl ?_
  show AWP E _ _ ⟨([St.ev ⟨tmps, [Z0, some [bookV b m], some (rowV b m), some [exV x], some [exV x], some [exV x]], [b.ids.length], gl, none, up⟩ x0, St.ev ⟨tmps, [Z0, some [bookV b m], some (rowV b m), some [exV x], some [exV x], some [exV x]], [b.ids.length], gl, none, up⟩ x1] ++ []) ++ List.replicate (130 - 2) (.v undef), [Z0, some [bookV b m], some (rowV b m), some [exV x], some [exV x], some [exV x]], [b.ids.length], gl, none, tmps ++ up⟩
  rw [hx0, hx1]
  have hK : ∀ (tm : List AV) (ow : List (Option (List AV))) (tk : List Nat) (b' : Bk) (e : Int) (m' : Nat), amendF b x = (b', e) → ow = [Z0, some [bookV b' m'], some (rowV b' m'), some [exV x], some [exV x], some [exV x]] → tk = [b'.ids.length] → tm[4]? = some (i64 e) → AInPost E.P [.tmp 4] ⟨tmps, [Z0, some [bookV b m], some (rowV b m), some [exV x], some [exV x], some [exV x]], [b.ids.length], gl, none, up⟩ (fun s z => AWPL E ops l Q (s.put dst z)) .ret ⟨tm, ow, tk, gl, none, tmps ++ up⟩ := by
    intro tm ow tk b' e m' hb' how htk h4
    subst how; subst htk
    refine ⟨rfl, ?_⟩
    have : St.ev ⟨tm, [Z0, some [bookV b' m'], some (rowV b' m'), some [exV x], some [exV x], some [exV x]], [b'.ids.length], gl, none, tmps ++ up⟩ (.tmp 4) = i64 e := by simp [St.ev, List.getD_eq_getElem?_getD, h4]
    show AWPL E ops l Q (St.put _ dst (tupOf [St.ev _ (.tmp 4)]))
    rw [this]
    exact h b' e m' hb'
  generalize AInPost E.P [.tmp 4] ⟨tmps, [Z0, some [bookV b m], some (rowV b m), some [exV x], some [exV x], some [exV x]], [b.ids.length], gl, none, up⟩ (fun s z => AWPL E ops l Q (s.put dst z)) = Q' at hK ⊢
  generalize tmps ++ up = up' at hup hK ⊢
  clear h hx0 hx1
  refine AWP.seqk fun K1 hK1 => ?_
  refine AWP.region ?_
  simp only [go_sem] -- region 0
  repeat' (first | (refine AGet.haveM (by assumption) ?_; (try simp only [go_sem])) | (refine AGet.have' (by assumption) ?_; (try simp only [go_sem])) | ((first | refine AGet.nth ?_ (fun b hb => ?_) | refine AGet.nth1 ?_ (fun b hb => ?_) | with_reducible refine And.intro ?_ ?_); (focus ((first | omega | exact List.length_pos_iff.2 (by assumption) | (simp only [List.length_append, List.length_cons, List.length_nil, List.length_map, List.length_take, List.length_drop] at *; omega) | (rw [wrap64_id (by omega) (by omega)]; omega) | (simp; done)))); (try simp only [hb, go_sem])))
  refine hK1 _ ?_; clear hK1 K1
  refine AWP.seqk fun K2 hK2 => ?_
  refine AWP.region ?_
  simp only [go_sem] -- region 1
  repeat' (first | (refine ACall.snapOne (dindex_c b.fills x (by omega)) (by kernel_rfl) rfl (.cons (.one (.mu' rfl (by simp) (cl_dn _))) (.cons (.fn (.cons (.ptr (e := exV x) rfl (cl_ex x)) .nil)) .nil)) ?_; simp only [go_sem]) | (refine ACall.one (dindex_c _ _ (by omega)) (by kernel_rfl) rfl ?_; simp only [go_sem]) | (refine AGet.haveM (by assumption) ?_; (try simp only [go_sem])) | (refine AGet.have' (by assumption) ?_; (try simp only [go_sem])) | ((first | refine AGet.nth ?_ (fun b hb => ?_) | refine AGet.nth1 ?_ (fun b hb => ?_) | with_reducible refine And.intro ?_ ?_); (focus ((first | omega | exact List.length_pos_iff.2 (by assumption) | (simp only [List.length_append, List.length_cons, List.length_nil, List.length_map, List.length_take, List.length_drop] at *; omega) | (rw [wrap64_id (by omega) (by omega)]; omega) | (simp; done)))); (try simp only [hb, go_sem])))
  refine hK2 _ ?_; clear hK2 K2
  refine AWP.seqk fun K3 hK3 => ?_
  refine AWP.seqk fun K4 hK4 => ?_
  rcases at_cases b.fills x.ref with ⟨e, e2⟩ | ⟨n, f, e, e2, hb⟩ <;> simp only [e]
  all_goals first | have hn : n < b.fills.length := get_lt hb | skip
  all_goals first | have hg := dn_get hb (spare 9 m) | have hg : True := trivial
  all_goals first | have hw := wrap_t htx (htf f (List.mem_of_getElem? hb)) | have hw : True := trivial
  all_goals (
    refine AWP.regionAs [0, 1, 2, 3, 4, 5, 6, 7, 8, 9, 10, 11, 12, 13, 14, 15, 16, 17, 18, 19, 20, 21, 22, 23, 24, 25, 26] [[], [0], [0, 1], [0, 1, 2], [0, 1, 2, 3], [0, 1, 2, 3, 4], [0, 1, 2, 3, 4, 5], [0, 1, 2], [0, 1, 2, 3, 4, 5, 6, 7], [0, 1, 2, 3, 4, 5, 6, 7, 8], [0, 1, 2, 3, 4, 5, 6, 7, 8, 9], [0, 1, 2, 3, 4, 5, 6, 7, 8, 9, 10], [0, 1, 2, 3, 4, 5, 6, 7, 8, 9, 10, 11], [0, 1, 2, 3, 4, 5, 6, 7, 8, 9, 10, 11, 12], [0, 1, 2, 3, 4, 5, 6, 7, 8, 9, 10, 11, 12, 13], [0, 1, 2, 3, 4, 5, 6, 7, 8, 9, 10, 11, 12, 13, 14], [0, 1, 2, 3, 4, 5, 6, 7, 8, 9, 10, 11, 12, 13], [0, 1, 2, 3, 4, 5, 6, 7, 8, 9, 10, 11, 12, 13, 16], [0, 1, 2, 3, 4, 5, 6, 7, 8, 9, 10, 11, 12, 13, 16, 17], [0, 1, 2, 3, 4, 5, 6, 7, 8, 9, 10, 11, 12, 13, 16, 17, 18], [0, 1, 2, 3, 4, 5, 6, 7, 8, 9, 10, 11, 12, 13], [0, 1, 2, 3, 4, 5, 6, 7, 8, 9, 10, 11, 12, 13, 16, 17, 18, 19, 20], [0, 1, 2, 3, 4, 5, 6, 7, 8, 9, 10, 11, 12, 13, 16, 17, 18, 19, 20, 21], [0, 1, 2, 3, 4, 5, 6, 7, 8, 9, 10, 11, 12, 13, 16, 17, 18, 19, 20, 21, 22], [0, 1, 2, 3, 4, 5, 6, 7, 8, 9, 10, 11, 12, 13, 14, 15, 16, 17, 18, 19, 20, 21, 22, 23], [0, 1, 2, 3, 4, 5, 6, 7, 8, 9, 10, 11, 12, 13, 14, 15, 16, 17, 18, 19, 20, 21, 22, 23, 24], [0, 1, 2, 3, 4, 5, 6, 7, 8, 9, 10, 11, 12, 13, 14, 15, 16, 17, 18, 19, 20, 21, 22, 23, 24, 25]] [] (by kernel_rfl) (by kernel_rfl) (by decide) rfl ?_
    simp only [go_sem, hg, hw] -- region 2
    repeat' (first | (refine AGuard.splitN (fun h => ?_) (fun h => ?_) <;> simp only [h, go_sem, hg, hw] <;> try simp only [dD] at h) | (refine AGuard.split (fun h => ?_) (fun h => ?_) <;> simp only [h, go_sem, hg, hw] <;> try simp only [dD] at h) | (refine AGet.haveM (by assumption) ?_; (try simp only [go_sem, hg, hw])) | (refine AGet.have' (by assumption) ?_; (try simp only [go_sem, hg, hw])) | ((first | refine AGet.nth ?_ (fun b hb => ?_) | refine AGet.nth1 ?_ (fun b hb => ?_) | with_reducible refine And.intro ?_ ?_); (focus ((first | omega | exact List.length_pos_iff.2 (by assumption) | (simp only [List.length_append, List.length_cons, List.length_nil, List.length_map, List.length_take, List.length_drop] at *; omega) | (rw [wrap64_id (by omega) (by omega)]; omega) | (simp; done)))); (try simp only [hb, go_sem, hg, hw])))
    all_goals (
      refine hK4 _ ?_; clear hK4 K4
      refine AWP.cond rfl (fun c41 => ?_) (fun c41 => ?_)
      · first | exact Bool.noConfusion c41 | (
          try simp only [dD] at c41
          refine AWP.seqk fun K5 hK5 => ?_
          refine AWP.region ?_
          simp only [go_sem] -- region 3
          repeat' (first | (refine AGet.haveM (by assumption) ?_; (try simp only [go_sem])) | (refine AGet.have' (by assumption) ?_; (try simp only [go_sem])) | ((first | refine AGet.nth ?_ (fun b hb => ?_) | refine AGet.nth1 ?_ (fun b hb => ?_) | with_reducible refine And.intro ?_ ?_); (focus ((first | omega | exact List.length_pos_iff.2 (by assumption) | (simp only [List.length_append, List.length_cons, List.length_nil, List.length_map, List.length_take, List.length_drop] at *; omega) | (rw [wrap64_id (by omega) (by omega)]; omega) | (simp; done)))); (try simp only [hb, go_sem])))
          refine hK5 _ ?_; clear hK5 K5
          refine AWP.normW [0, 1, 2, 3, 4, 5] [Z0, some [bookV b m], some (rowV b m), some [exV x], some [exV x], some [exV x]] [b.ids.length] 6 (by decide) sg6 hup (Nat.le_refl _) own_keep own_bel3 ⟨rfl, trivial⟩ (Nat.le_refl _) ?_
          refine AWP.ret ?_
          try simp only [go_sem]
          clear hK3 K3
          first
          | (exfalso; omega)
          | exact hK _ _ _ b _ m (amF_6 e2) rfl rfl rfl
          | exact hK _ _ _ b _ m (amF_6a e2 hb (by assumption)) rfl rfl rfl
          | exact hK _ _ _ b _ m (amF_6b e2 hb (by assumption)) rfl rfl rfl
          | exact hK _ _ _ b _ m (amF_3 e2 hb (by assumption) (by assumption) (.inl (by assumption))) rfl rfl rfl
          | exact hK _ _ _ b _ m (amF_3 e2 hb (by assumption) (by assumption) (.inr (.inl (by assumption)))) rfl rfl rfl
          | exact hK _ _ _ b _ m (amF_3 e2 hb (by assumption) (by assumption) (.inr (.inr (.inl (by assumption))))) rfl rfl rfl
          | exact hK _ _ _ b _ m (amF_3 e2 hb (by assumption) (by assumption) (.inr (.inr (.inr (by assumption))))) rfl rfl rfl
          | exact hK _ _ _ b _ m (amF_4 e2 hb (by assumption) (by assumption) (by assumption) (by assumption) (by assumption) (by assumption) (by assumption) (by assumption)) rfl rfl rfl
          | exact hK _ _ _ b _ m (amF_5 e2 hb (by assumption) (by assumption) (by assumption) (by assumption) (by assumption) (by assumption) (by assumption) (by assumption) (.inl (by assumption))) rfl rfl rfl
          | exact hK _ _ _ b _ m (amF_5 e2 hb (by assumption) (by assumption) (by assumption) (by assumption) (by assumption) (by assumption) (by assumption) (by assumption) (.inr (by assumption))) rfl rfl rfl
          | exact hK _ _ _ (amendF b x).1 0 m (by rw [amF_bust e2 hb (by assumption) (by assumption) (by assumption) (by assumption) (by assumption) (by assumption) (by assumption)]) rfl (by rw [amF_bust e2 hb (by assumption) (by assumption) (by assumption) (by assumption) (by assumption) (by assumption) (by assumption)]) rfl
          | exact hK _ _ _ (amendF b x).1 0 m (by rw [amF_ok e2 hb (by assumption) (by assumption) (by assumption) (by assumption) (by assumption) (by assumption) (by assumption) (by assumption) (by assumption) (by assumption)]) rfl (by rw [amF_ok e2 hb (by assumption) (by assumption) (by assumption) (by assumption) (by assumption) (by assumption) (by assumption) (by assumption) (by assumption) (by assumption)]) rfl
          | skip)
      · first | exact Bool.noConfusion c41 | (
          try simp only [dD] at c41
          refine AWP.skip ?_
          refine hK3 _ ?_; clear hK3 K3
          refine AWP.seqk fun K6 hK6 => ?_
          refine AWP.region ?_
          simp only [go_sem, hg] -- region 4
          repeat' (first | (refine AGet.haveM (by assumption) ?_; (try simp only [go_sem, hg])) | (refine AGet.have' (by assumption) ?_; (try simp only [go_sem, hg])) | ((first | refine AGet.nth ?_ (fun b hb => ?_) | refine AGet.nth1 ?_ (fun b hb => ?_) | with_reducible refine And.intro ?_ ?_); (focus ((first | omega | exact List.length_pos_iff.2 (by assumption) | (simp only [List.length_append, List.length_cons, List.length_nil, List.length_map, List.length_take, List.length_drop] at *; omega) | (rw [wrap64_id (by omega) (by omega)]; omega) | (simp; done)))); (try simp only [hb, go_sem, hg])))
          refine hK6 _ ?_; clear hK6 K6
          refine AWP.seqk fun K7 hK7 => ?_
          refine AWP.seqk fun K8 hK8 => ?_
          refine AWP.regionAs [0, 1, 2, 3, 4, 5, 6, 7, 8, 9, 10, 11, 12, 13, 14, 15, 16, 17, 18, 19, 20, 21, 22, 23, 24, 25, 26, 27, 28, 29, 30, 31, 32, 33] [[], [0], [0, 1], [0, 1, 2], [], [4], [0, 1, 2, 3, 4, 5], [0, 1, 2, 3, 4, 5, 6], [0, 1, 2, 3, 4, 5, 6, 7], [0, 1, 2, 3, 4, 5, 6, 7, 8], [0, 1, 2, 3, 4, 5, 6, 7, 8, 9], [0, 1, 2, 3, 4, 5, 6, 7, 8, 9, 10], [0, 1, 2, 3, 4, 5, 6, 7], [0, 1, 2, 3, 4, 5, 6, 7, 12], [0, 1, 2, 3, 4, 5, 6, 7, 8, 9, 10, 11, 12, 13], [0, 1, 2, 3, 4, 5, 6, 7, 8, 9, 10, 11, 12, 13, 14], [0, 1, 2, 3, 4, 5, 6, 7, 8, 9, 10, 11, 12, 13, 14, 15], [0, 1, 2, 3, 4, 5, 6, 7, 8, 9, 10, 11, 12, 13, 14, 15, 16], [0, 1, 2, 3, 4, 5, 6, 7, 8, 9, 10, 11, 12, 13, 14, 15, 16, 17], [0, 1, 2, 3, 4, 5, 6, 7, 8, 9, 10, 11, 12, 13, 14, 15, 16, 17, 18], [0, 1, 2, 3, 4, 5, 6, 7, 8, 9, 10, 11, 12, 13, 14, 15, 16, 17, 18, 19], [0, 1, 2, 3, 4, 5, 6, 7, 8, 9, 10, 11, 12, 13, 14, 15, 16], [0, 1, 2, 3, 4, 5, 6, 7, 8, 9, 10, 11, 12, 13, 14, 15, 16, 21], [0, 1, 2, 3, 4, 5, 6, 7, 8, 9, 10, 11, 12, 13, 14, 15, 16, 17, 18, 19, 20, 21, 22], [0, 1, 2, 3, 4, 5, 6, 7, 8, 9, 10, 11, 12, 13, 14, 15, 16, 17, 18, 19, 20, 21, 22, 23], [0, 1, 2, 3, 4, 5, 6, 7, 8, 9, 10, 11, 12, 13, 14, 15, 16, 17, 18, 19, 20, 21, 22, 23, 24], [0, 1, 2, 3, 4, 5, 6, 7, 8, 9, 10, 11, 12, 13, 14, 15, 16, 17, 18, 19, 20, 21, 22, 23, 24, 25], [0, 1, 2, 3, 4, 5, 6, 7, 8, 9, 10, 11, 12, 13, 14, 15, 16, 17, 18, 19, 20, 21, 22, 23, 24, 25, 26], [0, 1, 2, 3, 4, 5, 6, 7, 8, 9, 10, 11, 12, 13, 14, 15, 16, 17, 18, 19, 20, 21, 22, 23, 24, 25, 26, 27], [0, 1, 2, 3, 4, 5, 6, 7, 8, 9, 10, 11, 12, 13, 14, 15, 16, 17, 18, 19, 20, 21, 22, 23, 24, 25, 26, 27, 28], [0, 1, 2, 3, 4, 5, 6, 7, 8, 9, 10, 11, 12, 13, 14, 15, 16, 17, 18, 19, 20, 21, 22, 23, 24, 25], [0, 1, 2, 3, 4, 5, 6, 7, 8, 9, 10, 11, 12, 13, 14, 15, 16, 17, 18, 19, 20, 21, 22, 23, 24, 25, 30], [0, 1, 2, 3, 4, 5, 6, 7, 8, 9, 10, 11, 12, 13, 14, 15, 16, 17, 18, 19, 20, 21, 22, 23, 24, 25, 26, 27, 28, 29, 30, 31], [0, 1, 2, 3, 4, 5, 6, 7, 8, 9, 10, 11, 12, 13, 14, 15, 16, 17, 18, 19, 20, 21, 22, 23, 24, 25, 26, 27, 28, 29, 30, 31, 32]] [] (by kernel_rfl) (by kernel_rfl) (by decide) rfl ?_
          simp only [go_sem, hg] -- region 5
          repeat' (first | (refine AGuard.splitN (fun h => ?_) (fun h => ?_) <;> simp only [h, go_sem, hg] <;> try simp only [dD] at h) | (refine AGuard.split (fun h => ?_) (fun h => ?_) <;> simp only [h, go_sem, hg] <;> try simp only [dD] at h) | (refine AGet.haveM (by assumption) ?_; (try simp only [go_sem, hg])) | (refine AGet.have' (by assumption) ?_; (try simp only [go_sem, hg])) | ((first | refine AGet.nth ?_ (fun b hb => ?_) | refine AGet.nth1 ?_ (fun b hb => ?_) | with_reducible refine And.intro ?_ ?_); (focus ((first | omega | exact List.length_pos_iff.2 (by assumption) | (simp only [List.length_append, List.length_cons, List.length_nil, List.length_map, List.length_take, List.length_drop] at *; omega) | (rw [wrap64_id (by omega) (by omega)]; omega) | (simp; done)))); (try simp only [hb, go_sem, hg])))
          all_goals (
            refine hK8 _ ?_; clear hK8 K8
            refine AWP.cond rfl (fun c81 => ?_) (fun c81 => ?_)
            · first | exact Bool.noConfusion c81 | (
                try simp only [dD] at c81
                refine AWP.seqk fun K9 hK9 => ?_
                refine AWP.region ?_
                simp only [go_sem] -- region 6
                repeat' (first | (refine AGet.haveM (by assumption) ?_; (try simp only [go_sem])) | (refine AGet.have' (by assumption) ?_; (try simp only [go_sem])) | ((first | refine AGet.nth ?_ (fun b hb => ?_) | refine AGet.nth1 ?_ (fun b hb => ?_) | with_reducible refine And.intro ?_ ?_); (focus ((first | omega | exact List.length_pos_iff.2 (by assumption) | (simp only [List.length_append, List.length_cons, List.length_nil, List.length_map, List.length_take, List.length_drop] at *; omega) | (rw [wrap64_id (by omega) (by omega)]; omega) | (simp; done)))); (try simp only [hb, go_sem])))
                refine hK9 _ ?_; clear hK9 K9
                refine AWP.normW [0, 1, 2, 3, 4, 5] [Z0, some [bookV b m], some (rowV b m), some [exV x], some [exV x], some [exV x]] [b.ids.length] 6 (by decide) sg6 hup (Nat.le_refl _) own_keep own_bel3 ⟨rfl, trivial⟩ (Nat.le_refl _) ?_
                refine AWP.ret ?_
                try simp only [go_sem]
                clear hK7 K7
                first
                | (exfalso; omega)
                | exact hK _ _ _ b _ m (amF_6 e2) rfl rfl rfl
                | exact hK _ _ _ b _ m (amF_6a e2 hb (by assumption)) rfl rfl rfl
                | exact hK _ _ _ b _ m (amF_6b e2 hb (by assumption)) rfl rfl rfl
                | exact hK _ _ _ b _ m (amF_3 e2 hb (by assumption) (by assumption) (.inl (by assumption))) rfl rfl rfl
                | exact hK _ _ _ b _ m (amF_3 e2 hb (by assumption) (by assumption) (.inr (.inl (by assumption)))) rfl rfl rfl
                | exact hK _ _ _ b _ m (amF_3 e2 hb (by assumption) (by assumption) (.inr (.inr (.inl (by assumption))))) rfl rfl rfl
                | exact hK _ _ _ b _ m (amF_3 e2 hb (by assumption) (by assumption) (.inr (.inr (.inr (by assumption))))) rfl rfl rfl
                | exact hK _ _ _ b _ m (amF_4 e2 hb (by assumption) (by assumption) (by assumption) (by assumption) (by assumption) (by assumption) (by assumption) (by assumption)) rfl rfl rfl
                | exact hK _ _ _ b _ m (amF_5 e2 hb (by assumption) (by assumption) (by assumption) (by assumption) (by assumption) (by assumption) (by assumption) (by assumption) (.inl (by assumption))) rfl rfl rfl
                | exact hK _ _ _ b _ m (amF_5 e2 hb (by assumption) (by assumption) (by assumption) (by assumption) (by assumption) (by assumption) (by assumption) (by assumption) (.inr (by assumption))) rfl rfl rfl
                | exact hK _ _ _ (amendF b x).1 0 m (by rw [amF_bust e2 hb (by assumption) (by assumption) (by assumption) (by assumption) (by assumption) (by assumption) (by assumption)]) rfl (by rw [amF_bust e2 hb (by assumption) (by assumption) (by assumption) (by assumption) (by assumption) (by assumption) (by assumption)]) rfl
                | exact hK _ _ _ (amendF b x).1 0 m (by rw [amF_ok e2 hb (by assumption) (by assumption) (by assumption) (by assumption) (by assumption) (by assumption) (by assumption) (by assumption) (by assumption) (by assumption)]) rfl (by rw [amF_ok e2 hb (by assumption) (by assumption) (by assumption) (by assumption) (by assumption) (by assumption) (by assumption) (by assumption) (by assumption) (by assumption)]) rfl
                | skip)
            · first | exact Bool.noConfusion c81 | (
                try simp only [dD] at c81
                refine AWP.skip ?_
                refine hK7 _ ?_; clear hK7 K7
                refine AWP.seqk fun K10 hK10 => ?_
                refine AWP.seqk fun K11 hK11 => ?_
                refine AWP.region ?_
                simp only [go_sem] -- region 7
                repeat' (first | (refine AGet.haveM (by assumption) ?_; (try simp only [go_sem])) | (refine AGet.have' (by assumption) ?_; (try simp only [go_sem])) | ((first | refine AGet.nth ?_ (fun b hb => ?_) | refine AGet.nth1 ?_ (fun b hb => ?_) | with_reducible refine And.intro ?_ ?_); (focus ((first | omega | exact List.length_pos_iff.2 (by assumption) | (simp only [List.length_append, List.length_cons, List.length_nil, List.length_map, List.length_take, List.length_drop] at *; omega) | (rw [wrap64_id (by omega) (by omega)]; omega) | (simp; done)))); (try simp only [hb, go_sem])))
                refine hK11 _ ?_; clear hK11 K11
                refine AWP.cond rfl (fun c84 => ?_) (fun c84 => ?_)
                · first | exact Bool.noConfusion c84 | (
                    try simp only [dD] at c84
                    refine AWP.seqk fun K12 hK12 => ?_
                    refine AWP.region ?_
                    simp only [go_sem] -- region 8
                    repeat' (first | (refine AGet.haveM (by assumption) ?_; (try simp only [go_sem])) | (refine AGet.have' (by assumption) ?_; (try simp only [go_sem])) | ((first | refine AGet.nth ?_ (fun b hb => ?_) | refine AGet.nth1 ?_ (fun b hb => ?_) | with_reducible refine And.intro ?_ ?_); (focus ((first | omega | exact List.length_pos_iff.2 (by assumption) | (simp only [List.length_append, List.length_cons, List.length_nil, List.length_map, List.length_take, List.length_drop] at *; omega) | (rw [wrap64_id (by omega) (by omega)]; omega) | (simp; done)))); (try simp only [hb, go_sem])))
                    refine hK12 _ ?_; clear hK12 K12
                    refine AWP.seqk fun K13 hK13 => ?_
                    rw [dn_set (o' := ⟨f.id, f.ord, f.acc, f.sym, f.buy, f.qty, f.price, f.time, false⟩) hb (spare 9 m)]
                    refine AWP.region ?_
                    simp only [go_sem] -- region 9
                    repeat' (first | (refine AGet.haveM (by assumption) ?_; (try simp only [go_sem])) | (refine AGet.have' (by assumption) ?_; (try simp only [go_sem])) | ((first | refine AGet.nth ?_ (fun b hb => ?_) | refine AGet.nth1 ?_ (fun b hb => ?_) | with_reducible refine And.intro ?_ ?_); (focus ((first | omega | exact List.length_pos_iff.2 (by assumption) | (simp only [List.length_append, List.length_cons, List.length_nil, List.length_map, List.length_take, List.length_drop] at *; omega) | (rw [wrap64_id (by omega) (by omega)]; omega) | (simp; done)))); (try simp only [hb, go_sem])))
                    refine hK13 _ ?_; clear hK13 K13
                    refine AWP.normW [0, 1, 2, 3, 4, 5] [Z0, some [bookV (amendF b x).1 m], some (rowV (amendF b x).1 m), some [exV x], some [exV x], some [exV x]] [b.ids.length] 6 (by decide) sg6 hup (Nat.le_refl _) (by rw [amF_bust e2 hb (by assumption) (by assumption) (by assumption) (by assumption) (by assumption) (by assumption) (by assumption)]; exact (own_keepG rfl rfl rfl rfl).trans (by simp [rowV])) own_bel3 ⟨rfl, trivial⟩ (Nat.le_refl _) ?_
                    refine AWP.ret ?_
                    try simp only [go_sem]
                    clear hK10 K10
                    first
                    | (exfalso; omega)
                    | exact hK _ _ _ b _ m (amF_6 e2) rfl rfl rfl
                    | exact hK _ _ _ b _ m (amF_6a e2 hb (by assumption)) rfl rfl rfl
                    | exact hK _ _ _ b _ m (amF_6b e2 hb (by assumption)) rfl rfl rfl
                    | exact hK _ _ _ b _ m (amF_3 e2 hb (by assumption) (by assumption) (.inl (by assumption))) rfl rfl rfl
                    | exact hK _ _ _ b _ m (amF_3 e2 hb (by assumption) (by assumption) (.inr (.inl (by assumption)))) rfl rfl rfl
                    | exact hK _ _ _ b _ m (amF_3 e2 hb (by assumption) (by assumption) (.inr (.inr (.inl (by assumption))))) rfl rfl rfl
                    | exact hK _ _ _ b _ m (amF_3 e2 hb (by assumption) (by assumption) (.inr (.inr (.inr (by assumption))))) rfl rfl rfl
                    | exact hK _ _ _ b _ m (amF_4 e2 hb (by assumption) (by assumption) (by assumption) (by assumption) (by assumption) (by assumption) (by assumption) (by assumption)) rfl rfl rfl
                    | exact hK _ _ _ b _ m (amF_5 e2 hb (by assumption) (by assumption) (by assumption) (by assumption) (by assumption) (by assumption) (by assumption) (by assumption) (.inl (by assumption))) rfl rfl rfl
                    | exact hK _ _ _ b _ m (amF_5 e2 hb (by assumption) (by assumption) (by assumption) (by assumption) (by assumption) (by assumption) (by assumption) (by assumption) (.inr (by assumption))) rfl rfl rfl
                    | exact hK _ _ _ (amendF b x).1 0 m (by rw [amF_bust e2 hb (by assumption) (by assumption) (by assumption) (by assumption) (by assumption) (by assumption) (by assumption)]) rfl (by rw [amF_bust e2 hb (by assumption) (by assumption) (by assumption) (by assumption) (by assumption) (by assumption) (by assumption)]) rfl
                    | exact hK _ _ _ (amendF b x).1 0 m (by rw [amF_ok e2 hb (by assumption) (by assumption) (by assumption) (by assumption) (by assumption) (by assumption) (by assumption) (by assumption) (by assumption) (by assumption)]) rfl (by rw [amF_ok e2 hb (by assumption) (by assumption) (by assumption) (by assumption) (by assumption) (by assumption) (by assumption) (by assumption) (by assumption) (by assumption)]) rfl
                    | skip)
                · first | exact Bool.noConfusion c84 | (
                    try simp only [dD] at c84
                    refine AWP.skip ?_
                    refine hK10 _ ?_; clear hK10 K10
                    refine AWP.seqk fun K14 hK14 => ?_
                    refine AWP.seqk fun K15 hK15 => ?_
                    refine AWP.regionAs [0, 1, 2, 3, 4, 5, 6] [[], [0], [], [2], [2, 3], [2, 3, 4], [0, 1, 2, 3, 4, 5]] [] (by kernel_rfl) (by kernel_rfl) (by decide) rfl ?_
                    simp only [go_sem, hg] -- region 10
                    repeat' (first | (refine AGet.haveM (by assumption) ?_; (try simp only [go_sem, hg])) | (refine AGet.have' (by assumption) ?_; (try simp only [go_sem, hg])) | ((first | refine AGet.nth ?_ (fun b hb => ?_) | refine AGet.nth1 ?_ (fun b hb => ?_) | with_reducible refine And.intro ?_ ?_); (focus ((first | omega | exact List.length_pos_iff.2 (by assumption) | (simp only [List.length_append, List.length_cons, List.length_nil, List.length_map, List.length_take, List.length_drop] at *; omega) | (rw [wrap64_id (by omega) (by omega)]; omega) | (simp; done)))); (try simp only [hb, go_sem, hg])))
                    refine hK15 _ ?_; clear hK15 K15
                    refine AWP.cond rfl (fun c94 => ?_) (fun c94 => ?_)
                    · first | exact Bool.noConfusion c94 | (
                        try simp only [dD] at c94
                        refine AWP.seqk fun K16 hK16 => ?_
                        refine AWP.region ?_
                        simp only [go_sem] -- region 11
                        repeat' (first | (refine AGet.haveM (by assumption) ?_; (try simp only [go_sem])) | (refine AGet.have' (by assumption) ?_; (try simp only [go_sem])) | ((first | refine AGet.nth ?_ (fun b hb => ?_) | refine AGet.nth1 ?_ (fun b hb => ?_) | with_reducible refine And.intro ?_ ?_); (focus ((first | omega | exact List.length_pos_iff.2 (by assumption) | (simp only [List.length_append, List.length_cons, List.length_nil, List.length_map, List.length_take, List.length_drop] at *; omega) | (rw [wrap64_id (by omega) (by omega)]; omega) | (simp; done)))); (try simp only [hb, go_sem])))
                        refine hK16 _ ?_; clear hK16 K16
                        refine AWP.normW [0, 1, 2, 3, 4, 5] [Z0, some [bookV b m], some (rowV b m), some [exV x], some [exV x], some [exV x]] [b.ids.length] 6 (by decide) sg6 hup (Nat.le_refl _) own_keep own_bel3 ⟨rfl, trivial⟩ (Nat.le_refl _) ?_
                        refine AWP.ret ?_
                        try simp only [go_sem]
                        clear hK14 K14
                        first
                        | (exfalso; omega)
                        | exact hK _ _ _ b _ m (amF_6 e2) rfl rfl rfl
                        | exact hK _ _ _ b _ m (amF_6a e2 hb (by assumption)) rfl rfl rfl
                        | exact hK _ _ _ b _ m (amF_6b e2 hb (by assumption)) rfl rfl rfl
                        | exact hK _ _ _ b _ m (amF_3 e2 hb (by assumption) (by assumption) (.inl (by assumption))) rfl rfl rfl
                        | exact hK _ _ _ b _ m (amF_3 e2 hb (by assumption) (by assumption) (.inr (.inl (by assumption)))) rfl rfl rfl
                        | exact hK _ _ _ b _ m (amF_3 e2 hb (by assumption) (by assumption) (.inr (.inr (.inl (by assumption))))) rfl rfl rfl
                        | exact hK _ _ _ b _ m (amF_3 e2 hb (by assumption) (by assumption) (.inr (.inr (.inr (by assumption))))) rfl rfl rfl
                        | exact hK _ _ _ b _ m (amF_4 e2 hb (by assumption) (by assumption) (by assumption) (by assumption) (by assumption) (by assumption) (by assumption) (by assumption)) rfl rfl rfl
                        | exact hK _ _ _ b _ m (amF_5 e2 hb (by assumption) (by assumption) (by assumption) (by assumption) (by assumption) (by assumption) (by assumption) (by assumption) (.inl (by assumption))) rfl rfl rfl
                        | exact hK _ _ _ b _ m (amF_5 e2 hb (by assumption) (by assumption) (by assumption) (by assumption) (by assumption) (by assumption) (by assumption) (by assumption) (.inr (by assumption))) rfl rfl rfl
                        | exact hK _ _ _ (amendF b x).1 0 m (by rw [amF_bust e2 hb (by assumption) (by assumption) (by assumption) (by assumption) (by assumption) (by assumption) (by assumption)]) rfl (by rw [amF_bust e2 hb (by assumption) (by assumption) (by assumption) (by assumption) (by assumption) (by assumption) (by assumption)]) rfl
                        | exact hK _ _ _ (amendF b x).1 0 m (by rw [amF_ok e2 hb (by assumption) (by assumption) (by assumption) (by assumption) (by assumption) (by assumption) (by assumption) (by assumption) (by assumption) (by assumption)]) rfl (by rw [amF_ok e2 hb (by assumption) (by assumption) (by assumption) (by assumption) (by assumption) (by assumption) (by assumption) (by assumption) (by assumption) (by assumption)]) rfl
                        | skip)
                    · first | exact Bool.noConfusion c94 | (
                        try simp only [dD] at c94
                        refine AWP.skip ?_
                        refine hK14 _ ?_; clear hK14 K14
                        refine AWP.seqk fun K17 hK17 => ?_
                        refine AWP.regionAny (.take 0 (.take 1 (.take 2 (.take 3 (.take 4 (.take 5 (.take 6 (.take 7 (.fork (.alt 8 (.take 9 (.take 10 (.take 11 (.take 12 (.take 13 (.take 14 .done)))))) (.alt 12 (.take 8 (.take 9 (.take 10 (.take 11 (.take 13 (.take 14 .done)))))) .ends))))))))))) [[], [0], [0, 1], [0, 1, 2], [], [4], [4, 5], [4, 5, 6], [0, 1, 2, 3, 4, 5, 6, 7], [0, 1, 2, 3, 4, 5, 6, 7, 8], [0, 1, 2, 3, 4, 5, 6, 7, 8, 9], [0, 1, 2, 3, 4, 5, 6, 7, 8, 9], [], [0, 1, 2, 3, 4, 5, 6, 7, 8, 9, 10, 12], [0, 1, 2, 3, 4, 5, 6, 7, 8, 9, 10, 11, 12, 13]] [7] (by kernel_rfl) (by kernel_rfl) (by decide) ?_
                        simp only [go_sem, hg] -- region 12
                        refine And.intro ?_ ?_
                        repeat' (first | (refine ACall.one (ofind_c b.orders f.ord (by omega)) (by kernel_rfl) rfl ?_; simp only [go_sem, hg]) | (refine AGet.haveM (by assumption) ?_; (try simp only [go_sem, hg])) | (refine AGet.have' (by assumption) ?_; (try simp only [go_sem, hg])) | ((first | refine AGet.nth ?_ (fun b hb => ?_) | refine AGet.nth1 ?_ (fun b hb => ?_) | with_reducible refine And.intro ?_ ?_); (focus ((first | omega | exact List.length_pos_iff.2 (by assumption) | (simp only [List.length_append, List.length_cons, List.length_nil, List.length_map, List.length_take, List.length_drop] at *; omega) | (rw [wrap64_id (by omega) (by omega)]; omega) | (simp; done)))); (try simp only [hb, go_sem, hg])))
                        all_goals (
                          refine hK17 _ ?_; clear hK17 K17
                          refine AWP.seqk fun K18 hK18 => ?_
                          refine AWP.seqk fun K19 hK19 => ?_
                          refine AWP.regionAs [0, 1, 2, 3, 4, 5, 6, 7, 8, 9, 10, 11, 12] [[], [0], [0, 1], [0, 1, 2], [0, 1, 2], [0, 1, 2, 4], [0, 1, 2, 4, 5], [0, 1, 2, 4, 5, 6], [0, 1, 2], [0, 1, 2, 8], [0, 1, 2, 3, 4, 5, 6, 7, 8, 9], [0, 1, 2, 3, 4, 5, 6, 7, 8, 9, 10], [0, 1, 2, 3, 4, 5, 6, 7, 8, 9, 10, 11]] [] (by kernel_rfl) (by kernel_rfl) (by decide) rfl ?_
                          simp only [go_sem, hg] -- region 13
                          repeat' (first | (refine ACall.one (bfair_c (findF b.orders f.ord).1 f.buy x.price) (by kernel_rfl) rfl ?_; simp only [go_sem, hg]) | (refine AGuard.splitN (fun h => ?_) (fun h => ?_) <;> simp only [h, go_sem, hg] <;> try simp only [dD] at h) | (refine AGuard.split (fun h => ?_) (fun h => ?_) <;> simp only [h, go_sem, hg] <;> try simp only [dD] at h) | (refine AGet.haveM (by assumption) ?_; (try simp only [go_sem, hg])) | (refine AGet.have' (by assumption) ?_; (try simp only [go_sem, hg])) | ((first | refine AGet.nth ?_ (fun b hb => ?_) | refine AGet.nth1 ?_ (fun b hb => ?_) | with_reducible refine And.intro ?_ ?_); (focus ((first | omega | exact List.length_pos_iff.2 (by assumption) | (simp only [List.length_append, List.length_cons, List.length_nil, List.length_map, List.length_take, List.length_drop] at *; omega) | (rw [wrap64_id (by omega) (by omega)]; omega) | (simp; done)))); (try simp only [hb, go_sem, hg])))
                          all_goals (
                            refine hK19 _ ?_; clear hK19 K19
                            refine AWP.cond rfl (fun c119 => ?_) (fun c119 => ?_)
                            · first | exact Bool.noConfusion c119 | (
                                try simp only [dD] at c119
                                refine AWP.seqk fun K20 hK20 => ?_
                                refine AWP.region ?_
                                simp only [go_sem] -- region 14
                                repeat' (first | (refine AGet.haveM (by assumption) ?_; (try simp only [go_sem])) | (refine AGet.have' (by assumption) ?_; (try simp only [go_sem])) | ((first | refine AGet.nth ?_ (fun b hb => ?_) | refine AGet.nth1 ?_ (fun b hb => ?_) | with_reducible refine And.intro ?_ ?_); (focus ((first | omega | exact List.length_pos_iff.2 (by assumption) | (simp only [List.length_append, List.length_cons, List.length_nil, List.length_map, List.length_take, List.length_drop] at *; omega) | (rw [wrap64_id (by omega) (by omega)]; omega) | (simp; done)))); (try simp only [hb, go_sem])))
                                refine hK20 _ ?_; clear hK20 K20
                                refine AWP.normW [0, 1, 2, 3, 4, 5] [Z0, some [bookV b m], some (rowV b m), some [exV x], some [exV x], some [exV x]] [b.ids.length] 6 (by decide) sg6 hup (Nat.le_refl _) own_keep own_bel3 ⟨rfl, trivial⟩ (Nat.le_refl _) ?_
                                refine AWP.ret ?_
                                try simp only [go_sem]
                                clear hK18 K18
                                first
                                | (exfalso; omega)
                                | exact hK _ _ _ b _ m (amF_6 e2) rfl rfl rfl
                                | exact hK _ _ _ b _ m (amF_6a e2 hb (by assumption)) rfl rfl rfl
                                | exact hK _ _ _ b _ m (amF_6b e2 hb (by assumption)) rfl rfl rfl
                                | exact hK _ _ _ b _ m (amF_3 e2 hb (by assumption) (by assumption) (.inl (by assumption))) rfl rfl rfl
                                | exact hK _ _ _ b _ m (amF_3 e2 hb (by assumption) (by assumption) (.inr (.inl (by assumption)))) rfl rfl rfl
                                | exact hK _ _ _ b _ m (amF_3 e2 hb (by assumption) (by assumption) (.inr (.inr (.inl (by assumption))))) rfl rfl rfl
                                | exact hK _ _ _ b _ m (amF_3 e2 hb (by assumption) (by assumption) (.inr (.inr (.inr (by assumption))))) rfl rfl rfl
                                | exact hK _ _ _ b _ m (amF_4 e2 hb (by assumption) (by assumption) (by assumption) (by assumption) (by assumption) (by assumption) (by assumption) (by assumption)) rfl rfl rfl
                                | exact hK _ _ _ b _ m (amF_5 e2 hb (by assumption) (by assumption) (by assumption) (by assumption) (by assumption) (by assumption) (by assumption) (by assumption) (.inl (by assumption))) rfl rfl rfl
                                | exact hK _ _ _ b _ m (amF_5 e2 hb (by assumption) (by assumption) (by assumption) (by assumption) (by assumption) (by assumption) (by assumption) (by assumption) (.inr (by assumption))) rfl rfl rfl
                                | exact hK _ _ _ (amendF b x).1 0 m (by rw [amF_bust e2 hb (by assumption) (by assumption) (by assumption) (by assumption) (by assumption) (by assumption) (by assumption)]) rfl (by rw [amF_bust e2 hb (by assumption) (by assumption) (by assumption) (by assumption) (by assumption) (by assumption) (by assumption)]) rfl
                                | exact hK _ _ _ (amendF b x).1 0 m (by rw [amF_ok e2 hb (by assumption) (by assumption) (by assumption) (by assumption) (by assumption) (by assumption) (by assumption) (by assumption) (by assumption) (by assumption)]) rfl (by rw [amF_ok e2 hb (by assumption) (by assumption) (by assumption) (by assumption) (by assumption) (by assumption) (by assumption) (by assumption) (by assumption) (by assumption)]) rfl
                                | skip)
                            · first | exact Bool.noConfusion c119 | (
                                try simp only [dD] at c119
                                refine AWP.skip ?_
                                refine hK18 _ ?_; clear hK18 K18
                                refine AWP.seqk fun K21 hK21 => ?_
                                refine AWP.region ?_
                                simp only [go_sem] -- region 15
                                repeat' (first | (refine AGet.haveM (by assumption) ?_; (try simp only [go_sem])) | (refine AGet.have' (by assumption) ?_; (try simp only [go_sem])) | ((first | refine AGet.nth ?_ (fun b hb => ?_) | refine AGet.nth1 ?_ (fun b hb => ?_) | with_reducible refine And.intro ?_ ?_); (focus ((first | omega | exact List.length_pos_iff.2 (by assumption) | (simp only [List.length_append, List.length_cons, List.length_nil, List.length_map, List.length_take, List.length_drop] at *; omega) | (rw [wrap64_id (by omega) (by omega)]; omega) | (simp; done)))); (try simp only [hb, go_sem])))
                                refine hK21 _ ?_; clear hK21 K21
                                refine AWP.seqk fun K22 hK22 => ?_
                                rw [dn_set (o' := ⟨f.id, f.ord, f.acc, f.sym, f.buy, x.qty, f.price, f.time, f.live⟩) hb (spare 9 m)]
                                have hb1 : (b.fills.set n ⟨f.id, f.ord, f.acc, f.sym, f.buy, x.qty, f.price, f.time, f.live⟩)[n]? = some ⟨f.id, f.ord, f.acc, f.sym, f.buy, x.qty, f.price, f.time, f.live⟩ := List.getElem?_set_self hn
                                have hg2 := dn_get hb1 (spare 9 m)
                                refine AWP.region ?_
                                simp only [go_sem, hg2] -- region 16
                                repeat' (first | (refine AGet.haveM (by assumption) ?_; (try simp only [go_sem, hg2])) | (refine AGet.have' (by assumption) ?_; (try simp only [go_sem, hg2])) | ((first | refine AGet.nth ?_ (fun b hb => ?_) | refine AGet.nth1 ?_ (fun b hb => ?_) | with_reducible refine And.intro ?_ ?_); (focus ((first | omega | exact List.length_pos_iff.2 (by assumption) | (simp only [List.length_append, List.length_cons, List.length_nil, List.length_map, List.length_take, List.length_drop] at *; omega) | (rw [wrap64_id (by omega) (by omega)]; omega) | (simp; done)))); (try simp only [hb, go_sem, hg2])))
                                refine hK22 _ ?_; clear hK22 K22
                                refine AWP.seqk fun K23 hK23 => ?_
                                rw [dn_set (o' := ⟨f.id, f.ord, f.acc, f.sym, f.buy, x.qty, x.price, f.time, f.live⟩) hb1 (spare 9 m), List.set_set]
                                refine AWP.region ?_
                                simp only [go_sem] -- region 17
                                repeat' (first | (refine AGet.haveM (by assumption) ?_; (try simp only [go_sem])) | (refine AGet.have' (by assumption) ?_; (try simp only [go_sem])) | ((first | refine AGet.nth ?_ (fun b hb => ?_) | refine AGet.nth1 ?_ (fun b hb => ?_) | with_reducible refine And.intro ?_ ?_); (focus ((first | omega | exact List.length_pos_iff.2 (by assumption) | (simp only [List.length_append, List.length_cons, List.length_nil, List.length_map, List.length_take, List.length_drop] at *; omega) | (rw [wrap64_id (by omega) (by omega)]; omega) | (simp; done)))); (try simp only [hb, go_sem])))
                                refine hK23 _ ?_; clear hK23 K23
                                refine AWP.normW [0, 1, 2, 3, 4, 5] [Z0, some [bookV (amendF b x).1 m], some (rowV (amendF b x).1 m), some [exV x], some [exV x], some [exV x]] [b.ids.length] 6 (by decide) sg6 hup (Nat.le_refl _) (by rw [amF_ok e2 hb (by assumption) (by assumption) (by assumption) (by assumption) (by assumption) (by assumption) (by assumption) (by assumption) (by assumption) (by assumption)]; exact (own_keepG rfl rfl rfl rfl).trans (by simp [rowV])) own_bel3 ⟨rfl, trivial⟩ (Nat.le_refl _) ?_
                                refine AWP.ret ?_
                                try simp only [go_sem]
                                first
                                | (exfalso; omega)
                                | exact hK _ _ _ b _ m (amF_6 e2) rfl rfl rfl
                                | exact hK _ _ _ b _ m (amF_6a e2 hb (by assumption)) rfl rfl rfl
                                | exact hK _ _ _ b _ m (amF_6b e2 hb (by assumption)) rfl rfl rfl
                                | exact hK _ _ _ b _ m (amF_3 e2 hb (by assumption) (by assumption) (.inl (by assumption))) rfl rfl rfl
                                | exact hK _ _ _ b _ m (amF_3 e2 hb (by assumption) (by assumption) (.inr (.inl (by assumption)))) rfl rfl rfl
                                | exact hK _ _ _ b _ m (amF_3 e2 hb (by assumption) (by assumption) (.inr (.inr (.inl (by assumption))))) rfl rfl rfl
                                | exact hK _ _ _ b _ m (amF_3 e2 hb (by assumption) (by assumption) (.inr (.inr (.inr (by assumption))))) rfl rfl rfl
                                | exact hK _ _ _ b _ m (amF_4 e2 hb (by assumption) (by assumption) (by assumption) (by assumption) (by assumption) (by assumption) (by assumption) (by assumption)) rfl rfl rfl
                                | exact hK _ _ _ b _ m (amF_5 e2 hb (by assumption) (by assumption) (by assumption) (by assumption) (by assumption) (by assumption) (by assumption) (by assumption) (.inl (by assumption))) rfl rfl rfl
                                | exact hK _ _ _ b _ m (amF_5 e2 hb (by assumption) (by assumption) (by assumption) (by assumption) (by assumption) (by assumption) (by assumption) (by assumption) (.inr (by assumption))) rfl rfl rfl
                                | exact hK _ _ _ (amendF b x).1 0 m (by rw [amF_bust e2 hb (by assumption) (by assumption) (by assumption) (by assumption) (by assumption) (by assumption) (by assumption)]) rfl (by rw [amF_bust e2 hb (by assumption) (by assumption) (by assumption) (by assumption) (by assumption) (by assumption) (by assumption)]) rfl
                                | exact hK _ _ _ (amendF b x).1 0 m (by rw [amF_ok e2 hb (by assumption) (by assumption) (by assumption) (by assumption) (by assumption) (by assumption) (by assumption) (by assumption) (by assumption) (by assumption)]) rfl (by rw [amF_ok e2 hb (by assumption) (by assumption) (by assumption) (by assumption) (by assumption) (by assumption) (by assumption) (by assumption) (by assumption) (by assumption)]) rfl
                                | skip))))))))))


end Go.Proofs.YtajeeghgiilhiaaGreat
end
