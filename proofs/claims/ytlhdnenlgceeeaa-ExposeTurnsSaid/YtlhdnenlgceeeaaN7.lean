import Derived.Test.YtlhdnenlgceeeaaN6
set_option linter.unusedVariables false
set_option linter.unusedSimpArgs false
namespace Go.Proofs.Ytlhdnenlgceeeaa
open Go Go.Abs Go.RowKit Go.Bk

theorem fillF_ok {b : Bk} {x : Ex} (h : (fillO b.orders x.ord x.qty x.price).2 = 0) : fillF b x = (⟨(fillO b.orders x.ord x.qty x.price).1, b.fills ++ [doneOf x], b.ids, b.clock, b.bad⟩, 0) := by unfold fillF; simp [h]
theorem fillF_1 {b : Bk} {x : Ex} (h : (fillO b.orders x.ord x.qty x.price).2 = 1) : fillF b x = (b, 4) := by unfold fillF; simp [h]
theorem fillF_9 {b : Bk} {x : Ex} (h : (fillO b.orders x.ord x.qty x.price).2 = 9) : fillF b x = (b, 5) := by unfold fillF; simp [h]
theorem fillF_2 {b : Bk} {x : Ex} (h0 : ¬ (fillO b.orders x.ord x.qty x.price).2 = 0) (h1 : ¬ (fillO b.orders x.ord x.qty x.price).2 = 1) (h : ¬ (fillO b.orders x.ord x.qty x.price).2 = 9) : fillF b x = (b, 2) := by unfold fillF; simp [h0, h1, h]
abbrev Z0 : Option (List AV) := some [.agg [.nilS, .nilS, .nilS, i64 0, i64 0]]
theorem sg6 : ∀ i, i ≠ 2 → i < 6 → selAt [0, 1, 2, 3, 4, 5] i = some i := by
  intro i h1 h2
  have : i = 0 ∨ i = 1 ∨ i = 3 ∨ i = 4 ∨ i = 5 := by omega
  rcases this with rfl | rfl | rfl | rfl | rfl <;> rfl
theorem sg6b : ∀ i, i ≠ 2 → i < 6 → selAt [0, 1, 7, 3, 4, 5] i = some i := by
  intro i h1 h2
  have : i = 0 ∨ i = 1 ∨ i = 3 ∨ i = 4 ∨ i = 5 := by omega
  rcases this with rfl | rfl | rfl | rfl | rfl <;> rfl
theorem dn_take {l : List Dn} (sp : List AV) : (l.map dnV ++ sp).take l.length = l.map dnV := List.take_left' (by simp)
theorem row_app (σ : Nat → Option Nat) (l : List Dn) (d : Dn) (m : Nat) : (l.map dnV ++ [dnV d] ++ spare 9 m).map (AV.ren σ) = (l ++ [d]).map dnV ++ spare 9 m := by
  rw [show l.map dnV ++ [dnV d] = (l ++ [d]).map dnV by simp, dn_ren]

theorem own_keep {b : Bk} {m : Nat} {x : Ex} {rest : List (Option (List AV))} : selOwn (Z0 :: some [bookV b m] :: some (rowV b m) :: some [exV x] :: some [exV x] :: some [exV x] :: rest) [0, 1, 2, 3, 4, 5] = [Z0, some [bookV b m], some (rowV b m), some [exV x], some [exV x], some [exV x]] := by
  show [Z0, some [bookV b m], some ((rowV b m).map _), some [exV x], some [exV x], some [exV x]] = _
  rw [dn_ren]
theorem own_fill {os : List Od} {l : List Dn} {d : Dn} {k c m : Nat} {ids y1 y2 : AV} {x : Ex} {bx : Option (List AV)} (hi : ids.ren1 (selAt [0, 1, 7, 3, 4, 5]) = ids) (h1 : y1.ren1 (selAt [0, 1, 7, 3, 4, 5]) = y1) (h2 : y2.ren1 (selAt [0, 1, 7, 3, 4, 5]) = y2) :
    selOwn [Z0, some [.agg [odsV os, .mu 7 9 0 k c, ids, y1, y2]], none, some [exV x], some [exV x], some [exV x], bx, some (l.map dnV ++ [dnV d] ++ spare 9 m)] [0, 1, 7, 3, 4, 5] =
      [Z0, some [.agg [odsV os, .mu 2 9 0 k c, ids, y1, y2]], some ((l ++ [d]).map dnV ++ spare 9 m), some [exV x], some [exV x], some [exV x]] := by
  show [Z0, some [.agg [odsV os, .mu 2 9 0 k c, ids.ren1 _, y1.ren1 _, y2.ren1 _]], some ((l.map dnV ++ [dnV d] ++ spare 9 m).map _), some [exV x], some [exV x], some [exV x]] = _
  rw [row_app, hi, h1, h2]
theorem own_bel (no : Nat) {b : Bk} {m : Nat} {l : List (Option (List AV))} (hno : 3 ≤ no) (hl : belO no 1 l = true) : belO no 1 (Z0 :: some [bookV b m] :: some (rowV b m) :: l) = true := by
  have h2 : decide (2 < no) = true := decide_eq_true (by omega)
  have hr : ((rowV b m).all fun e => e.leaves.all (AV.bel no 1)) = true := row_bel no 1 b.fills m
  unfold belO at hl ⊢
  rw [List.all_cons, List.all_cons, List.all_cons]
  simp only [Bool.and_eq_true]
  refine ⟨rfl, ?_, hr, hl⟩
  show ((true && (decide (2 < no) && (true && (true && (true && true))))) && true) = true
  rw [h2]; rfl
theorem own_bel3 {b : Bk} {m : Nat} {x : Ex} : belO 6 1 [Z0, some [bookV b m], some (rowV b m), some [exV x], some [exV x], some [exV x]] = true := own_bel 6 (by decide) rfl
theorem own_bel2 {b : Bk} {m : Nat} {x : Ex} : belO 5 1 [Z0, some [bookV b m], some (rowV b m), some [exV x], some [exV x]] = true := own_bel 5 (by decide) rfl
theorem own_bel1 {b : Bk} {m : Nat} {x : Ex} : belO 4 1 [Z0, some [bookV b m], some (rowV b m), some [exV x]] = true := own_bel 4 (by decide) rfl

set_option maxRecDepth 100000 in
set_option maxHeartbeats 8000000 in
theorem fill_call {ops : Array Oper} {l : List Oper} {Q : Exit → St → Prop} {tmps up : List AV} {gl : Nat → Option (List AV)} {b : Bk} {x : Ex} {m : Nat} {dst : Option Tmp} {x0 x1 : Operand} {tys : Array TypeId} {ty : TypeId} {pos : String} {after : Array Edge}
    (hx0 : St.ev ⟨tmps, [Z0, some [bookV b m], some (rowV b m), some [exV x], some [exV x], some [exV x]], [b.ids.length], gl, none, up⟩ x0 = .ptr 1 0 0) (hx1 : St.ev ⟨tmps, [Z0, some [bookV b m], some (rowV b m), some [exV x], some [exV x], some [exV x]], [b.ids.length], gl, none, up⟩ x1 = exV x)
    (hq : x.qty ≤ 4611686018427387904) (ho : b.orders.length ≤ 1000000) (hf : b.fills.length ≤ 1000000) (hup : (tmps ++ up).all (kp 6) = true)
    (h : ∀ (b' : Bk) (e : Int) (m' : Nat), fillF b x = (b', e) → AWPL E ops l Q (St.put ⟨tmps, [Z0, some [bookV b' m'], some (rowV b' m'), some [exV x], some [exV x], some [exV x]], [b'.ids.length], gl, none, up⟩ dst (i64 e))) :
    AWPL E ops (⟨dst, .call ⟨.value (.func 101), #[x0, x1], tys⟩, ty, pos, after, none⟩ :: l) Q ⟨tmps, [Z0, some [bookV b m], some (rowV b m), some [exV x], some [exV x], some [exV x]], [b.ids.length], gl, none, up⟩ := by
  refine AWPL.call (caps := []) (rs := [.tmp 4]) Try.func101 rfl Try.ntmps101 rfl (by kernel_rfl) rfl rfl ?_
  show AWP E _ _ ⟨([St.ev ⟨tmps, [Z0, some [bookV b m], some (rowV b m), some [exV x], some [exV x], some [exV x]], [b.ids.length], gl, none, up⟩ x0, St.ev ⟨tmps, [Z0, some [bookV b m], some (rowV b m), some [exV x], some [exV x], some [exV x]], [b.ids.length], gl, none, up⟩ x1] ++ []) ++ List.replicate (58 - 2) (.v undef), [Z0, some [bookV b m], some (rowV b m), some [exV x], some [exV x], some [exV x]], [b.ids.length], gl, none, tmps ++ up⟩
  rw [hx0, hx1]
  have hK : ∀ (tm : List AV) (ow : List (Option (List AV))) (tk : List Nat) (b' : Bk) (e : Int) (m' : Nat), fillF b x = (b', e) → ow = [Z0, some [bookV b' m'], some (rowV b' m'), some [exV x], some [exV x], some [exV x]] → tk = [b'.ids.length] → tm[4]? = some (i64 e) → AInPost E.P [.tmp 4] ⟨tmps, [Z0, some [bookV b m], some (rowV b m), some [exV x], some [exV x], some [exV x]], [b.ids.length], gl, none, up⟩ (fun s z => AWPL E ops l Q (s.put dst z)) .ret ⟨tm, ow, tk, gl, none, tmps ++ up⟩ := by
    intro tm ow tk b' e m' hb' how htk h4
    subst how; subst htk
    refine ⟨rfl, ?_⟩
    have : St.ev ⟨tm, [Z0, some [bookV b' m'], some (rowV b' m'), some [exV x], some [exV x], some [exV x]], [b'.ids.length], gl, none, tmps ++ up⟩ (.tmp 4) = i64 e := by simp [St.ev, List.getD_eq_getElem?_getD, h4]
    show AWPL E ops l Q (St.put _ dst (tupOf [St.ev _ (.tmp 4)]))
    rw [this]
    exact h b' e m' hb'
  generalize AInPost E.P [.tmp 4] ⟨tmps, [Z0, some [bookV b m], some (rowV b m), some [exV x], some [exV x], some [exV x]], [b.ids.length], gl, none, up⟩ (fun s z => AWPL E ops l Q (s.put dst z)) = Q' at hK ⊢
  generalize tmps ++ up = up' at hup hK ⊢
  clear h hx0 hx1
  refine AWP.seqk fun K1 hK1 => ?_
  refine AWP.region ?_
  simp only [go_sem] -- region 0
  repeat' (first | (refine AGet.haveM (by assumption) ?_; (try simp only [go_sem])) | (refine AGet.have' (by assumption) ?_; (try simp only [go_sem])) | ((first | refine AGet.nth ?_ (fun b hb => ?_) | refine AGet.nth1 ?_ (fun b hb => ?_) | with_reducible refine And.intro ?_ ?_); (focus ((first | omega | exact List.length_pos_iff.2 (by assumption) | (simp only [List.length_append, List.length_cons, List.length_nil, List.length_map, List.length_take, List.length_drop] at *; omega) | (rw [wrap64_id (by omega) (by omega)]; omega) | (simp; done) | (simp [spare_len]; done)))); (try simp only [hb, go_sem])))
  refine hK1 _ ?_; clear hK1 K1
  refine AWP.seqk fun K2 hK2 => ?_
  refine AWP.regionAs [0, 1, 2, 3, 4, 5, 6, 7, 8, 9, 10, 11, 12, 13, 14, 15] [[], [0], [0, 1], [0, 1, 2], [], [4], [], [6], [], [8], [0, 1, 2, 3, 4, 5, 6, 7, 8, 9], [0, 1, 2, 3, 4, 5, 6, 7, 8, 9, 10], [0, 1, 2, 3, 4, 5, 6, 7, 8, 9, 10, 11], [0, 1, 2, 3, 4, 5, 6, 7, 8, 9, 10, 11], [0, 1, 2, 3, 4, 5, 6, 7, 8, 9, 10, 11, 12], [0, 1, 2, 3, 4, 5, 6, 7, 8, 9, 10, 11, 12, 13, 14]] [] (by kernel_rfl) (by kernel_rfl) (by decide) rfl ?_
  simp only [go_sem] -- region 1
  repeat' (first | (refine ACall.of (ofill_c b.orders x.ord x.qty x.price hq (by omega)) (by kernel_rfl) rfl ?_; rintro r t ⟨⟨y, rfl, hy⟩, rfl⟩ <;> simp only [go_sem]) | (refine AGet.haveM (by assumption) ?_; (try simp only [go_sem])) | (refine AGet.have' (by assumption) ?_; (try simp only [go_sem])) | ((first | refine AGet.nth ?_ (fun b hb => ?_) | refine AGet.nth1 ?_ (fun b hb => ?_) | with_reducible refine And.intro ?_ ?_); (focus ((first | omega | exact List.length_pos_iff.2 (by assumption) | (simp only [List.length_append, List.length_cons, List.length_nil, List.length_map, List.length_take, List.length_drop] at *; omega) | (rw [wrap64_id (by omega) (by omega)]; omega) | (simp; done) | (simp [spare_len]; done)))); (try simp only [hb, go_sem])))
  refine hK2 _ ?_; clear hK2 K2
  refine AWP.seqk fun K3 hK3 => ?_
  refine AWP.seqk fun K4 hK4 => ?_
  refine AWP.region ?_
  simp only [go_sem] -- region 2
  repeat' (first | (refine AGet.haveM (by assumption) ?_; (try simp only [go_sem])) | (refine AGet.have' (by assumption) ?_; (try simp only [go_sem])) | ((first | refine AGet.nth ?_ (fun b hb => ?_) | refine AGet.nth1 ?_ (fun b hb => ?_) | with_reducible refine And.intro ?_ ?_); (focus ((first | omega | exact List.length_pos_iff.2 (by assumption) | (simp only [List.length_append, List.length_cons, List.length_nil, List.length_map, List.length_take, List.length_drop] at *; omega) | (rw [wrap64_id (by omega) (by omega)]; omega) | (simp; done) | (simp [spare_len]; done)))); (try simp only [hb, go_sem])))
  refine hK4 _ ?_; clear hK4 K4
  refine AWP.block ?_ -- 0
  refine AWP.seqk fun K5 hK5 => ?_
  refine AWP.region ?_
  simp only [go_sem] -- region 4
  repeat' (first | (refine AGet.haveM (by assumption) ?_; (try simp only [go_sem])) | (refine AGet.have' (by assumption) ?_; (try simp only [go_sem])) | ((first | refine AGet.nth ?_ (fun b hb => ?_) | refine AGet.nth1 ?_ (fun b hb => ?_) | with_reducible refine And.intro ?_ ?_); (focus ((first | omega | exact List.length_pos_iff.2 (by assumption) | (simp only [List.length_append, List.length_cons, List.length_nil, List.length_map, List.length_take, List.length_drop] at *; omega) | (rw [wrap64_id (by omega) (by omega)]; omega) | (simp; done) | (simp [spare_len]; done)))); (try simp only [hb, go_sem])))
  refine hK5 _ ?_; clear hK5 K5
  refine AWP.cond rfl (fun c22 => ?_) (fun c22 => ?_)
  · first | exact Bool.noConfusion c22 | (
      try simp only [dD] at c22
      refine AWP.skip ?_
      refine hK3 _ ?_; clear hK3 K3
      refine AWP.seqk fun K6 hK6 => ?_
      have hx9 := hy (by assumption)
      subst hx9
      refine AWP.region ?_
      simp only [go_sem] -- region 9
      repeat' (first | (refine AGet.haveM (by assumption) ?_; (try simp only [go_sem])) | (refine AGet.have' (by assumption) ?_; (try simp only [go_sem])) | ((first | refine AGet.nth ?_ (fun b hb => ?_) | refine AGet.nth1 ?_ (fun b hb => ?_) | with_reducible refine And.intro ?_ ?_); (focus ((first | omega | exact List.length_pos_iff.2 (by assumption) | (simp only [List.length_append, List.length_cons, List.length_nil, List.length_map, List.length_take, List.length_drop] at *; omega) | (rw [wrap64_id (by omega) (by omega)]; omega) | (simp; done) | (simp [spare_len]; done)))); (try simp only [hb, go_sem])))
      refine hK6 _ ?_; clear hK6 K6
      refine AWP.seqk fun K7 hK7 => ?_
      refine AWP.regionAs [0, 1, 2, 3, 4, 5, 6, 7, 8, 9, 10, 11, 12, 13, 14, 15, 16, 17, 18, 19, 20, 21, 22, 23, 24, 25, 26] [[], [], [1], [1, 2], [1, 2, 3], [], [5], [], [7], [], [9], [], [11], [], [13], [], [15], [], [17], [], [19], [5, 6, 7, 8, 9, 10, 11, 12, 13, 14, 15, 16, 17, 18, 19, 20], [5, 6, 7, 8, 9, 10, 11, 12, 13, 14, 15, 16, 17, 18, 19, 20, 21], [1, 2, 3, 4, 5, 6, 7, 8, 9, 10, 11, 12, 13, 14, 15, 16, 17, 18, 19, 20, 21, 22], [0, 1, 2, 3, 4, 5, 6, 7, 8, 9, 10, 11, 12, 13, 14, 15, 16, 17, 18, 19, 20, 21, 22, 23], [0, 1, 2, 3, 4, 5, 6, 7, 8, 9, 10, 11, 12, 13, 14, 15, 16, 17, 18, 19, 20, 21, 22, 23, 24], [0, 1, 2, 3, 4, 5, 6, 7, 8, 9, 10, 11, 12, 13, 14, 15, 16, 17, 18, 19, 20, 21, 22, 23, 24, 25]] [] (by kernel_rfl) (by kernel_rfl) (by decide) rfl ?_
      simp only [go_sem] -- region 10
      repeat' (first | (refine AGet.haveM (by assumption) ?_; (try simp only [go_sem])) | (refine AGet.have' (by assumption) ?_; (try simp only [go_sem])) | ((first | refine AGet.nth ?_ (fun b hb => ?_) | refine AGet.nth1 ?_ (fun b hb => ?_) | with_reducible refine And.intro ?_ ?_); (focus ((first | omega | exact List.length_pos_iff.2 (by assumption) | (simp only [List.length_append, List.length_cons, List.length_nil, List.length_map, List.length_take, List.length_drop] at *; omega) | (rw [wrap64_id (by omega) (by omega)]; omega) | (simp; done) | (simp [spare_len]; done)))); (try simp only [hb, go_sem])))
      intro m2
      simp only [go_sem, dn_take]
      refine hK7 _ ?_; clear hK7 K7
      refine AWP.seqk fun K8 hK8 => ?_
      refine AWP.region ?_
      simp only [go_sem] -- region 11
      repeat' (first | (refine AGet.haveM (by assumption) ?_; (try simp only [go_sem])) | (refine AGet.have' (by assumption) ?_; (try simp only [go_sem])) | ((first | refine AGet.nth ?_ (fun b hb => ?_) | refine AGet.nth1 ?_ (fun b hb => ?_) | with_reducible refine And.intro ?_ ?_); (focus ((first | omega | exact List.length_pos_iff.2 (by assumption) | (simp only [List.length_append, List.length_cons, List.length_nil, List.length_map, List.length_take, List.length_drop] at *; omega) | (rw [wrap64_id (by omega) (by omega)]; omega) | (simp; done) | (simp [spare_len]; done)))); (try simp only [hb, go_sem])))
      refine hK8 _ ?_; clear hK8 K8
      refine AWP.normW [0, 1, 7, 3, 4, 5] [Z0, some [bookV (fillF b x).1 m2], some (rowV (fillF b x).1 m2), some [exV x], some [exV x], some [exV x]] [b.ids.length] 6 (by decide) sg6b hup (Nat.le_refl _) (by rw [fillF_ok (by assumption)]; exact (own_fill (d := doneOf x) rfl rfl rfl).trans (by simp [rowV])) own_bel3 ⟨rfl, trivial⟩ (Nat.le_refl _) ?_
      refine AWP.ret ?_
      try simp only [go_sem]
      first
      | exact hK _ _ _ b _ m (fillF_1 (by assumption)) rfl rfl rfl
      | exact hK _ _ _ b _ m (fillF_9 (by assumption)) rfl rfl rfl
      | exact hK _ _ _ b _ m (fillF_2 (by assumption) (by assumption) (by assumption)) rfl rfl rfl
      | exact hK _ _ _ (fillF b x).1 0 m2 (by rw [fillF_ok (by assumption)]) rfl (by rw [fillF_ok (by assumption)]) rfl
      | skip)
  · first | exact Bool.noConfusion c22 | (
      try simp only [dD] at c22
      refine AWP.seqk fun K9 hK9 => ?_
      refine AWP.region ?_
      simp only [go_sem] -- region 5
      repeat' (first | (refine AGet.haveM (by assumption) ?_; (try simp only [go_sem])) | (refine AGet.have' (by assumption) ?_; (try simp only [go_sem])) | ((first | refine AGet.nth ?_ (fun b hb => ?_) | refine AGet.nth1 ?_ (fun b hb => ?_) | with_reducible refine And.intro ?_ ?_); (focus ((first | omega | exact List.length_pos_iff.2 (by assumption) | (simp only [List.length_append, List.length_cons, List.length_nil, List.length_map, List.length_take, List.length_drop] at *; omega) | (rw [wrap64_id (by omega) (by omega)]; omega) | (simp; done) | (simp [spare_len]; done)))); (try simp only [hb, go_sem])))
      refine hK9 _ ?_; clear hK9 K9
      refine AWP.cond rfl (fun c24 => ?_) (fun c24 => ?_)
      · first | exact Bool.noConfusion c24 | (
          try simp only [dD] at c24
          refine AWP.seqk fun K10 hK10 => ?_
          refine AWP.region ?_
          simp only [go_sem] -- region 6
          repeat' (first | (refine AGet.haveM (by assumption) ?_; (try simp only [go_sem])) | (refine AGet.have' (by assumption) ?_; (try simp only [go_sem])) | ((first | refine AGet.nth ?_ (fun b hb => ?_) | refine AGet.nth1 ?_ (fun b hb => ?_) | with_reducible refine And.intro ?_ ?_); (focus ((first | omega | exact List.length_pos_iff.2 (by assumption) | (simp only [List.length_append, List.length_cons, List.length_nil, List.length_map, List.length_take, List.length_drop] at *; omega) | (rw [wrap64_id (by omega) (by omega)]; omega) | (simp; done) | (simp [spare_len]; done)))); (try simp only [hb, go_sem])))
          refine hK10 _ ?_; clear hK10 K10
          refine AWP.normW [0, 1, 2, 3, 4, 5] [Z0, some [bookV b m], some (rowV b m), some [exV x], some [exV x], some [exV x]] [b.ids.length] 6 (by decide) sg6 hup (Nat.le_refl _) own_keep own_bel3 ⟨rfl, trivial⟩ (Nat.le_refl _) ?_
          refine AWP.ret ?_
          try simp only [go_sem]
          clear hK3 K3
          first
          | exact hK _ _ _ b _ m (fillF_1 (by assumption)) rfl rfl rfl
          | exact hK _ _ _ b _ m (fillF_9 (by assumption)) rfl rfl rfl
          | exact hK _ _ _ b _ m (fillF_2 (by assumption) (by assumption) (by assumption)) rfl rfl rfl
          | exact hK _ _ _ (fillF b x).1 0 m2 (by rw [fillF_ok (by assumption)]) rfl (by rw [fillF_ok (by assumption)]) rfl
          | skip)
      · first | exact Bool.noConfusion c24 | (
          try simp only [dD] at c24
          refine AWP.seqk fun K11 hK11 => ?_
          refine AWP.region ?_
          simp only [go_sem] -- region 7
          repeat' (first | (refine AGet.haveM (by assumption) ?_; (try simp only [go_sem])) | (refine AGet.have' (by assumption) ?_; (try simp only [go_sem])) | ((first | refine AGet.nth ?_ (fun b hb => ?_) | refine AGet.nth1 ?_ (fun b hb => ?_) | with_reducible refine And.intro ?_ ?_); (focus ((first | omega | exact List.length_pos_iff.2 (by assumption) | (simp only [List.length_append, List.length_cons, List.length_nil, List.length_map, List.length_take, List.length_drop] at *; omega) | (rw [wrap64_id (by omega) (by omega)]; omega) | (simp; done) | (simp [spare_len]; done)))); (try simp only [hb, go_sem])))
          refine hK11 _ ?_; clear hK11 K11
          refine AWP.cond rfl (fun c26 => ?_) (fun c26 => ?_)
          · first | exact Bool.noConfusion c26 | (
              try simp only [dD] at c26
              refine AWP.seqk fun K12 hK12 => ?_
              refine AWP.region ?_
              simp only [go_sem] -- region 8
              repeat' (first | (refine AGet.haveM (by assumption) ?_; (try simp only [go_sem])) | (refine AGet.have' (by assumption) ?_; (try simp only [go_sem])) | ((first | refine AGet.nth ?_ (fun b hb => ?_) | refine AGet.nth1 ?_ (fun b hb => ?_) | with_reducible refine And.intro ?_ ?_); (focus ((first | omega | exact List.length_pos_iff.2 (by assumption) | (simp only [List.length_append, List.length_cons, List.length_nil, List.length_map, List.length_take, List.length_drop] at *; omega) | (rw [wrap64_id (by omega) (by omega)]; omega) | (simp; done) | (simp [spare_len]; done)))); (try simp only [hb, go_sem])))
              refine hK12 _ ?_; clear hK12 K12
              refine AWP.normW [0, 1, 2, 3, 4, 5] [Z0, some [bookV b m], some (rowV b m), some [exV x], some [exV x], some [exV x]] [b.ids.length] 6 (by decide) sg6 hup (Nat.le_refl _) own_keep own_bel3 ⟨rfl, trivial⟩ (Nat.le_refl _) ?_
              refine AWP.ret ?_
              try simp only [go_sem]
              clear hK3 K3
              first
              | exact hK _ _ _ b _ m (fillF_1 (by assumption)) rfl rfl rfl
              | exact hK _ _ _ b _ m (fillF_9 (by assumption)) rfl rfl rfl
              | exact hK _ _ _ b _ m (fillF_2 (by assumption) (by assumption) (by assumption)) rfl rfl rfl
              | exact hK _ _ _ (fillF b x).1 0 m2 (by rw [fillF_ok (by assumption)]) rfl (by rw [fillF_ok (by assumption)]) rfl
              | skip)
          · first | exact Bool.noConfusion c26 | (
              try simp only [dD] at c26
              refine AWP.seqk fun K13 hK13 => ?_
              refine AWP.region ?_
              simp only [go_sem] -- region 3
              repeat' (first | (refine AGet.haveM (by assumption) ?_; (try simp only [go_sem])) | (refine AGet.have' (by assumption) ?_; (try simp only [go_sem])) | ((first | refine AGet.nth ?_ (fun b hb => ?_) | refine AGet.nth1 ?_ (fun b hb => ?_) | with_reducible refine And.intro ?_ ?_); (focus ((first | omega | exact List.length_pos_iff.2 (by assumption) | (simp only [List.length_append, List.length_cons, List.length_nil, List.length_map, List.length_take, List.length_drop] at *; omega) | (rw [wrap64_id (by omega) (by omega)]; omega) | (simp; done) | (simp [spare_len]; done)))); (try simp only [hb, go_sem])))
              refine hK13 _ ?_; clear hK13 K13
              refine AWP.normW [0, 1, 2, 3, 4, 5] [Z0, some [bookV b m], some (rowV b m), some [exV x], some [exV x], some [exV x]] [b.ids.length] 6 (by decide) sg6 hup (Nat.le_refl _) own_keep own_bel3 ⟨rfl, trivial⟩ (Nat.le_refl _) ?_
              refine AWP.ret ?_
              try simp only [go_sem]
              clear hK3 K3
              first
              | exact hK _ _ _ b _ m (fillF_1 (by assumption)) rfl rfl rfl
              | exact hK _ _ _ b _ m (fillF_9 (by assumption)) rfl rfl rfl
              | exact hK _ _ _ b _ m (fillF_2 (by assumption) (by assumption) (by assumption)) rfl rfl rfl
              | exact hK _ _ _ (fillF b x).1 0 m2 (by rw [fillF_ok (by assumption)]) rfl (by rw [fillF_ok (by assumption)]) rfl
              | skip)))


end Go.Proofs.Ytlhdnenlgceeeaa
