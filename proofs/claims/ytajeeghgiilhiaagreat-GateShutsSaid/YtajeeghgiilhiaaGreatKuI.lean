/- Texts of one chain, put together (N9). -/
import Derived.Test.YtajeeghgiilhiaaGreatKuH
set_option linter.unusedVariables false
set_option linter.unusedSimpArgs false
section
namespace Go.Proofs.YtajeeghgiilhiaaGreat
open Go Go.Abs Go.RowKit Go.Bk
theorem exec_qty {x : Ex} (h : execB x = true) : x.qty ≤ 4611686018427387904 ∧ 0 ≤ x.time ∧ x.time ≤ 4611686018427387904 := by
 simp only [execB, smallB, whenB, Bool.and_eq_true, decide_eq_true_eq] at h
 omega
theorem ap_1 {b : Bk} {x : Ex} (h : x.time < b.clock) : applyF b x = (b, 1) := by unfold applyF; rw [if_pos h]
section
variable {b : Bk} {x : Ex} (h0 : ¬ x.time < b.clock)
include h0
theorem ap_new_e (hk : x.kind = 1) (h : ¬ (newO b.orders (orderOf x)).2 = 0) : applyF b x = (b, 2) := by unfold applyF; rw [if_neg h0, if_pos hk]; simp only [if_neg h]
theorem ap_new_ok (hk : x.kind = 1) (h : (newO b.orders (orderOf x)).2 = 0) : applyF b x = (⟨(newO b.orders (orderOf x)).1, b.fills, b.ids, b.clock, b.bad⟩, 0) := by unfold applyF; rw [if_neg h0, if_pos hk]; simp only [if_pos h]
variable (hk1 : ¬ x.kind = 1)
include hk1
theorem ap_amend (hk : x.kind = 7 ∨ x.kind = 8) : applyF b x = amendF b x := by unfold applyF; rw [if_neg h0, if_neg hk1, if_pos hk]
variable (hk7 : ¬ x.kind = 7) (hk8 : ¬ x.kind = 8)
include hk7 hk8
variable {id : Bs} (hid : (if x.kind = 4 then x.ref else x.ord) = id)
include hid
theorem ap_2 (h : (findF b.orders id).2 = false ∨ (findF b.orders id).1.opn = false) : applyF b x = (b, 2) := by
 unfold applyF; rw [if_neg h0, if_neg hk1, if_neg (by simp [hk7, hk8])]; simp only [hid]; rw [if_pos h]
variable (g1 : (findF b.orders id).2 = true) (g2 : (findF b.orders id).1.opn = true)
include g1 g2
theorem ap_3 (h : (findF b.orders id).1.acc ≠ x.acc ∨ (findF b.orders id).1.sym ≠ x.sym ∨ (findF b.orders id).1.buy ≠ x.buy) : applyF b x = (b, 3) := by
 unfold applyF; rw [if_neg h0, if_neg hk1, if_neg (by simp [hk7, hk8])]; simp only [hid]; rw [if_neg (by simp [g1, g2]), if_pos h]
variable (g3 : (findF b.orders id).1.acc = x.acc) (g4 : (findF b.orders id).1.sym = x.sym) (g5 : (findF b.orders id).1.buy = x.buy)
include g3 g4 g5
theorem ap_fill (hk : x.kind = 2) : applyF b x = fillF b x := by
 unfold applyF; rw [if_neg h0, if_neg hk1, if_neg (by simp [hk7, hk8])]; simp only [hid]; rw [if_neg (by simp [g1, g2]), if_neg (by simp [g3, g4, g5]), if_pos hk]
variable (hk2 : ¬ x.kind = 2)
include hk2
theorem ap_rep (hk : x.kind = 4) : applyF b x = replaceF b x := by
 unfold applyF; rw [if_neg h0, if_neg hk1, if_neg (by simp [hk7, hk8])]; simp only [hid]; rw [if_neg (by simp [g1, g2]), if_neg (by simp [g3, g4, g5]), if_neg hk2, if_pos hk]
variable (hk4 : ¬ x.kind = 4)
include hk4
theorem ap_cl_e (h : ¬ (closeO b.orders x.ord).2 = 0) : applyF b x = (b, 2) := by
 unfold applyF; rw [if_neg h0, if_neg hk1, if_neg (by simp [hk7, hk8])]; simp only [hid]; rw [if_neg (by simp [g1, g2]), if_neg (by simp [g3, g4, g5]), if_neg hk2, if_neg hk4]; simp only [if_neg h]
theorem ap_cl_ok (h : (closeO b.orders x.ord).2 = 0) : applyF b x = (⟨(closeO b.orders x.ord).1, b.fills, b.ids, b.clock, b.bad⟩, 0) := by
 unfold applyF; rw [if_neg h0, if_neg hk1, if_neg (by simp [hk7, hk8])]; simp only [hid]; rw [if_neg (by simp [g1, g2]), if_neg (by simp [g3, g4, g5]), if_neg hk2, if_neg hk4]; simp only [if_pos h]
end
theorem sg5 : ∀ i, i ≠ 2 → i < 5 → selAt [0, 1, 2, 3, 4] i = some i := by
 intro i h1 h2
 have : i = 0 ∨ i = 1 ∨ i = 3 ∨ i = 4 := by omega
 rcases this with rfl | rfl | rfl | rfl <;> rfl
theorem own_keep5 {os ids y1 y2 : AV} {k c m : Nat} {l : List Dn} {x : Ex} {rest : List (Option (List AV))} (h0 : os.ren1 (selAt [0, 1, 2, 3, 4]) = os) (hi : ids.ren1 (selAt [0, 1, 2, 3, 4]) = ids) (h1 : y1.ren1 (selAt [0, 1, 2, 3, 4]) = y1) (h2 : y2.ren1 (selAt [0, 1, 2, 3, 4]) = y2) :
  selOwn (Z0 :: some [.agg [os, .mu 2 9 0 k c, ids, y1, y2]] :: some (l.map dnV ++ spare 9 m) :: some [exV x] :: some [exV x] :: rest) [0, 1, 2, 3, 4] = [Z0, some [.agg [os, .mu 2 9 0 k c, ids, y1, y2]], some (l.map dnV ++ spare 9 m), some [exV x], some [exV x]] := by
 show [Z0, some [.agg [os.ren1 _, .mu 2 9 0 k c, ids.ren1 _, y1.ren1 _, y2.ren1 _]], some ((l.map dnV ++ spare 9 m).map _), some [exV x], some [exV x]] = _
 rw [dn_ren, h0, hi, h1, h2]
theorem kp1_mono {n k : Nat} (h : n ≤ k) {x : AV} (hx : kp1 n x = true) : kp1 k x = true := by
 cases x <;> simp only [kp1, Bool.and_eq_true, bne_iff_ne, decide_eq_true_eq] at hx ⊢ <;> first | (exact ⟨hx.1, by omega⟩) | (simp at hx; done) | skip
 case sl t k es => cases t <;> simp [kp1] at hx ⊢; exact hx
 case fn f cs => cases cs <;> simp [kp1] at hx ⊢
theorem kp_mono {n k : Nat} (h : n ≤ k) {x : AV} (hx : kp n x = true) : kp k x = true := by
 cases x with
 | agg cs => exact List.all_eq_true.2 fun y hy => kp1_mono h (List.all_eq_true.1 hx y hy)
 | tup cs => simp [kp, kp1] at hx
 | fn f cs => exact kp1_mono (x := .fn f cs) h hx
 | sl t k es => exact kp1_mono (x := .sl t k es) h hx
 | mu id k o l c => exact kp1_mono (x := .mu id k o l c) h hx
 | ptr id i o => exact kp1_mono (x := .ptr id i o) h hx
 | _ => rfl
theorem kpL_app {n k : Nat} (h : n ≤ k) {l up : List AV} (h1 : l.all (kp k) = true) (h2 : up.all (kp n) = true) : (l ++ up).all (kp k) = true := by
 rw [List.all_append, h1, Bool.true_and]
 exact List.all_eq_true.2 fun x hx => kp_mono h (List.all_eq_true.1 h2 x hx)
theorem wkO_app {no nt : Nat} : ∀ {l r : List (Option (List AV))}, belO no nt l = true → WkO no nt (l ++ r) l
 | [], _, _ => by unfold WkO; trivial
 | x :: l, r, h => by
  simp only [belO, List.all_cons, Bool.and_eq_true] at h
  refine ⟨.inr ⟨rfl, fun es hes e he z hz => ?_⟩, wkO_app h.2⟩
  have h1 := h.1
  rw [hes] at h1
  exact List.all_eq_true.1 (List.all_eq_true.1 h1 e he) z hz
theorem AWP.cut {E : Env} {c : Code} {Q : Exit → St → Prop} {tmps tmps' up : List AV} {own' rest : List (Option (List AV))} {tk' : List Nat} {gl : Nat → Option (List AV)} {n : Nat} (hup : up.all (kp n) = true) (hn : n ≤ own'.length) (h0 : 1 ≤ tk'.length) (hb : belO own'.length tk'.length own' = true) (h1 : WkT own'.length tk'.length tmps tmps') (hk : WkK tk' tk')
  (hw : AWP E c Q ⟨tmps', own', tk', gl, none, up⟩) : AWP E c Q ⟨tmps, own' ++ rest, tk', gl, none, up⟩ :=
 AWP.weaken (t := ⟨tmps', own', tk', gl, none, up⟩) ⟨h1, wkO_app hb, hk, rfl, rfl, rfl, List.all_eq_true.2 fun x hx => kp_bel hn h0 (List.all_eq_true.1 hup x hx)⟩ hw
set_option maxRecDepth 100000 in
set_option maxHeartbeats 8000000 in
theorem apply_call {ops : Array Oper} {l : List Oper} {Q : Exit → St → Prop} {tmps up : List AV} {gl : Nat → Option (List AV)} {b : Bk} {x : Ex} {m : Nat} {dst : Option Tmp} {x0 x1 : Operand} {tys : Array TypeId} {ty : TypeId} {pos : String} {after : Array Edge}
  (hx0 : St.ev ⟨tmps, [Z0, some [bookV b m], some (rowV b m), some [exV x], some [exV x]], [b.ids.length], gl, none, up⟩ x0 = .ptr 1 0 0) (hx1 : St.ev ⟨tmps, [Z0, some [bookV b m], some (rowV b m), some [exV x], some [exV x]], [b.ids.length], gl, none, up⟩ x1 = exV x)
  (hx : execB x = true) (htf : ∀ f ∈ b.fills, 0 ≤ f.time ∧ f.time ≤ 4611686018427387904) (ho : b.orders.length ≤ 1000000) (hf : b.fills.length ≤ 1000000) (hup : (tmps ++ up).all (kp 5) = true)
  (h : ∀ (b' : Bk) (e : Int) (m' : Nat), applyF b x = (b', e) → AWPL E ops l Q (St.put ⟨tmps, [Z0, some [bookV b' m'], some (rowV b' m'), some [exV x], some [exV x]], [b'.ids.length], gl, none, up⟩ dst (i64 e))) :
  AWPL E ops (⟨dst, .call ⟨.value (.func 174), #[x0, x1], tys⟩, ty, pos, after, none⟩ :: l) Q ⟨tmps, [Z0, some [bookV b m], some (rowV b m), some [exV x], some [exV x]], [b.ids.length], gl, none, up⟩ := by
 refine AWPL.call (caps := []) (rs := [.tmp 4]) Tryz.func174 rfl Tryz.ntmps174 rfl (by kernel_rfl) rfl rfl ?_
 show AWP E _ _ ⟨([St.ev ⟨tmps, [Z0, some [bookV b m], some (rowV b m), some [exV x], some [exV x]], [b.ids.length], gl, none, up⟩ x0, St.ev ⟨tmps, [Z0, some [bookV b m], some (rowV b m), some [exV x], some [exV x]], [b.ids.length], gl, none, up⟩ x1] ++ []) ++ List.replicate (126 - 2) (.v undef), [Z0, some [bookV b m], some (rowV b m), some [exV x], some [exV x]], [b.ids.length], gl, none, tmps ++ up⟩
 rw [hx0, hx1]
 have hK : ∀ (tm : List AV) (ow : List (Option (List AV))) (tk : List Nat) (b' : Bk) (e : Int) (m' : Nat), applyF b x = (b', e) → ow = [Z0, some [bookV b' m'], some (rowV b' m'), some [exV x], some [exV x]] → tk = [b'.ids.length] → tm[4]? = some (i64 e) → AInPost E.P [.tmp 4] ⟨tmps, [Z0, some [bookV b m], some (rowV b m), some [exV x], some [exV x]], [b.ids.length], gl, none, up⟩ (fun s z => AWPL E ops l Q (s.put dst z)) .ret ⟨tm, ow, tk, gl, none, tmps ++ up⟩ := by
  intro tm ow tk b' e m' hb' how htk h4
  subst how; subst htk
  refine ⟨rfl, ?_⟩
  have : St.ev ⟨tm, [Z0, some [bookV b' m'], some (rowV b' m'), some [exV x], some [exV x]], [b'.ids.length], gl, none, tmps ++ up⟩ (.tmp 4) = i64 e := by simp [St.ev, List.getD_eq_getElem?_getD, h4]
  show AWPL E ops l Q (St.put _ dst (tupOf [St.ev _ (.tmp 4)]))
  rw [this]
  exact h b' e m' hb'
 generalize AInPost E.P [.tmp 4] ⟨tmps, [Z0, some [bookV b m], some (rowV b m), some [exV x], some [exV x]], [b.ids.length], gl, none, up⟩ (fun s z => AWPL E ops l Q (s.put dst z)) = Q' at hK ⊢
 generalize tmps ++ up = up' at hup hK ⊢
 clear h hx0 hx1
 have hxx := exec_qty hx
 have hq := hxx.1
 have htx := hxx.2
 refine AWP.seqk fun K1 hK1 => ?_
 refine AWP.region ?_
 simp only [go_sem]
 repeat' (first | fail)
 refine hK1 _ ?_; clear hK1 K1
 refine AWP.seqk fun K2 hK2 => ?_
 refine AWP.seqk fun K3 hK3 => ?_
 refine AWP.regionAs [0, 1, 2, 3, 4, 5, 6] [[], [0], [], [2], [2, 3], [2, 3, 4], [0, 1, 2, 3, 4, 5]] [] (by kernel_rfl) (by kernel_rfl) (by decide) rfl ?_
 simp only [go_sem]
 repeat' (first | fail)
 refine hK3 _ ?_; clear hK3 K3
 refine AWP.cond rfl (fun c18 => ?_) (fun c18 => ?_)
 · first | (
   try simp only [dD] at c18
   refine AWP.seqk fun K4 hK4 => ?_
   refine AWP.region ?_
   simp only [go_sem]
   repeat' (first | fail)
   refine hK4 _ ?_; clear hK4 K4
   refine AWP.normW [0, 1, 2, 3, 4] [Z0, some [bookV b m], some (rowV b m), some [exV x], some [exV x]] [b.ids.length] 5 (by decide) sg5 hup (Nat.le_refl _) (own_keep5 rfl rfl rfl rfl) own_bel2 ⟨rfl, trivial⟩ (Nat.le_refl _) ?_
   refine AWP.ret ?_
   try simp only [go_sem]
   clear hK2 K2
   first
   | exact hK _ _ _ b _ m (ap_1 (by assumption)) rfl rfl rfl)
 · first | (
   try simp only [dD] at c18
   refine AWP.skip ?_
   refine hK2 _ ?_; clear hK2 K2
   refine AWP.seqk fun K5 hK5 => ?_
   refine AWP.seqk fun K6 hK6 => ?_
   refine AWP.region ?_
   simp only [go_sem]
   repeat' (first | fail)
   refine hK6 _ ?_; clear hK6 K6
   refine AWP.block ?_
   refine AWP.seqk fun K7 hK7 => ?_
   refine AWP.region ?_
   simp only [go_sem]
   repeat' (first | fail)
   refine hK7 _ ?_; clear hK7 K7
   refine AWP.cond rfl (fun c21 => ?_) (fun c21 => ?_)
   · first | (
     try simp only [dD] at c21
     refine AWP.seqk fun K8 hK8 => ?_
     refine AWP.regionAs [0, 1, 2, 3, 4, 5, 6, 7, 8, 9, 10, 11, 12, 13, 14, 15, 16, 17, 18, 19, 20, 21, 22] [[], [0], [0, 1], [0, 1, 2], [], [4], [], [6], [], [8], [], [10], [], [12], [], [14], [4, 5, 6, 7, 8, 9, 10, 11, 12, 13, 14, 15], [0, 1, 2, 3, 4, 5, 6, 7, 8, 9, 10, 11, 12, 13, 14, 15, 16], [0, 1, 2, 3, 4, 5, 6, 7, 8, 9, 10, 11, 12, 13, 14, 15, 16, 17], [0, 1, 2, 3, 4, 5, 6, 7, 8, 9, 10, 11, 12, 13, 14, 15, 16, 17, 18], [0, 1, 2, 3, 4, 5, 6, 7, 8, 9, 10, 11, 12, 13, 14, 15, 16, 17, 18], [0, 1, 2, 3, 4, 5, 6, 7, 8, 9, 10, 11, 12, 13, 14, 15, 16, 17, 18, 19], [0, 1, 2, 3, 4, 5, 6, 7, 8, 9, 10, 11, 12, 13, 14, 15, 16, 17, 18, 19, 20, 21]] [] (by kernel_rfl) (by kernel_rfl) (by decide) rfl ?_
     simp only [go_sem]
     repeat' (first | (refine ACall.of (onew_c b.orders (orderOf x) (by omega)) (by kernel_rfl) rfl ?_; rintro r t ⟨⟨y, rfl, hy⟩, rfl⟩ <;> simp only [go_sem]) | fail)
     refine hK8 _ ?_; clear hK8 K8
     refine AWP.seqk fun K9 hK9 => ?_
     refine AWP.seqk fun K10 hK10 => ?_
     refine AWP.region ?_
     simp only [go_sem]
     repeat' (first | fail)
     refine hK10 _ ?_; clear hK10 K10
     refine AWP.cond rfl (fun c45 => ?_) (fun c45 => ?_)
     · first | (
       try simp only [dD] at c45
       refine AWP.seqk fun K11 hK11 => ?_
       refine AWP.region ?_
       simp only [go_sem]
       repeat' (first | fail)
       refine hK11 _ ?_; clear hK11 K11
       refine AWP.normW [0, 1, 2, 3, 4] [Z0, some [bookV b m], some (rowV b m), some [exV x], some [exV x]] [b.ids.length] 5 (by decide) sg5 hup (Nat.le_refl _) (own_keep5 rfl rfl rfl rfl) own_bel2 ⟨rfl, trivial⟩ (Nat.le_refl _) ?_
       refine AWP.ret ?_
       try simp only [go_sem]
       clear hK9 K9 hK5 K5
       first
       | exact hK _ _ _ b _ m (ap_new_e (by assumption) (by assumption) (by omega)) rfl rfl rfl)
     · first | (
       try simp only [dD] at c45
       refine AWP.skip ?_
       refine hK9 _ ?_; clear hK9 K9
       refine AWP.seqk fun K12 hK12 => ?_
       have hx9 := hy (by omega)
       subst hx9
       refine AWP.region ?_
       simp only [go_sem]
       repeat' (first | fail)
       refine hK12 _ ?_; clear hK12 K12
       refine AWP.seqk fun K13 hK13 => ?_
       refine AWP.region ?_
       simp only [go_sem]
       repeat' (first | fail)
       refine hK13 _ ?_; clear hK13 K13
       refine AWP.normW [0, 1, 2, 3, 4] [Z0, some [bookV ⟨(newO b.orders (orderOf x)).1, b.fills, b.ids, b.clock, b.bad⟩ m], some (rowV ⟨(newO b.orders (orderOf x)).1, b.fills, b.ids, b.clock, b.bad⟩ m), some [exV x], some [exV x]] [b.ids.length] 5 (by decide) sg5 hup (Nat.le_refl _) (own_keep5 rfl rfl rfl rfl) own_bel2 ⟨rfl, trivial⟩ (Nat.le_refl _) ?_
       refine AWP.ret ?_
       try simp only [go_sem]
       clear hK5 K5
       first
       | exact hK _ _ _ _ _ m (ap_new_ok (by assumption) (by assumption) (by omega)) rfl rfl rfl))
   · first | (
     try simp only [dD] at c21
     refine AWP.seqk fun K14 hK14 => ?_
     refine AWP.seqk fun K15 hK15 => ?_
     refine AWP.region ?_
     simp only [go_sem]
     repeat' (first | fail)
     refine hK15 _ ?_; clear hK15 K15
     refine AWP.cond rfl (fun c50 => ?_) (fun c50 => ?_)
     · first | (
       try simp only [dD] at c50
       refine AWP.skip ?_
       refine hK14 _ ?_; clear hK14 K14
       refine AWP.cond rfl (fun c50 => ?_) (fun c50 => ?_)
       · first | (
         try simp only [dD] at c50
         refine AWP.seqk fun K16 hK16 => ?_
         refine AWP.regionL ?_
         refine AWPL.app (l1 := [_, _]) (l2 := _ :: _) ?_
         simp only [go_sem]
         refine amend_call (b := b) (x := x) (m := m) rfl rfl htx htf ho hf (kpL_app (by decide) rfl hup) ?_
         intro b2 e2 m2 hb2
         refine AWPL.of ?_
         simp only [go_sem]
         refine hK16 _ ?_; clear hK16 K16
         refine AWP.normW [0, 1, 2, 3, 4] [Z0, some [bookV b2 m2], some (rowV b2 m2), some [exV x], some [exV x]] [b2.ids.length] 5 (by decide) sg5 hup (Nat.le_refl _) (own_keep5 rfl rfl rfl rfl) own_bel2 ⟨rfl, trivial⟩ (Nat.le_refl _) ?_
         refine AWP.ret ?_
         try simp only [go_sem]
         clear hK5 K5
         first
         | exact hK _ _ _ b2 _ m2 ((ap_amend (by assumption) (by assumption) (.inl (by assumption))).trans hb2) rfl rfl rfl)
       · first | (
         try simp only [dD] at c50
         refine AWP.skip ?_
         refine hK5 _ ?_; clear hK5 K5
         refine AWP.seqk fun K17 hK17 => ?_
         refine AWP.region ?_
         simp only [go_sem]
         repeat' (first | fail)
         refine hK17 _ ?_; clear hK17 K17
         refine AWP.seqk fun K18 hK18 => ?_
         refine AWP.seqk fun K19 hK19 => ?_
         refine AWP.region ?_
         simp only [go_sem]
         repeat' (first | fail)
         refine hK19 _ ?_; clear hK19 K19
         refine AWP.cond rfl (fun c60 => ?_) (fun c60 => ?_)
         · first | (
           try simp only [dD] at c60
           refine AWP.region ?_
           simp only [go_sem]
           repeat' (first | fail)
           refine hK18 _ ?_; clear hK18 K18
           refine AWP.seqk fun K20 hK20 => ?_
           refine AWP.region ?_
           simp only [go_sem]
           repeat' (first | (refine ACall.one (ofind_c b.orders x.ref (by omega)) (by kernel_rfl) rfl ?_; simp only [go_sem]) | fail)
           refine hK20 _ ?_; clear hK20 K20
           refine AWP.seqk fun K21 hK21 => ?_
           refine AWP.seqk fun K22 hK22 => ?_
           refine AWP.region ?_
           simp only [go_sem]
           repeat' (first | (refine AGuard.split (fun h => ?_) (fun h => ?_) <;> simp only [h, go_sem] <;> try simp only [dD] at h) | fail)
           all_goals (
            refine hK22 _ ?_; clear hK22 K22
            refine AWP.cond rfl (fun c78 => ?_) (fun c78 => ?_)
            · first | (
              try simp only [dD] at c78
              refine AWP.seqk fun K23 hK23 => ?_
              refine AWP.region ?_
              simp only [go_sem]
              repeat' (first | fail)
              refine hK23 _ ?_; clear hK23 K23
              refine AWP.normW [0, 1, 2, 3, 4] [Z0, some [bookV b m], some (rowV b m), some [exV x], some [exV x]] [b.ids.length] 5 (by decide) sg5 hup (Nat.le_refl _) (own_keep5 rfl rfl rfl rfl) own_bel2 ⟨rfl, trivial⟩ (Nat.le_refl _) ?_
              refine AWP.ret ?_
              try simp only [go_sem]
              clear hK21 K21
              first
              | (exfalso; omega))
            · first | exact Bool.noConfusion c78 | (
              try simp only [dD] at c78
              refine AWP.skip ?_
              refine hK21 _ ?_; clear hK21 K21
              refine AWP.seqk fun K24 hK24 => ?_
              refine AWP.seqk fun K25 hK25 => ?_
              refine AWP.region ?_
              simp only [go_sem]
              repeat' (first | (refine AGuard.split (fun h => ?_) (fun h => ?_) <;> simp only [h, go_sem] <;> try simp only [dD] at h) | fail)
              all_goals (
               refine hK25 _ ?_; clear hK25 K25
               refine AWP.cond rfl (fun c97 => ?_) (fun c97 => ?_)
               · first | (
                 try simp only [dD] at c97
                 refine AWP.seqk fun K26 hK26 => ?_
                 refine AWP.region ?_
                 simp only [go_sem]
                 repeat' (first | fail)
                 refine hK26 _ ?_; clear hK26 K26
                 refine AWP.normW [0, 1, 2, 3, 4] [Z0, some [bookV b m], some (rowV b m), some [exV x], some [exV x]] [b.ids.length] 5 (by decide) sg5 hup (Nat.le_refl _) (own_keep5 rfl rfl rfl rfl) own_bel2 ⟨rfl, trivial⟩ (Nat.le_refl _) ?_
                 refine AWP.ret ?_
                 try simp only [go_sem]
                 clear hK24 K24
                 first
                 | (exfalso; omega))
               · first | exact Bool.noConfusion c97 | (
                 try simp only [dD] at c97
                 refine AWP.skip ?_
                 refine hK24 _ ?_; clear hK24 K24
                 refine AWP.seqk fun K27 hK27 => ?_
                 refine AWP.seqk fun K28 hK28 => ?_
                 refine AWP.region ?_
                 simp only [go_sem]
                 repeat' (first | fail)
                 refine hK28 _ ?_; clear hK28 K28
                 refine AWP.block ?_
                 refine AWP.seqk fun K29 hK29 => ?_
                 refine AWP.region ?_
                 simp only [go_sem]
                 repeat' (first | fail)
                 refine hK29 _ ?_; clear hK29 K29
                 refine AWP.cond rfl (fun c100 => ?_) (fun c100 => ?_)
                 · first | (
                   try simp only [dD] at c100
                   refine AWP.seqk fun K30 hK30 => ?_
                   refine AWP.cut (tmps' := [.ptr 1 0 0, .any, .any, .ptr 5 0 0, .any, .any, .any, .any, .any, .any, .any, .any, .any, .any, .any, .any, .any, .any, .any, .any, .any, .any, .any, .any, .any, .any, .any, .any, .any, .any, .any, .any, .any, .any, .any, .any, .any, .any, .any, .any, .any, .any, .any, .any, .any, .any, .any, .any, .any, .any, .any, .any, .any, .any, .any, .any, .any, .any, .any, .any, .any, .any, .any, .any, .any, .any, .any, .any, .any, .any, .any, .any, .any, .any, .any, .any, .any, .any, .any, .any, .any, .any, .any, .any, .any, .any, .any, .any, .any, .any, .any, .any, .any, .any, .any, .any, .any, .any, .any, .any, .any, .any, .any, .any, .any, .any, .any, .any, .any, .any, .any, .any, .any, .any, .any, .any, .any, .any, .any, .any, .any, .any, .any, .any, .any, .any]) (own' := [Z0, some [bookV b m], some (rowV b m), some [exV x], some [exV x], some [exV x]]) (rest := [_]) hup (Nat.le_of_ble_eq_true rfl) (Nat.le_refl _) own_bel3 ⟨.inr ⟨rfl, rfl⟩, .inl rfl, .inl rfl, .inr ⟨rfl, rfl⟩, .inl rfl, .inl rfl, .inl rfl, .inl rfl, .inl rfl, .inl rfl, .inl rfl, .inl rfl, .inl rfl, .inl rfl, .inl rfl, .inl rfl, .inl rfl, .inl rfl, .inl rfl, .inl rfl, .inl rfl, .inl rfl, .inl rfl, .inl rfl, .inl rfl, .inl rfl, .inl rfl, .inl rfl, .inl rfl, .inl rfl, .inl rfl, .inl rfl, .inl rfl, .inl rfl, .inl rfl, .inl rfl, .inl rfl, .inl rfl, .inl rfl, .inl rfl, .inl rfl, .inl rfl, .inl rfl, .inl rfl, .inl rfl, .inl rfl, .inl rfl, .inl rfl, .inl rfl, .inl rfl, .inl rfl, .inl rfl, .inl rfl, .inl rfl, .inl rfl, .inl rfl, .inl rfl, .inl rfl, .inl rfl, .inl rfl, .inl rfl, .inl rfl, .inl rfl, .inl rfl, .inl rfl, .inl rfl, .inl rfl, .inl rfl, .inl rfl, .inl rfl, .inl rfl, .inl rfl, .inl rfl, .inl rfl, .inl rfl, .inl rfl, .inl rfl, .inl rfl, .inl rfl, .inl rfl, .inl rfl, .inl rfl, .inl rfl, .inl rfl, .inl rfl, .inl rfl, .inl rfl, .inl rfl, .inl rfl, .inl rfl, .inl rfl, .inl rfl, .inl rfl, .inl rfl, .inl rfl, .inl rfl, .inl rfl, .inl rfl, .inl rfl, .inl rfl, .inl rfl, .inl rfl, .inl rfl, .inl rfl, .inl rfl, .inl rfl, .inl rfl, .inl rfl, .inl rfl, .inl rfl, .inl rfl, .inl rfl, .inl rfl, .inl rfl, .inl rfl, .inl rfl, .inl rfl, .inl rfl, .inl rfl, .inl rfl, .inl rfl, .inl rfl, .inl rfl, .inl rfl, .inl rfl, .inl rfl, trivial⟩ ⟨rfl, trivial⟩ ?_
                   refine AWP.regionL ?_
                   refine AWPL.app (l1 := [_, _]) (l2 := _ :: _) ?_
                   simp only [go_sem]
                   refine fill_call (b := b) (x := x) (m := m) rfl rfl hq ho hf (kpL_app (by decide) rfl hup) ?_
                   intro b2 e2 m2 hb2
                   refine AWPL.of ?_
                   simp only [go_sem]
                   refine hK30 _ ?_; clear hK30 K30
                   refine AWP.normW [0, 1, 2, 3, 4] [Z0, some [bookV b2 m2], some (rowV b2 m2), some [exV x], some [exV x]] [b2.ids.length] 5 (by decide) sg5 hup (Nat.le_refl _) (own_keep5 rfl rfl rfl rfl) own_bel2 ⟨rfl, trivial⟩ (Nat.le_refl _) ?_
                   refine AWP.ret ?_
                   try simp only [go_sem]
                   clear hK27 K27
                   first
                   | (exfalso; omega))
                 · first | (
                   try simp only [dD] at c100
                   refine AWP.seqk fun K31 hK31 => ?_
                   refine AWP.region ?_
                   simp only [go_sem]
                   repeat' (first | fail)
                   refine hK31 _ ?_; clear hK31 K31
                   refine AWP.cond rfl (fun c105 => ?_) (fun c105 => ?_)
                   · first | (
                     try simp only [dD] at c105
                     refine AWP.seqk fun K32 hK32 => ?_
                     refine AWP.cut (tmps' := [.ptr 1 0 0, .any, .any, .ptr 5 0 0, .any, .any, .any, .any, .any, .any, .any, .any, .any, .any, .any, .any, .any, .any, .any, .any, .any, .any, .any, .any, .any, .any, .any, .any, .any, .any, .any, .any, .any, .any, .any, .any, .any, .any, .any, .any, .any, .any, .any, .any, .any, .any, .any, .any, .any, .any, .any, .any, .any, .any, .any, .any, .any, .any, .any, .any, .any, .any, .any, .any, .any, .any, .any, .any, .any, .any, .any, .any, .any, .any, .any, .any, .any, .any, .any, .any, .any, .any, .any, .any, .any, .any, .any, .any, .any, .any, .any, .any, .any, .any, .any, .any, .any, .any, .any, .any, .any, .any, .any, .any, .any, .any, .any, .any, .any, .any, .any, .any, .any, .any, .any, .any, .any, .any, .any, .any, .any, .any, .any, .any, .any, .any]) (own' := [Z0, some [bookV b m], some (rowV b m), some [exV x], some [exV x], some [exV x]]) (rest := [_]) hup (Nat.le_of_ble_eq_true rfl) (Nat.le_refl _) own_bel3 ⟨.inr ⟨rfl, rfl⟩, .inl rfl, .inl rfl, .inr ⟨rfl, rfl⟩, .inl rfl, .inl rfl, .inl rfl, .inl rfl, .inl rfl, .inl rfl, .inl rfl, .inl rfl, .inl rfl, .inl rfl, .inl rfl, .inl rfl, .inl rfl, .inl rfl, .inl rfl, .inl rfl, .inl rfl, .inl rfl, .inl rfl, .inl rfl, .inl rfl, .inl rfl, .inl rfl, .inl rfl, .inl rfl, .inl rfl, .inl rfl, .inl rfl, .inl rfl, .inl rfl, .inl rfl, .inl rfl, .inl rfl, .inl rfl, .inl rfl, .inl rfl, .inl rfl, .inl rfl, .inl rfl, .inl rfl, .inl rfl, .inl rfl, .inl rfl, .inl rfl, .inl rfl, .inl rfl, .inl rfl, .inl rfl, .inl rfl, .inl rfl, .inl rfl, .inl rfl, .inl rfl, .inl rfl, .inl rfl, .inl rfl, .inl rfl, .inl rfl, .inl rfl, .inl rfl, .inl rfl, .inl rfl, .inl rfl, .inl rfl, .inl rfl, .inl rfl, .inl rfl, .inl rfl, .inl rfl, .inl rfl, .inl rfl, .inl rfl, .inl rfl, .inl rfl, .inl rfl, .inl rfl, .inl rfl, .inl rfl, .inl rfl, .inl rfl, .inl rfl, .inl rfl, .inl rfl, .inl rfl, .inl rfl, .inl rfl, .inl rfl, .inl rfl, .inl rfl, .inl rfl, .inl rfl, .inl rfl, .inl rfl, .inl rfl, .inl rfl, .inl rfl, .inl rfl, .inl rfl, .inl rfl, .inl rfl, .inl rfl, .inl rfl, .inl rfl, .inl rfl, .inl rfl, .inl rfl, .inl rfl, .inl rfl, .inl rfl, .inl rfl, .inl rfl, .inl rfl, .inl rfl, .inl rfl, .inl rfl, .inl rfl, .inl rfl, .inl rfl, .inl rfl, .inl rfl, .inl rfl, .inl rfl, trivial⟩ ⟨rfl, trivial⟩ ?_
                     refine AWP.regionL ?_
                     refine AWPL.app (l1 := [_, _]) (l2 := _ :: _) ?_
                     simp only [go_sem]
                     refine replace_call (b := b) (x := x) (m := m) rfl rfl  ho hf (kpL_app (by decide) rfl hup) ?_
                     intro b2 e2 m2 hb2
                     refine AWPL.of ?_
                     simp only [go_sem]
                     refine hK32 _ ?_; clear hK32 K32
                     refine AWP.normW [0, 1, 2, 3, 4] [Z0, some [bookV b2 m2], some (rowV b2 m2), some [exV x], some [exV x]] [b2.ids.length] 5 (by decide) sg5 hup (Nat.le_refl _) (own_keep5 rfl rfl rfl rfl) own_bel2 ⟨rfl, trivial⟩ (Nat.le_refl _) ?_
                     refine AWP.ret ?_
                     try simp only [go_sem]
                     clear hK27 K27
                     first
                     | (exfalso; omega))
                   · first | (
                     try simp only [dD] at c105
                     refine AWP.skip ?_
                     refine hK27 _ ?_; clear hK27 K27
                     refine AWP.seqk fun K33 hK33 => ?_
                     refine AWP.regionAs [0, 1, 2, 3, 4, 5, 6, 7, 8, 9, 10, 11] [[], [0], [0, 1], [0, 1, 2], [], [4], [0, 1, 2, 3, 4, 5], [0, 1, 2, 3, 4, 5, 6], [0, 1, 2, 3, 4, 5, 6, 7], [0, 1, 2, 3, 4, 5, 6, 7], [0, 1, 2, 3, 4, 5, 6, 7, 8], [0, 1, 2, 3, 4, 5, 6, 7, 8, 9, 10]] [] (by kernel_rfl) (by kernel_rfl) (by decide) rfl ?_
                     simp only [go_sem]
                     repeat' (first | (refine ACall.of (oclose_c b.orders x.ord (by omega)) (by kernel_rfl) rfl ?_; rintro r t ⟨⟨y, rfl, hy⟩, rfl⟩ <;> simp only [go_sem]) | fail)
                     refine hK33 _ ?_; clear hK33 K33
                     refine AWP.seqk fun K34 hK34 => ?_
                     refine AWP.seqk fun K35 hK35 => ?_
                     refine AWP.region ?_
                     simp only [go_sem]
                     repeat' (first | fail)
                     refine hK35 _ ?_; clear hK35 K35
                     refine AWP.cond rfl (fun c121 => ?_) (fun c121 => ?_)
                     · first | (
                       try simp only [dD] at c121
                       refine AWP.seqk fun K36 hK36 => ?_
                       refine AWP.region ?_
                       simp only [go_sem]
                       repeat' (first | fail)
                       refine hK36 _ ?_; clear hK36 K36
                       refine AWP.normW [0, 1, 2, 3, 4] [Z0, some [bookV b m], some (rowV b m), some [exV x], some [exV x]] [b.ids.length] 5 (by decide) sg5 hup (Nat.le_refl _) (own_keep5 rfl rfl rfl rfl) own_bel2 ⟨rfl, trivial⟩ (Nat.le_refl _) ?_
                       refine AWP.ret ?_
                       try simp only [go_sem]
                       clear hK34 K34
                       first
                       | (exfalso; omega))
                     · first | (
                       try simp only [dD] at c121
                       refine AWP.skip ?_
                       refine hK34 _ ?_; clear hK34 K34
                       refine AWP.seqk fun K37 hK37 => ?_
                       have hx9 := hy (by omega)
                       subst hx9
                       refine AWP.region ?_
                       simp only [go_sem]
                       repeat' (first | fail)
                       refine hK37 _ ?_; clear hK37 K37
                       refine AWP.seqk fun K38 hK38 => ?_
                       refine AWP.region ?_
                       simp only [go_sem]
                       repeat' (first | fail)
                       refine hK38 _ ?_; clear hK38 K38
                       refine AWP.normW [0, 1, 2, 3, 4] [Z0, some [bookV ⟨(closeO b.orders x.ord).1, b.fills, b.ids, b.clock, b.bad⟩ m], some (rowV ⟨(closeO b.orders x.ord).1, b.fills, b.ids, b.clock, b.bad⟩ m), some [exV x], some [exV x]] [b.ids.length] 5 (by decide) sg5 hup (Nat.le_refl _) (own_keep5 rfl rfl rfl rfl) own_bel2 ⟨rfl, trivial⟩ (Nat.le_refl _) ?_
                       refine AWP.ret ?_
                       try simp only [go_sem]
                       first
                       | (exfalso; omega)))))))))
         · first | (
           try simp only [dD] at c60
           refine AWP.skip ?_
           refine hK18 _ ?_; clear hK18 K18
           refine AWP.seqk fun K39 hK39 => ?_
           refine AWP.region ?_
           simp only [go_sem]
           repeat' (first | (refine ACall.one (ofind_c b.orders x.ord (by omega)) (by kernel_rfl) rfl ?_; simp only [go_sem]) | fail)
           refine hK39 _ ?_; clear hK39 K39
           refine AWP.seqk fun K40 hK40 => ?_
           refine AWP.seqk fun K41 hK41 => ?_
           refine AWP.region ?_
           simp only [go_sem]
           repeat' (first | (refine AGuard.split (fun h => ?_) (fun h => ?_) <;> simp only [h, go_sem] <;> try simp only [dD] at h) | fail)
           all_goals (
            refine hK41 _ ?_; clear hK41 K41
            refine AWP.cond rfl (fun c78 => ?_) (fun c78 => ?_)
            · first | (
              try simp only [dD] at c78
              refine AWP.seqk fun K42 hK42 => ?_
              refine AWP.region ?_
              simp only [go_sem]
              repeat' (first | fail)
              refine hK42 _ ?_; clear hK42 K42
              refine AWP.normW [0, 1, 2, 3, 4] [Z0, some [bookV b m], some (rowV b m), some [exV x], some [exV x]] [b.ids.length] 5 (by decide) sg5 hup (Nat.le_refl _) (own_keep5 rfl rfl rfl rfl) own_bel2 ⟨rfl, trivial⟩ (Nat.le_refl _) ?_
              refine AWP.ret ?_
              try simp only [go_sem]
              clear hK40 K40
              first
              | (exfalso; omega))
            · first | exact Bool.noConfusion c78 | (
              try simp only [dD] at c78
              refine AWP.skip ?_
              refine hK40 _ ?_; clear hK40 K40
              refine AWP.seqk fun K43 hK43 => ?_
              refine AWP.seqk fun K44 hK44 => ?_
              refine AWP.region ?_
              simp only [go_sem]
              repeat' (first | (refine AGuard.split (fun h => ?_) (fun h => ?_) <;> simp only [h, go_sem] <;> try simp only [dD] at h) | fail)
              all_goals (
               refine hK44 _ ?_; clear hK44 K44
               refine AWP.cond rfl (fun c97 => ?_) (fun c97 => ?_)
               · first | (
                 try simp only [dD] at c97
                 refine AWP.seqk fun K45 hK45 => ?_
                 refine AWP.region ?_
                 simp only [go_sem]
                 repeat' (first | fail)
                 refine hK45 _ ?_; clear hK45 K45
                 refine AWP.normW [0, 1, 2, 3, 4] [Z0, some [bookV b m], some (rowV b m), some [exV x], some [exV x]] [b.ids.length] 5 (by decide) sg5 hup (Nat.le_refl _) (own_keep5 rfl rfl rfl rfl) own_bel2 ⟨rfl, trivial⟩ (Nat.le_refl _) ?_
                 refine AWP.ret ?_
                 try simp only [go_sem]
                 clear hK43 K43
                 first
                 | (exfalso; omega))
               · first | exact Bool.noConfusion c97 | (
                 try simp only [dD] at c97
                 refine AWP.skip ?_
                 refine hK43 _ ?_; clear hK43 K43
                 refine AWP.seqk fun K46 hK46 => ?_
                 refine AWP.seqk fun K47 hK47 => ?_
                 refine AWP.region ?_
                 simp only [go_sem]
                 repeat' (first | fail)
                 refine hK47 _ ?_; clear hK47 K47
                 refine AWP.block ?_
                 refine AWP.seqk fun K48 hK48 => ?_
                 refine AWP.region ?_
                 simp only [go_sem]
                 repeat' (first | fail)
                 refine hK48 _ ?_; clear hK48 K48
                 refine AWP.cond rfl (fun c100 => ?_) (fun c100 => ?_)
                 · first | (
                   try simp only [dD] at c100
                   refine AWP.seqk fun K49 hK49 => ?_
                   refine AWP.cut (tmps' := [.ptr 1 0 0, .any, .any, .ptr 5 0 0, .any, .any, .any, .any, .any, .any, .any, .any, .any, .any, .any, .any, .any, .any, .any, .any, .any, .any, .any, .any, .any, .any, .any, .any, .any, .any, .any, .any, .any, .any, .any, .any, .any, .any, .any, .any, .any, .any, .any, .any, .any, .any, .any, .any, .any, .any, .any, .any, .any, .any, .any, .any, .any, .any, .any, .any, .any, .any, .any, .any, .any, .any, .any, .any, .any, .any, .any, .any, .any, .any, .any, .any, .any, .any, .any, .any, .any, .any, .any, .any, .any, .any, .any, .any, .any, .any, .any, .any, .any, .any, .any, .any, .any, .any, .any, .any, .any, .any, .any, .any, .any, .any, .any, .any, .any, .any, .any, .any, .any, .any, .any, .any, .any, .any, .any, .any, .any, .any, .any, .any, .any, .any]) (own' := [Z0, some [bookV b m], some (rowV b m), some [exV x], some [exV x], some [exV x]]) (rest := [_]) hup (Nat.le_of_ble_eq_true rfl) (Nat.le_refl _) own_bel3 ⟨.inr ⟨rfl, rfl⟩, .inl rfl, .inl rfl, .inr ⟨rfl, rfl⟩, .inl rfl, .inl rfl, .inl rfl, .inl rfl, .inl rfl, .inl rfl, .inl rfl, .inl rfl, .inl rfl, .inl rfl, .inl rfl, .inl rfl, .inl rfl, .inl rfl, .inl rfl, .inl rfl, .inl rfl, .inl rfl, .inl rfl, .inl rfl, .inl rfl, .inl rfl, .inl rfl, .inl rfl, .inl rfl, .inl rfl, .inl rfl, .inl rfl, .inl rfl, .inl rfl, .inl rfl, .inl rfl, .inl rfl, .inl rfl, .inl rfl, .inl rfl, .inl rfl, .inl rfl, .inl rfl, .inl rfl, .inl rfl, .inl rfl, .inl rfl, .inl rfl, .inl rfl, .inl rfl, .inl rfl, .inl rfl, .inl rfl, .inl rfl, .inl rfl, .inl rfl, .inl rfl, .inl rfl, .inl rfl, .inl rfl, .inl rfl, .inl rfl, .inl rfl, .inl rfl, .inl rfl, .inl rfl, .inl rfl, .inl rfl, .inl rfl, .inl rfl, .inl rfl, .inl rfl, .inl rfl, .inl rfl, .inl rfl, .inl rfl, .inl rfl, .inl rfl, .inl rfl, .inl rfl, .inl rfl, .inl rfl, .inl rfl, .inl rfl, .inl rfl, .inl rfl, .inl rfl, .inl rfl, .inl rfl, .inl rfl, .inl rfl, .inl rfl, .inl rfl, .inl rfl, .inl rfl, .inl rfl, .inl rfl, .inl rfl, .inl rfl, .inl rfl, .inl rfl, .inl rfl, .inl rfl, .inl rfl, .inl rfl, .inl rfl, .inl rfl, .inl rfl, .inl rfl, .inl rfl, .inl rfl, .inl rfl, .inl rfl, .inl rfl, .inl rfl, .inl rfl, .inl rfl, .inl rfl, .inl rfl, .inl rfl, .inl rfl, .inl rfl, .inl rfl, .inl rfl, .inl rfl, .inl rfl, trivial⟩ ⟨rfl, trivial⟩ ?_
                   refine AWP.regionL ?_
                   refine AWPL.app (l1 := [_, _]) (l2 := _ :: _) ?_
                   simp only [go_sem]
                   refine fill_call (b := b) (x := x) (m := m) rfl rfl hq ho hf (kpL_app (by decide) rfl hup) ?_
                   intro b2 e2 m2 hb2
                   refine AWPL.of ?_
                   simp only [go_sem]
                   refine hK49 _ ?_; clear hK49 K49
                   refine AWP.normW [0, 1, 2, 3, 4] [Z0, some [bookV b2 m2], some (rowV b2 m2), some [exV x], some [exV x]] [b2.ids.length] 5 (by decide) sg5 hup (Nat.le_refl _) (own_keep5 rfl rfl rfl rfl) own_bel2 ⟨rfl, trivial⟩ (Nat.le_refl _) ?_
                   refine AWP.ret ?_
                   try simp only [go_sem]
                   clear hK46 K46
                   first
                   | (exfalso; omega))
                 · first | (
                   try simp only [dD] at c100
                   refine AWP.seqk fun K50 hK50 => ?_
                   refine AWP.region ?_
                   simp only [go_sem]
                   repeat' (first | fail)
                   refine hK50 _ ?_; clear hK50 K50
                   refine AWP.cond rfl (fun c105 => ?_) (fun c105 => ?_)
                   · first | (
                     try simp only [dD] at c105
                     refine AWP.seqk fun K51 hK51 => ?_
                     refine AWP.cut (tmps' := [.ptr 1 0 0, .any, .any, .ptr 5 0 0, .any, .any, .any, .any, .any, .any, .any, .any, .any, .any, .any, .any, .any, .any, .any, .any, .any, .any, .any, .any, .any, .any, .any, .any, .any, .any, .any, .any, .any, .any, .any, .any, .any, .any, .any, .any, .any, .any, .any, .any, .any, .any, .any, .any, .any, .any, .any, .any, .any, .any, .any, .any, .any, .any, .any, .any, .any, .any, .any, .any, .any, .any, .any, .any, .any, .any, .any, .any, .any, .any, .any, .any, .any, .any, .any, .any, .any, .any, .any, .any, .any, .any, .any, .any, .any, .any, .any, .any, .any, .any, .any, .any, .any, .any, .any, .any, .any, .any, .any, .any, .any, .any, .any, .any, .any, .any, .any, .any, .any, .any, .any, .any, .any, .any, .any, .any, .any, .any, .any, .any, .any, .any]) (own' := [Z0, some [bookV b m], some (rowV b m), some [exV x], some [exV x], some [exV x]]) (rest := [_]) hup (Nat.le_of_ble_eq_true rfl) (Nat.le_refl _) own_bel3 ⟨.inr ⟨rfl, rfl⟩, .inl rfl, .inl rfl, .inr ⟨rfl, rfl⟩, .inl rfl, .inl rfl, .inl rfl, .inl rfl, .inl rfl, .inl rfl, .inl rfl, .inl rfl, .inl rfl, .inl rfl, .inl rfl, .inl rfl, .inl rfl, .inl rfl, .inl rfl, .inl rfl, .inl rfl, .inl rfl, .inl rfl, .inl rfl, .inl rfl, .inl rfl, .inl rfl, .inl rfl, .inl rfl, .inl rfl, .inl rfl, .inl rfl, .inl rfl, .inl rfl, .inl rfl, .inl rfl, .inl rfl, .inl rfl, .inl rfl, .inl rfl, .inl rfl, .inl rfl, .inl rfl, .inl rfl, .inl rfl, .inl rfl, .inl rfl, .inl rfl, .inl rfl, .inl rfl, .inl rfl, .inl rfl, .inl rfl, .inl rfl, .inl rfl, .inl rfl, .inl rfl, .inl rfl, .inl rfl, .inl rfl, .inl rfl, .inl rfl, .inl rfl, .inl rfl, .inl rfl, .inl rfl, .inl rfl, .inl rfl, .inl rfl, .inl rfl, .inl rfl, .inl rfl, .inl rfl, .inl rfl, .inl rfl, .inl rfl, .inl rfl, .inl rfl, .inl rfl, .inl rfl, .inl rfl, .inl rfl, .inl rfl, .inl rfl, .inl rfl, .inl rfl, .inl rfl, .inl rfl, .inl rfl, .inl rfl, .inl rfl, .inl rfl, .inl rfl, .inl rfl, .inl rfl, .inl rfl, .inl rfl, .inl rfl, .inl rfl, .inl rfl, .inl rfl, .inl rfl, .inl rfl, .inl rfl, .inl rfl, .inl rfl, .inl rfl, .inl rfl, .inl rfl, .inl rfl, .inl rfl, .inl rfl, .inl rfl, .inl rfl, .inl rfl, .inl rfl, .inl rfl, .inl rfl, .inl rfl, .inl rfl, .inl rfl, .inl rfl, .inl rfl, .inl rfl, .inl rfl, .inl rfl, trivial⟩ ⟨rfl, trivial⟩ ?_
                     refine AWP.regionL ?_
                     refine AWPL.app (l1 := [_, _]) (l2 := _ :: _) ?_
                     simp only [go_sem]
                     refine replace_call (b := b) (x := x) (m := m) rfl rfl  ho hf (kpL_app (by decide) rfl hup) ?_
                     intro b2 e2 m2 hb2
                     refine AWPL.of ?_
                     simp only [go_sem]
                     refine hK51 _ ?_; clear hK51 K51
                     refine AWP.normW [0, 1, 2, 3, 4] [Z0, some [bookV b2 m2], some (rowV b2 m2), some [exV x], some [exV x]] [b2.ids.length] 5 (by decide) sg5 hup (Nat.le_refl _) (own_keep5 rfl rfl rfl rfl) own_bel2 ⟨rfl, trivial⟩ (Nat.le_refl _) ?_
                     refine AWP.ret ?_
                     try simp only [go_sem]
                     clear hK46 K46
                     first
                     | (exfalso; omega))
                   · first | (
                     try simp only [dD] at c105
                     refine AWP.skip ?_
                     refine hK46 _ ?_; clear hK46 K46
                     refine AWP.seqk fun K52 hK52 => ?_
                     refine AWP.regionAs [0, 1, 2, 3, 4, 5, 6, 7, 8, 9, 10, 11] [[], [0], [0, 1], [0, 1, 2], [], [4], [0, 1, 2, 3, 4, 5], [0, 1, 2, 3, 4, 5, 6], [0, 1, 2, 3, 4, 5, 6, 7], [0, 1, 2, 3, 4, 5, 6, 7], [0, 1, 2, 3, 4, 5, 6, 7, 8], [0, 1, 2, 3, 4, 5, 6, 7, 8, 9, 10]] [] (by kernel_rfl) (by kernel_rfl) (by decide) rfl ?_
                     simp only [go_sem]
                     repeat' (first | (refine ACall.of (oclose_c b.orders x.ord (by omega)) (by kernel_rfl) rfl ?_; rintro r t ⟨⟨y, rfl, hy⟩, rfl⟩ <;> simp only [go_sem]) | fail)
                     refine hK52 _ ?_; clear hK52 K52
                     refine AWP.seqk fun K53 hK53 => ?_
                     refine AWP.seqk fun K54 hK54 => ?_
                     refine AWP.region ?_
                     simp only [go_sem]
                     repeat' (first | fail)
                     refine hK54 _ ?_; clear hK54 K54
                     refine AWP.cond rfl (fun c121 => ?_) (fun c121 => ?_)
                     · first | (
                       try simp only [dD] at c121
                       refine AWP.seqk fun K55 hK55 => ?_
                       refine AWP.region ?_
                       simp only [go_sem]
                       repeat' (first | fail)
                       refine hK55 _ ?_; clear hK55 K55
                       refine AWP.normW [0, 1, 2, 3, 4] [Z0, some [bookV b m], some (rowV b m), some [exV x], some [exV x]] [b.ids.length] 5 (by decide) sg5 hup (Nat.le_refl _) (own_keep5 rfl rfl rfl rfl) own_bel2 ⟨rfl, trivial⟩ (Nat.le_refl _) ?_
                       refine AWP.ret ?_
                       try simp only [go_sem]
                       clear hK53 K53
                       first
                       | (exfalso; omega))
                     · first | (
                       try simp only [dD] at c121
                       refine AWP.skip ?_
                       refine hK53 _ ?_; clear hK53 K53
                       refine AWP.seqk fun K56 hK56 => ?_
                       have hx9 := hy (by omega)
                       subst hx9
                       refine AWP.region ?_
                       simp only [go_sem]
                       repeat' (first | fail)
                       refine hK56 _ ?_; clear hK56 K56
                       refine AWP.seqk fun K57 hK57 => ?_
                       refine AWP.region ?_
                       simp only [go_sem]
                       repeat' (first | fail)
                       refine hK57 _ ?_; clear hK57 K57
                       refine AWP.normW [0, 1, 2, 3, 4] [Z0, some [bookV ⟨(closeO b.orders x.ord).1, b.fills, b.ids, b.clock, b.bad⟩ m], some (rowV ⟨(closeO b.orders x.ord).1, b.fills, b.ids, b.clock, b.bad⟩ m), some [exV x], some [exV x]] [b.ids.length] 5 (by decide) sg5 hup (Nat.le_refl _) (own_keep5 rfl rfl rfl rfl) own_bel2 ⟨rfl, trivial⟩ (Nat.le_refl _) ?_
                       refine AWP.ret ?_
                       try simp only [go_sem]
                       first
                       | (exfalso; omega)))))))))))
     · first | (
       try simp only [dD] at c50
       refine AWP.region ?_
       simp only [go_sem]
       repeat' (first | fail)
       refine hK14 _ ?_; clear hK14 K14
       refine AWP.cond rfl (fun c50 => ?_) (fun c50 => ?_)
       · first | (
         try simp only [dD] at c50
         refine AWP.seqk fun K58 hK58 => ?_
         refine AWP.regionL ?_
         refine AWPL.app (l1 := [_, _]) (l2 := _ :: _) ?_
         simp only [go_sem]
         refine amend_call (b := b) (x := x) (m := m) rfl rfl htx htf ho hf (kpL_app (by decide) rfl hup) ?_
         intro b2 e2 m2 hb2
         refine AWPL.of ?_
         simp only [go_sem]
         refine hK58 _ ?_; clear hK58 K58
         refine AWP.normW [0, 1, 2, 3, 4] [Z0, some [bookV b2 m2], some (rowV b2 m2), some [exV x], some [exV x]] [b2.ids.length] 5 (by decide) sg5 hup (Nat.le_refl _) (own_keep5 rfl rfl rfl rfl) own_bel2 ⟨rfl, trivial⟩ (Nat.le_refl _) ?_
         refine AWP.ret ?_
         try simp only [go_sem]
         clear hK5 K5
         first
         | exact hK _ _ _ b2 _ m2 ((ap_amend (by assumption) (by assumption) (.inr (by assumption))).trans hb2) rfl rfl rfl)
       · first | (
         try simp only [dD] at c50
         refine AWP.skip ?_
         refine hK5 _ ?_; clear hK5 K5
         refine AWP.seqk fun K59 hK59 => ?_
         refine AWP.region ?_
         simp only [go_sem]
         repeat' (first | fail)
         refine hK59 _ ?_; clear hK59 K59
         refine AWP.seqk fun K60 hK60 => ?_
         refine AWP.seqk fun K61 hK61 => ?_
         refine AWP.region ?_
         simp only [go_sem]
         repeat' (first | fail)
         refine hK61 _ ?_; clear hK61 K61
         refine AWP.cond rfl (fun c60 => ?_) (fun c60 => ?_)
         · first | (
           try simp only [dD] at c60
           refine AWP.region ?_
           simp only [go_sem]
           repeat' (first | fail)
           refine hK60 _ ?_; clear hK60 K60
           refine AWP.seqk fun K62 hK62 => ?_
           refine AWP.region ?_
           simp only [go_sem]
           repeat' (first | (refine ACall.one (ofind_c b.orders x.ref (by omega)) (by kernel_rfl) rfl ?_; simp only [go_sem]) | fail)
           refine hK62 _ ?_; clear hK62 K62
           refine AWP.seqk fun K63 hK63 => ?_
           refine AWP.seqk fun K64 hK64 => ?_
           refine AWP.region ?_
           simp only [go_sem]
           repeat' (first | (refine AGuard.split (fun h => ?_) (fun h => ?_) <;> simp only [h, go_sem] <;> try simp only [dD] at h) | fail)
           all_goals (
            refine hK64 _ ?_; clear hK64 K64
            refine AWP.cond rfl (fun c78 => ?_) (fun c78 => ?_)
            · first | (
              try simp only [dD] at c78
              refine AWP.seqk fun K65 hK65 => ?_
              refine AWP.region ?_
              simp only [go_sem]
              repeat' (first | fail)
              refine hK65 _ ?_; clear hK65 K65
              refine AWP.normW [0, 1, 2, 3, 4] [Z0, some [bookV b m], some (rowV b m), some [exV x], some [exV x]] [b.ids.length] 5 (by decide) sg5 hup (Nat.le_refl _) (own_keep5 rfl rfl rfl rfl) own_bel2 ⟨rfl, trivial⟩ (Nat.le_refl _) ?_
              refine AWP.ret ?_
              try simp only [go_sem]
              clear hK63 K63
              first
              | exact hK _ _ _ b _ m (ap_2 (by assumption) (by assumption) (by assumption) (by assumption) (id := x.ref) (if_pos (by assumption)) (.inl (by assumption))) rfl rfl rfl
              | exact hK _ _ _ b _ m (ap_2 (by assumption) (by assumption) (by assumption) (by assumption) (id := x.ref) (if_pos (by assumption)) (.inr (by assumption))) rfl rfl rfl)
            · first | exact Bool.noConfusion c78 | (
              try simp only [dD] at c78
              refine AWP.skip ?_
              refine hK63 _ ?_; clear hK63 K63
              refine AWP.seqk fun K66 hK66 => ?_
              refine AWP.seqk fun K67 hK67 => ?_
              refine AWP.region ?_
              simp only [go_sem]
              repeat' (first | (refine AGuard.split (fun h => ?_) (fun h => ?_) <;> simp only [h, go_sem] <;> try simp only [dD] at h) | fail)
              all_goals (
               refine hK67 _ ?_; clear hK67 K67
               refine AWP.cond rfl (fun c97 => ?_) (fun c97 => ?_)
               · first | (
                 try simp only [dD] at c97
                 refine AWP.seqk fun K68 hK68 => ?_
                 refine AWP.region ?_
                 simp only [go_sem]
                 repeat' (first | fail)
                 refine hK68 _ ?_; clear hK68 K68
                 refine AWP.normW [0, 1, 2, 3, 4] [Z0, some [bookV b m], some (rowV b m), some [exV x], some [exV x]] [b.ids.length] 5 (by decide) sg5 hup (Nat.le_refl _) (own_keep5 rfl rfl rfl rfl) own_bel2 ⟨rfl, trivial⟩ (Nat.le_refl _) ?_
                 refine AWP.ret ?_
                 try simp only [go_sem]
                 clear hK66 K66
                 first
                 | exact hK _ _ _ b _ m (ap_3 (by assumption) (by assumption) (by assumption) (by assumption) (id := x.ref) (if_pos (by assumption)) (by assumption) (by assumption) (.inl (by assumption))) rfl rfl rfl
                 | exact hK _ _ _ b _ m (ap_3 (by assumption) (by assumption) (by assumption) (by assumption) (id := x.ref) (if_pos (by assumption)) (by assumption) (by assumption) (.inr (.inl (by assumption)))) rfl rfl rfl
                 | exact hK _ _ _ b _ m (ap_3 (by assumption) (by assumption) (by assumption) (by assumption) (id := x.ref) (if_pos (by assumption)) (by assumption) (by assumption) (.inr (.inr (by assumption)))) rfl rfl rfl)
               · first | exact Bool.noConfusion c97 | (
                 try simp only [dD] at c97
                 refine AWP.skip ?_
                 refine hK66 _ ?_; clear hK66 K66
                 refine AWP.seqk fun K69 hK69 => ?_
                 refine AWP.seqk fun K70 hK70 => ?_
                 refine AWP.region ?_
                 simp only [go_sem]
                 repeat' (first | fail)
                 refine hK70 _ ?_; clear hK70 K70
                 refine AWP.block ?_
                 refine AWP.seqk fun K71 hK71 => ?_
                 refine AWP.region ?_
                 simp only [go_sem]
                 repeat' (first | fail)
                 refine hK71 _ ?_; clear hK71 K71
                 refine AWP.cond rfl (fun c100 => ?_) (fun c100 => ?_)
                 · first | (
                   try simp only [dD] at c100
                   refine AWP.seqk fun K72 hK72 => ?_
                   refine AWP.cut (tmps' := [.ptr 1 0 0, .any, .any, .ptr 5 0 0, .any, .any, .any, .any, .any, .any, .any, .any, .any, .any, .any, .any, .any, .any, .any, .any, .any, .any, .any, .any, .any, .any, .any, .any, .any, .any, .any, .any, .any, .any, .any, .any, .any, .any, .any, .any, .any, .any, .any, .any, .any, .any, .any, .any, .any, .any, .any, .any, .any, .any, .any, .any, .any, .any, .any, .any, .any, .any, .any, .any, .any, .any, .any, .any, .any, .any, .any, .any, .any, .any, .any, .any, .any, .any, .any, .any, .any, .any, .any, .any, .any, .any, .any, .any, .any, .any, .any, .any, .any, .any, .any, .any, .any, .any, .any, .any, .any, .any, .any, .any, .any, .any, .any, .any, .any, .any, .any, .any, .any, .any, .any, .any, .any, .any, .any, .any, .any, .any, .any, .any, .any, .any]) (own' := [Z0, some [bookV b m], some (rowV b m), some [exV x], some [exV x], some [exV x]]) (rest := [_]) hup (Nat.le_of_ble_eq_true rfl) (Nat.le_refl _) own_bel3 ⟨.inr ⟨rfl, rfl⟩, .inl rfl, .inl rfl, .inr ⟨rfl, rfl⟩, .inl rfl, .inl rfl, .inl rfl, .inl rfl, .inl rfl, .inl rfl, .inl rfl, .inl rfl, .inl rfl, .inl rfl, .inl rfl, .inl rfl, .inl rfl, .inl rfl, .inl rfl, .inl rfl, .inl rfl, .inl rfl, .inl rfl, .inl rfl, .inl rfl, .inl rfl, .inl rfl, .inl rfl, .inl rfl, .inl rfl, .inl rfl, .inl rfl, .inl rfl, .inl rfl, .inl rfl, .inl rfl, .inl rfl, .inl rfl, .inl rfl, .inl rfl, .inl rfl, .inl rfl, .inl rfl, .inl rfl, .inl rfl, .inl rfl, .inl rfl, .inl rfl, .inl rfl, .inl rfl, .inl rfl, .inl rfl, .inl rfl, .inl rfl, .inl rfl, .inl rfl, .inl rfl, .inl rfl, .inl rfl, .inl rfl, .inl rfl, .inl rfl, .inl rfl, .inl rfl, .inl rfl, .inl rfl, .inl rfl, .inl rfl, .inl rfl, .inl rfl, .inl rfl, .inl rfl, .inl rfl, .inl rfl, .inl rfl, .inl rfl, .inl rfl, .inl rfl, .inl rfl, .inl rfl, .inl rfl, .inl rfl, .inl rfl, .inl rfl, .inl rfl, .inl rfl, .inl rfl, .inl rfl, .inl rfl, .inl rfl, .inl rfl, .inl rfl, .inl rfl, .inl rfl, .inl rfl, .inl rfl, .inl rfl, .inl rfl, .inl rfl, .inl rfl, .inl rfl, .inl rfl, .inl rfl, .inl rfl, .inl rfl, .inl rfl, .inl rfl, .inl rfl, .inl rfl, .inl rfl, .inl rfl, .inl rfl, .inl rfl, .inl rfl, .inl rfl, .inl rfl, .inl rfl, .inl rfl, .inl rfl, .inl rfl, .inl rfl, .inl rfl, .inl rfl, .inl rfl, .inl rfl, .inl rfl, trivial⟩ ⟨rfl, trivial⟩ ?_
                   refine AWP.regionL ?_
                   refine AWPL.app (l1 := [_, _]) (l2 := _ :: _) ?_
                   simp only [go_sem]
                   refine fill_call (b := b) (x := x) (m := m) rfl rfl hq ho hf (kpL_app (by decide) rfl hup) ?_
                   intro b2 e2 m2 hb2
                   refine AWPL.of ?_
                   simp only [go_sem]
                   refine hK72 _ ?_; clear hK72 K72
                   refine AWP.normW [0, 1, 2, 3, 4] [Z0, some [bookV b2 m2], some (rowV b2 m2), some [exV x], some [exV x]] [b2.ids.length] 5 (by decide) sg5 hup (Nat.le_refl _) (own_keep5 rfl rfl rfl rfl) own_bel2 ⟨rfl, trivial⟩ (Nat.le_refl _) ?_
                   refine AWP.ret ?_
                   try simp only [go_sem]
                   clear hK69 K69
                   first
                   | (exfalso; omega))
                 · first | (
                   try simp only [dD] at c100
                   refine AWP.seqk fun K73 hK73 => ?_
                   refine AWP.region ?_
                   simp only [go_sem]
                   repeat' (first | fail)
                   refine hK73 _ ?_; clear hK73 K73
                   refine AWP.cond rfl (fun c105 => ?_) (fun c105 => ?_)
                   · first | (
                     try simp only [dD] at c105
                     refine AWP.seqk fun K74 hK74 => ?_
                     refine AWP.cut (tmps' := [.ptr 1 0 0, .any, .any, .ptr 5 0 0, .any, .any, .any, .any, .any, .any, .any, .any, .any, .any, .any, .any, .any, .any, .any, .any, .any, .any, .any, .any, .any, .any, .any, .any, .any, .any, .any, .any, .any, .any, .any, .any, .any, .any, .any, .any, .any, .any, .any, .any, .any, .any, .any, .any, .any, .any, .any, .any, .any, .any, .any, .any, .any, .any, .any, .any, .any, .any, .any, .any, .any, .any, .any, .any, .any, .any, .any, .any, .any, .any, .any, .any, .any, .any, .any, .any, .any, .any, .any, .any, .any, .any, .any, .any, .any, .any, .any, .any, .any, .any, .any, .any, .any, .any, .any, .any, .any, .any, .any, .any, .any, .any, .any, .any, .any, .any, .any, .any, .any, .any, .any, .any, .any, .any, .any, .any, .any, .any, .any, .any, .any, .any]) (own' := [Z0, some [bookV b m], some (rowV b m), some [exV x], some [exV x], some [exV x]]) (rest := [_]) hup (Nat.le_of_ble_eq_true rfl) (Nat.le_refl _) own_bel3 ⟨.inr ⟨rfl, rfl⟩, .inl rfl, .inl rfl, .inr ⟨rfl, rfl⟩, .inl rfl, .inl rfl, .inl rfl, .inl rfl, .inl rfl, .inl rfl, .inl rfl, .inl rfl, .inl rfl, .inl rfl, .inl rfl, .inl rfl, .inl rfl, .inl rfl, .inl rfl, .inl rfl, .inl rfl, .inl rfl, .inl rfl, .inl rfl, .inl rfl, .inl rfl, .inl rfl, .inl rfl, .inl rfl, .inl rfl, .inl rfl, .inl rfl, .inl rfl, .inl rfl, .inl rfl, .inl rfl, .inl rfl, .inl rfl, .inl rfl, .inl rfl, .inl rfl, .inl rfl, .inl rfl, .inl rfl, .inl rfl, .inl rfl, .inl rfl, .inl rfl, .inl rfl, .inl rfl, .inl rfl, .inl rfl, .inl rfl, .inl rfl, .inl rfl, .inl rfl, .inl rfl, .inl rfl, .inl rfl, .inl rfl, .inl rfl, .inl rfl, .inl rfl, .inl rfl, .inl rfl, .inl rfl, .inl rfl, .inl rfl, .inl rfl, .inl rfl, .inl rfl, .inl rfl, .inl rfl, .inl rfl, .inl rfl, .inl rfl, .inl rfl, .inl rfl, .inl rfl, .inl rfl, .inl rfl, .inl rfl, .inl rfl, .inl rfl, .inl rfl, .inl rfl, .inl rfl, .inl rfl, .inl rfl, .inl rfl, .inl rfl, .inl rfl, .inl rfl, .inl rfl, .inl rfl, .inl rfl, .inl rfl, .inl rfl, .inl rfl, .inl rfl, .inl rfl, .inl rfl, .inl rfl, .inl rfl, .inl rfl, .inl rfl, .inl rfl, .inl rfl, .inl rfl, .inl rfl, .inl rfl, .inl rfl, .inl rfl, .inl rfl, .inl rfl, .inl rfl, .inl rfl, .inl rfl, .inl rfl, .inl rfl, .inl rfl, .inl rfl, .inl rfl, .inl rfl, .inl rfl, .inl rfl, trivial⟩ ⟨rfl, trivial⟩ ?_
                     refine AWP.regionL ?_
                     refine AWPL.app (l1 := [_, _]) (l2 := _ :: _) ?_
                     simp only [go_sem]
                     refine replace_call (b := b) (x := x) (m := m) rfl rfl  ho hf (kpL_app (by decide) rfl hup) ?_
                     intro b2 e2 m2 hb2
                     refine AWPL.of ?_
                     simp only [go_sem]
                     refine hK74 _ ?_; clear hK74 K74
                     refine AWP.normW [0, 1, 2, 3, 4] [Z0, some [bookV b2 m2], some (rowV b2 m2), some [exV x], some [exV x]] [b2.ids.length] 5 (by decide) sg5 hup (Nat.le_refl _) (own_keep5 rfl rfl rfl rfl) own_bel2 ⟨rfl, trivial⟩ (Nat.le_refl _) ?_
                     refine AWP.ret ?_
                     try simp only [go_sem]
                     clear hK69 K69
                     first
                     | exact hK _ _ _ b2 _ m2 ((ap_rep (by assumption) (by assumption) (by assumption) (by assumption) (id := x.ref) (if_pos (by assumption)) (by assumption) (by assumption) (by assumption) (by assumption) (by assumption) (by assumption) (by assumption)).trans hb2) rfl rfl rfl)
                   · first | (
                     try simp only [dD] at c105
                     refine AWP.skip ?_
                     refine hK69 _ ?_; clear hK69 K69
                     refine AWP.seqk fun K75 hK75 => ?_
                     refine AWP.regionAs [0, 1, 2, 3, 4, 5, 6, 7, 8, 9, 10, 11] [[], [0], [0, 1], [0, 1, 2], [], [4], [0, 1, 2, 3, 4, 5], [0, 1, 2, 3, 4, 5, 6], [0, 1, 2, 3, 4, 5, 6, 7], [0, 1, 2, 3, 4, 5, 6, 7], [0, 1, 2, 3, 4, 5, 6, 7, 8], [0, 1, 2, 3, 4, 5, 6, 7, 8, 9, 10]] [] (by kernel_rfl) (by kernel_rfl) (by decide) rfl ?_
                     simp only [go_sem]
                     repeat' (first | (refine ACall.of (oclose_c b.orders x.ord (by omega)) (by kernel_rfl) rfl ?_; rintro r t ⟨⟨y, rfl, hy⟩, rfl⟩ <;> simp only [go_sem]) | fail)
                     refine hK75 _ ?_; clear hK75 K75
                     refine AWP.seqk fun K76 hK76 => ?_
                     refine AWP.seqk fun K77 hK77 => ?_
                     refine AWP.region ?_
                     simp only [go_sem]
                     repeat' (first | fail)
                     refine hK77 _ ?_; clear hK77 K77
                     refine AWP.cond rfl (fun c121 => ?_) (fun c121 => ?_)
                     · first | (
                       try simp only [dD] at c121
                       refine AWP.seqk fun K78 hK78 => ?_
                       refine AWP.region ?_
                       simp only [go_sem]
                       repeat' (first | fail)
                       refine hK78 _ ?_; clear hK78 K78
                       refine AWP.normW [0, 1, 2, 3, 4] [Z0, some [bookV b m], some (rowV b m), some [exV x], some [exV x]] [b.ids.length] 5 (by decide) sg5 hup (Nat.le_refl _) (own_keep5 rfl rfl rfl rfl) own_bel2 ⟨rfl, trivial⟩ (Nat.le_refl _) ?_
                       refine AWP.ret ?_
                       try simp only [go_sem]
                       clear hK76 K76
                       first
                       | (exfalso; omega))
                     · first | (
                       try simp only [dD] at c121
                       refine AWP.skip ?_
                       refine hK76 _ ?_; clear hK76 K76
                       refine AWP.seqk fun K79 hK79 => ?_
                       have hx9 := hy (by omega)
                       subst hx9
                       refine AWP.region ?_
                       simp only [go_sem]
                       repeat' (first | fail)
                       refine hK79 _ ?_; clear hK79 K79
                       refine AWP.seqk fun K80 hK80 => ?_
                       refine AWP.region ?_
                       simp only [go_sem]
                       repeat' (first | fail)
                       refine hK80 _ ?_; clear hK80 K80
                       refine AWP.normW [0, 1, 2, 3, 4] [Z0, some [bookV ⟨(closeO b.orders x.ord).1, b.fills, b.ids, b.clock, b.bad⟩ m], some (rowV ⟨(closeO b.orders x.ord).1, b.fills, b.ids, b.clock, b.bad⟩ m), some [exV x], some [exV x]] [b.ids.length] 5 (by decide) sg5 hup (Nat.le_refl _) (own_keep5 rfl rfl rfl rfl) own_bel2 ⟨rfl, trivial⟩ (Nat.le_refl _) ?_
                       refine AWP.ret ?_
                       try simp only [go_sem]
                       first
                       | (exfalso; omega)))))))))
         · first | (
           try simp only [dD] at c60
           refine AWP.skip ?_
           refine hK60 _ ?_; clear hK60 K60
           refine AWP.seqk fun K81 hK81 => ?_
           refine AWP.region ?_
           simp only [go_sem]
           repeat' (first | (refine ACall.one (ofind_c b.orders x.ord (by omega)) (by kernel_rfl) rfl ?_; simp only [go_sem]) | fail)
           refine hK81 _ ?_; clear hK81 K81
           refine AWP.seqk fun K82 hK82 => ?_
           refine AWP.seqk fun K83 hK83 => ?_
           refine AWP.region ?_
           simp only [go_sem]
           repeat' (first | (refine AGuard.split (fun h => ?_) (fun h => ?_) <;> simp only [h, go_sem] <;> try simp only [dD] at h) | fail)
           all_goals (
            refine hK83 _ ?_; clear hK83 K83
            refine AWP.cond rfl (fun c78 => ?_) (fun c78 => ?_)
            · first | (
              try simp only [dD] at c78
              refine AWP.seqk fun K84 hK84 => ?_
              refine AWP.region ?_
              simp only [go_sem]
              repeat' (first | fail)
              refine hK84 _ ?_; clear hK84 K84
              refine AWP.normW [0, 1, 2, 3, 4] [Z0, some [bookV b m], some (rowV b m), some [exV x], some [exV x]] [b.ids.length] 5 (by decide) sg5 hup (Nat.le_refl _) (own_keep5 rfl rfl rfl rfl) own_bel2 ⟨rfl, trivial⟩ (Nat.le_refl _) ?_
              refine AWP.ret ?_
              try simp only [go_sem]
              clear hK82 K82
              first
              | exact hK _ _ _ b _ m (ap_2 (by assumption) (by assumption) (by assumption) (by assumption) (id := x.ord) (if_neg (by assumption)) (.inl (by assumption))) rfl rfl rfl
              | exact hK _ _ _ b _ m (ap_2 (by assumption) (by assumption) (by assumption) (by assumption) (id := x.ord) (if_neg (by assumption)) (.inr (by assumption))) rfl rfl rfl)
            · first | exact Bool.noConfusion c78 | (
              try simp only [dD] at c78
              refine AWP.skip ?_
              refine hK82 _ ?_; clear hK82 K82
              refine AWP.seqk fun K85 hK85 => ?_
              refine AWP.seqk fun K86 hK86 => ?_
              refine AWP.region ?_
              simp only [go_sem]
              repeat' (first | (refine AGuard.split (fun h => ?_) (fun h => ?_) <;> simp only [h, go_sem] <;> try simp only [dD] at h) | fail)
              all_goals (
               refine hK86 _ ?_; clear hK86 K86
               refine AWP.cond rfl (fun c97 => ?_) (fun c97 => ?_)
               · first | (
                 try simp only [dD] at c97
                 refine AWP.seqk fun K87 hK87 => ?_
                 refine AWP.region ?_
                 simp only [go_sem]
                 repeat' (first | fail)
                 refine hK87 _ ?_; clear hK87 K87
                 refine AWP.normW [0, 1, 2, 3, 4] [Z0, some [bookV b m], some (rowV b m), some [exV x], some [exV x]] [b.ids.length] 5 (by decide) sg5 hup (Nat.le_refl _) (own_keep5 rfl rfl rfl rfl) own_bel2 ⟨rfl, trivial⟩ (Nat.le_refl _) ?_
                 refine AWP.ret ?_
                 try simp only [go_sem]
                 clear hK85 K85
                 first
                 | exact hK _ _ _ b _ m (ap_3 (by assumption) (by assumption) (by assumption) (by assumption) (id := x.ord) (if_neg (by assumption)) (by assumption) (by assumption) (.inl (by assumption))) rfl rfl rfl
                 | exact hK _ _ _ b _ m (ap_3 (by assumption) (by assumption) (by assumption) (by assumption) (id := x.ord) (if_neg (by assumption)) (by assumption) (by assumption) (.inr (.inl (by assumption)))) rfl rfl rfl
                 | exact hK _ _ _ b _ m (ap_3 (by assumption) (by assumption) (by assumption) (by assumption) (id := x.ord) (if_neg (by assumption)) (by assumption) (by assumption) (.inr (.inr (by assumption)))) rfl rfl rfl)
               · first | exact Bool.noConfusion c97 | (
                 try simp only [dD] at c97
                 refine AWP.skip ?_
                 refine hK85 _ ?_; clear hK85 K85
                 refine AWP.seqk fun K88 hK88 => ?_
                 refine AWP.seqk fun K89 hK89 => ?_
                 refine AWP.region ?_
                 simp only [go_sem]
                 repeat' (first | fail)
                 refine hK89 _ ?_; clear hK89 K89
                 refine AWP.block ?_
                 refine AWP.seqk fun K90 hK90 => ?_
                 refine AWP.region ?_
                 simp only [go_sem]
                 repeat' (first | fail)
                 refine hK90 _ ?_; clear hK90 K90
                 refine AWP.cond rfl (fun c100 => ?_) (fun c100 => ?_)
                 · first | (
                   try simp only [dD] at c100
                   refine AWP.seqk fun K91 hK91 => ?_
                   refine AWP.cut (tmps' := [.ptr 1 0 0, .any, .any, .ptr 5 0 0, .any, .any, .any, .any, .any, .any, .any, .any, .any, .any, .any, .any, .any, .any, .any, .any, .any, .any, .any, .any, .any, .any, .any, .any, .any, .any, .any, .any, .any, .any, .any, .any, .any, .any, .any, .any, .any, .any, .any, .any, .any, .any, .any, .any, .any, .any, .any, .any, .any, .any, .any, .any, .any, .any, .any, .any, .any, .any, .any, .any, .any, .any, .any, .any, .any, .any, .any, .any, .any, .any, .any, .any, .any, .any, .any, .any, .any, .any, .any, .any, .any, .any, .any, .any, .any, .any, .any, .any, .any, .any, .any, .any, .any, .any, .any, .any, .any, .any, .any, .any, .any, .any, .any, .any, .any, .any, .any, .any, .any, .any, .any, .any, .any, .any, .any, .any, .any, .any, .any, .any, .any, .any]) (own' := [Z0, some [bookV b m], some (rowV b m), some [exV x], some [exV x], some [exV x]]) (rest := [_]) hup (Nat.le_of_ble_eq_true rfl) (Nat.le_refl _) own_bel3 ⟨.inr ⟨rfl, rfl⟩, .inl rfl, .inl rfl, .inr ⟨rfl, rfl⟩, .inl rfl, .inl rfl, .inl rfl, .inl rfl, .inl rfl, .inl rfl, .inl rfl, .inl rfl, .inl rfl, .inl rfl, .inl rfl, .inl rfl, .inl rfl, .inl rfl, .inl rfl, .inl rfl, .inl rfl, .inl rfl, .inl rfl, .inl rfl, .inl rfl, .inl rfl, .inl rfl, .inl rfl, .inl rfl, .inl rfl, .inl rfl, .inl rfl, .inl rfl, .inl rfl, .inl rfl, .inl rfl, .inl rfl, .inl rfl, .inl rfl, .inl rfl, .inl rfl, .inl rfl, .inl rfl, .inl rfl, .inl rfl, .inl rfl, .inl rfl, .inl rfl, .inl rfl, .inl rfl, .inl rfl, .inl rfl, .inl rfl, .inl rfl, .inl rfl, .inl rfl, .inl rfl, .inl rfl, .inl rfl, .inl rfl, .inl rfl, .inl rfl, .inl rfl, .inl rfl, .inl rfl, .inl rfl, .inl rfl, .inl rfl, .inl rfl, .inl rfl, .inl rfl, .inl rfl, .inl rfl, .inl rfl, .inl rfl, .inl rfl, .inl rfl, .inl rfl, .inl rfl, .inl rfl, .inl rfl, .inl rfl, .inl rfl, .inl rfl, .inl rfl, .inl rfl, .inl rfl, .inl rfl, .inl rfl, .inl rfl, .inl rfl, .inl rfl, .inl rfl, .inl rfl, .inl rfl, .inl rfl, .inl rfl, .inl rfl, .inl rfl, .inl rfl, .inl rfl, .inl rfl, .inl rfl, .inl rfl, .inl rfl, .inl rfl, .inl rfl, .inl rfl, .inl rfl, .inl rfl, .inl rfl, .inl rfl, .inl rfl, .inl rfl, .inl rfl, .inl rfl, .inl rfl, .inl rfl, .inl rfl, .inl rfl, .inl rfl, .inl rfl, .inl rfl, .inl rfl, .inl rfl, .inl rfl, trivial⟩ ⟨rfl, trivial⟩ ?_
                   refine AWP.regionL ?_
                   refine AWPL.app (l1 := [_, _]) (l2 := _ :: _) ?_
                   simp only [go_sem]
                   refine fill_call (b := b) (x := x) (m := m) rfl rfl hq ho hf (kpL_app (by decide) rfl hup) ?_
                   intro b2 e2 m2 hb2
                   refine AWPL.of ?_
                   simp only [go_sem]
                   refine hK91 _ ?_; clear hK91 K91
                   refine AWP.normW [0, 1, 2, 3, 4] [Z0, some [bookV b2 m2], some (rowV b2 m2), some [exV x], some [exV x]] [b2.ids.length] 5 (by decide) sg5 hup (Nat.le_refl _) (own_keep5 rfl rfl rfl rfl) own_bel2 ⟨rfl, trivial⟩ (Nat.le_refl _) ?_
                   refine AWP.ret ?_
                   try simp only [go_sem]
                   clear hK88 K88
                   first
                   | exact hK _ _ _ b2 _ m2 ((ap_fill (by assumption) (by assumption) (by assumption) (by assumption) (id := x.ord) (if_neg (by assumption)) (by assumption) (by assumption) (by assumption) (by assumption) (by assumption) (by assumption)).trans hb2) rfl rfl rfl)
                 · first | (
                   try simp only [dD] at c100
                   refine AWP.seqk fun K92 hK92 => ?_
                   refine AWP.region ?_
                   simp only [go_sem]
                   repeat' (first | fail)
                   refine hK92 _ ?_; clear hK92 K92
                   refine AWP.cond rfl (fun c105 => ?_) (fun c105 => ?_)
                   · first | (
                     try simp only [dD] at c105
                     refine AWP.seqk fun K93 hK93 => ?_
                     refine AWP.cut (tmps' := [.ptr 1 0 0, .any, .any, .ptr 5 0 0, .any, .any, .any, .any, .any, .any, .any, .any, .any, .any, .any, .any, .any, .any, .any, .any, .any, .any, .any, .any, .any, .any, .any, .any, .any, .any, .any, .any, .any, .any, .any, .any, .any, .any, .any, .any, .any, .any, .any, .any, .any, .any, .any, .any, .any, .any, .any, .any, .any, .any, .any, .any, .any, .any, .any, .any, .any, .any, .any, .any, .any, .any, .any, .any, .any, .any, .any, .any, .any, .any, .any, .any, .any, .any, .any, .any, .any, .any, .any, .any, .any, .any, .any, .any, .any, .any, .any, .any, .any, .any, .any, .any, .any, .any, .any, .any, .any, .any, .any, .any, .any, .any, .any, .any, .any, .any, .any, .any, .any, .any, .any, .any, .any, .any, .any, .any, .any, .any, .any, .any, .any, .any]) (own' := [Z0, some [bookV b m], some (rowV b m), some [exV x], some [exV x], some [exV x]]) (rest := [_]) hup (Nat.le_of_ble_eq_true rfl) (Nat.le_refl _) own_bel3 ⟨.inr ⟨rfl, rfl⟩, .inl rfl, .inl rfl, .inr ⟨rfl, rfl⟩, .inl rfl, .inl rfl, .inl rfl, .inl rfl, .inl rfl, .inl rfl, .inl rfl, .inl rfl, .inl rfl, .inl rfl, .inl rfl, .inl rfl, .inl rfl, .inl rfl, .inl rfl, .inl rfl, .inl rfl, .inl rfl, .inl rfl, .inl rfl, .inl rfl, .inl rfl, .inl rfl, .inl rfl, .inl rfl, .inl rfl, .inl rfl, .inl rfl, .inl rfl, .inl rfl, .inl rfl, .inl rfl, .inl rfl, .inl rfl, .inl rfl, .inl rfl, .inl rfl, .inl rfl, .inl rfl, .inl rfl, .inl rfl, .inl rfl, .inl rfl, .inl rfl, .inl rfl, .inl rfl, .inl rfl, .inl rfl, .inl rfl, .inl rfl, .inl rfl, .inl rfl, .inl rfl, .inl rfl, .inl rfl, .inl rfl, .inl rfl, .inl rfl, .inl rfl, .inl rfl, .inl rfl, .inl rfl, .inl rfl, .inl rfl, .inl rfl, .inl rfl, .inl rfl, .inl rfl, .inl rfl, .inl rfl, .inl rfl, .inl rfl, .inl rfl, .inl rfl, .inl rfl, .inl rfl, .inl rfl, .inl rfl, .inl rfl, .inl rfl, .inl rfl, .inl rfl, .inl rfl, .inl rfl, .inl rfl, .inl rfl, .inl rfl, .inl rfl, .inl rfl, .inl rfl, .inl rfl, .inl rfl, .inl rfl, .inl rfl, .inl rfl, .inl rfl, .inl rfl, .inl rfl, .inl rfl, .inl rfl, .inl rfl, .inl rfl, .inl rfl, .inl rfl, .inl rfl, .inl rfl, .inl rfl, .inl rfl, .inl rfl, .inl rfl, .inl rfl, .inl rfl, .inl rfl, .inl rfl, .inl rfl, .inl rfl, .inl rfl, .inl rfl, .inl rfl, .inl rfl, .inl rfl, .inl rfl, trivial⟩ ⟨rfl, trivial⟩ ?_
                     refine AWP.regionL ?_
                     refine AWPL.app (l1 := [_, _]) (l2 := _ :: _) ?_
                     simp only [go_sem]
                     refine replace_call (b := b) (x := x) (m := m) rfl rfl  ho hf (kpL_app (by decide) rfl hup) ?_
                     intro b2 e2 m2 hb2
                     refine AWPL.of ?_
                     simp only [go_sem]
                     refine hK93 _ ?_; clear hK93 K93
                     refine AWP.normW [0, 1, 2, 3, 4] [Z0, some [bookV b2 m2], some (rowV b2 m2), some [exV x], some [exV x]] [b2.ids.length] 5 (by decide) sg5 hup (Nat.le_refl _) (own_keep5 rfl rfl rfl rfl) own_bel2 ⟨rfl, trivial⟩ (Nat.le_refl _) ?_
                     refine AWP.ret ?_
                     try simp only [go_sem]
                     clear hK88 K88
                     first
                     | (exfalso; omega))
                   · first | (
                     try simp only [dD] at c105
                     refine AWP.skip ?_
                     refine hK88 _ ?_; clear hK88 K88
                     refine AWP.seqk fun K94 hK94 => ?_
                     refine AWP.regionAs [0, 1, 2, 3, 4, 5, 6, 7, 8, 9, 10, 11] [[], [0], [0, 1], [0, 1, 2], [], [4], [0, 1, 2, 3, 4, 5], [0, 1, 2, 3, 4, 5, 6], [0, 1, 2, 3, 4, 5, 6, 7], [0, 1, 2, 3, 4, 5, 6, 7], [0, 1, 2, 3, 4, 5, 6, 7, 8], [0, 1, 2, 3, 4, 5, 6, 7, 8, 9, 10]] [] (by kernel_rfl) (by kernel_rfl) (by decide) rfl ?_
                     simp only [go_sem]
                     repeat' (first | (refine ACall.of (oclose_c b.orders x.ord (by omega)) (by kernel_rfl) rfl ?_; rintro r t ⟨⟨y, rfl, hy⟩, rfl⟩ <;> simp only [go_sem]) | fail)
                     refine hK94 _ ?_; clear hK94 K94
                     refine AWP.seqk fun K95 hK95 => ?_
                     refine AWP.seqk fun K96 hK96 => ?_
                     refine AWP.region ?_
                     simp only [go_sem]
                     repeat' (first | fail)
                     refine hK96 _ ?_; clear hK96 K96
                     refine AWP.cond rfl (fun c121 => ?_) (fun c121 => ?_)
                     · first | (
                       try simp only [dD] at c121
                       refine AWP.seqk fun K97 hK97 => ?_
                       refine AWP.region ?_
                       simp only [go_sem]
                       repeat' (first | fail)
                       refine hK97 _ ?_; clear hK97 K97
                       refine AWP.normW [0, 1, 2, 3, 4] [Z0, some [bookV b m], some (rowV b m), some [exV x], some [exV x]] [b.ids.length] 5 (by decide) sg5 hup (Nat.le_refl _) (own_keep5 rfl rfl rfl rfl) own_bel2 ⟨rfl, trivial⟩ (Nat.le_refl _) ?_
                       refine AWP.ret ?_
                       try simp only [go_sem]
                       clear hK95 K95
                       first
                       | exact hK _ _ _ b _ m (ap_cl_e (by assumption) (by assumption) (by assumption) (by assumption) (id := x.ord) (if_neg (by assumption)) (by assumption) (by assumption) (by assumption) (by assumption) (by assumption) (by assumption) (by assumption) (by omega)) rfl rfl rfl)
                     · first | (
                       try simp only [dD] at c121
                       refine AWP.skip ?_
                       refine hK95 _ ?_; clear hK95 K95
                       refine AWP.seqk fun K98 hK98 => ?_
                       have hx9 := hy (by omega)
                       subst hx9
                       refine AWP.region ?_
                       simp only [go_sem]
                       repeat' (first | fail)
                       refine hK98 _ ?_; clear hK98 K98
                       refine AWP.seqk fun K99 hK99 => ?_
                       refine AWP.region ?_
                       simp only [go_sem]
                       repeat' (first | fail)
                       refine hK99 _ ?_; clear hK99 K99
                       refine AWP.normW [0, 1, 2, 3, 4] [Z0, some [bookV ⟨(closeO b.orders x.ord).1, b.fills, b.ids, b.clock, b.bad⟩ m], some (rowV ⟨(closeO b.orders x.ord).1, b.fills, b.ids, b.clock, b.bad⟩ m), some [exV x], some [exV x]] [b.ids.length] 5 (by decide) sg5 hup (Nat.le_refl _) (own_keep5 rfl rfl rfl rfl) own_bel2 ⟨rfl, trivial⟩ (Nat.le_refl _) ?_
                       refine AWP.ret ?_
                       try simp only [go_sem]
                       first
                       | exact hK _ _ _ _ _ m (ap_cl_ok (by assumption) (by assumption) (by assumption) (by assumption) (id := x.ord) (if_neg (by assumption)) (by assumption) (by assumption) (by assumption) (by assumption) (by assumption) (by assumption) (by assumption) (by omega)) rfl rfl rfl))))))))))))
end Go.Proofs.YtajeeghgiilhiaaGreat
end
