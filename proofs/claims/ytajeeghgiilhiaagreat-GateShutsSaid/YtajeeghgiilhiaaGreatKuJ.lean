/- Texts of one chain, put together (N10, N1b, Vs, Lm, Shelf, Q21, Le). -/
import Derived.Test.YtajeeghgiilhiaaGreatKuI
import Derived.Test.YtajeeghgiilhiaaGreatKuF
import Derived.Test.YtajeeghgiilhiaaGreatKuE
import Derived.Laws.Externs
import Derived.Shelf.Bits.Mul64
import Derived.Shelf.SlIter.Sorted
import Derived.Shelf.SortM.Plain
import Derived.Shelf.SortM.SortNone
import Derived.Ground.GgzProg
import Derived.Ground.SlgmProg
import Derived.Test.YtajeeghgiilhiaaGreatProg
import Derived.Test.YtajeeghgiilhiaaGreatKuD
set_option linter.unusedVariables false
set_option linter.unusedSimpArgs false
section
namespace Go.Proofs.YtajeeghgiilhiaaGreat
open Go Go.Abs Go.RowKit Go.Bk
theorem tk_4 {b : Bk} {x : Ex} (h : b.bad ≠ 0 ∨ 256 ≤ b.ids.length) : takeF b x = (b, 4) := by unfold takeF; rw [if_pos h]
theorem tk_2 {b : Bk} {x : Ex} (h0 : b.bad = 0) (h1 : ¬ 256 ≤ b.ids.length) (h : hasF b.ids x.id = true) : takeF b x = (b, 2) := by unfold takeF; rw [if_neg (by simp [h0]; omega), if_pos h]
theorem tk_3 {b b2 : Bk} {x : Ex} {e : Int} (h0 : b.bad = 0) (h1 : ¬ 256 ≤ b.ids.length) (h : hasF b.ids x.id = false) (hb : applyF ⟨b.orders, b.fills, b.ids ++ [x.id], b.clock, b.bad⟩ x = (b2, e)) (he : ¬ e = 0) : takeF b x = (⟨b2.orders, b2.fills, b2.ids, b2.clock, e⟩, 3) := by
 unfold takeF; rw [if_neg (by simp [h0]; omega), if_neg (by simp [h])]
 have hb' : applyF { b with ids := b.ids ++ [x.id] } x = (b2, e) := hb
 simp only [hb']
 rw [if_pos he]
theorem tk_1 {b b2 : Bk} {x : Ex} {e : Int} (h0 : b.bad = 0) (h1 : ¬ 256 ≤ b.ids.length) (h : hasF b.ids x.id = false) (hb : applyF ⟨b.orders, b.fills, b.ids ++ [x.id], b.clock, b.bad⟩ x = (b2, e)) (he : e = 0) : takeF b x = (⟨b2.orders, b2.fills, b2.ids, x.time, b2.bad⟩, 1) := by
 unfold takeF; rw [if_neg (by simp [h0]; omega), if_neg (by simp [h])]
 have hb' : applyF { b with ids := b.ids ++ [x.id] } x = (b2, e) := hb
 simp only [hb']
 rw [if_neg (by simp [he])]
theorem sg4 : ∀ i, i ≠ 2 → i < 4 → selAt [0, 1, 2, 3] i = some i := by
 intro i h1 h2
 have : i = 0 ∨ i = 1 ∨ i = 3 := by omega
 rcases this with rfl | rfl | rfl <;> rfl
theorem own_keep4 {os ids y1 y2 : AV} {k c m : Nat} {l : List Dn} {x : Ex} {rest : List (Option (List AV))} (h0 : os.ren1 (selAt [0, 1, 2, 3]) = os) (hi : ids.ren1 (selAt [0, 1, 2, 3]) = ids) (h1 : y1.ren1 (selAt [0, 1, 2, 3]) = y1) (h2 : y2.ren1 (selAt [0, 1, 2, 3]) = y2) :
   selOwn (Z0 :: some [.agg [os, .mu 2 9 0 k c, ids, y1, y2]] :: some (l.map dnV ++ spare 9 m) :: some [exV x] :: rest) [0, 1, 2, 3] = [Z0, some [.agg [os, .mu 2 9 0 k c, ids, y1, y2]], some (l.map dnV ++ spare 9 m), some [exV x]] := by
 show [Z0, some [.agg [os.ren1 _, .mu 2 9 0 k c, ids.ren1 _, y1.ren1 _, y2.ren1 _]], some ((l.map dnV ++ spare 9 m).map _), some [exV x]] = _
 rw [dn_ren, h0, hi, h1, h2]
theorem map_snoc (l : List Bs) (s : Bs) : l.map str ++ [str s] = (l ++ [s]).map str := by simp
theorem AWP.cut2 {E : Env} {c : Code} {Q : Exit → St → Prop} {tmps tmps' up : List AV} {own' rest : List (Option (List AV))} {tk tk' : List Nat} {gl : Nat → Option (List AV)} {n : Nat} (hup : up.all (kp n) = true) (hn : n ≤ own'.length) (h0 : 1 ≤ tk'.length) (hb : belO own'.length tk'.length own' = true) (h1 : WkT own'.length tk'.length tmps tmps') (hk : WkK tk tk')
   (hw : AWP E c Q ⟨tmps', own', tk', gl, none, up⟩) : AWP E c Q ⟨tmps, own' ++ rest, tk, gl, none, up⟩ :=
 AWP.weaken (t := ⟨tmps', own', tk', gl, none, up⟩) ⟨h1, wkO_app hb, hk, rfl, rfl, rfl, List.all_eq_true.2 fun x hx => kp_bel hn h0 (List.all_eq_true.1 hup x hx)⟩ hw
set_option maxRecDepth 100000 in
set_option maxHeartbeats 8000000 in
theorem take_call {ops : Array Oper} {l : List Oper} {Q : Exit → St → Prop} {tmps up : List AV} {gl : Nat → Option (List AV)} {b : Bk} {x : Ex} {m : Nat} {dst : Option Tmp} {x0 x1 : Operand} {tys : Array TypeId} {ty : TypeId} {pos : String} {after : Array Edge}
   (hx0 : St.ev ⟨tmps, [Z0, some [bookV b m], some (rowV b m), some [exV x]], [b.ids.length], gl, none, up⟩ x0 = .ptr 1 0 0) (hx1 : St.ev ⟨tmps, [Z0, some [bookV b m], some (rowV b m), some [exV x]], [b.ids.length], gl, none, up⟩ x1 = exV x)
   (hx : execB x = true) (htf : ∀ f ∈ b.fills, 0 ≤ f.time ∧ f.time ≤ 4611686018427387904) (hi : b.ids.length ≤ 1000000) (ho : b.orders.length ≤ 1000000) (hf : b.fills.length ≤ 1000000) (hup : (tmps ++ up).all (kp 4) = true)
   (h : ∀ (b' : Bk) (e : Int) (m' : Nat), takeF b x = (b', e) → AWPL E ops l Q (St.put ⟨tmps, [Z0, some [bookV b' m'], some (rowV b' m'), some [exV x]], [b'.ids.length], gl, none, up⟩ dst (i64 e))) :
   AWPL E ops (⟨dst, .call ⟨.value (.func 108), #[x0, x1], tys⟩, ty, pos, after, none⟩ :: l) Q ⟨tmps, [Z0, some [bookV b m], some (rowV b m), some [exV x]], [b.ids.length], gl, none, up⟩ := by
 refine AWPL.call (caps := []) (rs := [.tmp 4]) Tryz.func108 rfl Tryz.ntmps108 rfl (by kernel_rfl) rfl rfl ?_
 show AWP E _ _ ⟨([St.ev ⟨tmps, [Z0, some [bookV b m], some (rowV b m), some [exV x]], [b.ids.length], gl, none, up⟩ x0, St.ev ⟨tmps, [Z0, some [bookV b m], some (rowV b m), some [exV x]], [b.ids.length], gl, none, up⟩ x1] ++ []) ++ List.replicate (51 - 2) (.v undef), [Z0, some [bookV b m], some (rowV b m), some [exV x]], [b.ids.length], gl, none, tmps ++ up⟩
 rw [hx0, hx1]
 have hK : ∀ (tm : List AV) (ow : List (Option (List AV))) (tk : List Nat) (b' : Bk) (e : Int) (m' : Nat), takeF b x = (b', e) → ow = [Z0, some [bookV b' m'], some (rowV b' m'), some [exV x]] → tk = [b'.ids.length] → tm[4]? = some (i64 e) → AInPost E.P [.tmp 4] ⟨tmps, [Z0, some [bookV b m], some (rowV b m), some [exV x]], [b.ids.length], gl, none, up⟩ (fun s z => AWPL E ops l Q (s.put dst z)) .ret ⟨tm, ow, tk, gl, none, tmps ++ up⟩ := by
   intro tm ow tk b' e m' hb' how htk h4
   subst how; subst htk
   refine ⟨rfl, ?_⟩
   have : St.ev ⟨tm, [Z0, some [bookV b' m'], some (rowV b' m'), some [exV x]], [b'.ids.length], gl, none, tmps ++ up⟩ (.tmp 4) = i64 e := by simp [St.ev, List.getD_eq_getElem?_getD, h4]
   show AWPL E ops l Q (St.put _ dst (tupOf [St.ev _ (.tmp 4)]))
   rw [this]
   exact h b' e m' hb'
 generalize AInPost E.P [.tmp 4] ⟨tmps, [Z0, some [bookV b m], some (rowV b m), some [exV x]], [b.ids.length], gl, none, up⟩ (fun s z => AWPL E ops l Q (s.put dst z)) = Q' at hK ⊢
 generalize tmps ++ up = up' at hup hK ⊢
 clear h hx0 hx1
 refine AWP.seqk fun K1 hK1 => ?_
 refine AWP.region ?_
 simp only [go_sem]
 repeat' (first | fail)
 refine hK1 _ ?_; clear hK1 K1
 refine AWP.seqk fun K2 hK2 => ?_
 refine AWP.seqk fun K3 hK3 => ?_
 refine AWP.region ?_
 simp only [go_sem]
 repeat' (first | (refine AGuard.split (fun h => ?_) (fun h => ?_) <;> simp only [h, go_sem] <;> try simp only [dD] at h) | ((first | with_reducible refine And.intro ?_ ?_); (focus ((first | (simp; done)))); (try simp only [hb, go_sem])))
 all_goals (
   refine hK3 _ ?_; clear hK3 K3
   refine AWP.cond rfl (fun c18 => ?_) (fun c18 => ?_)
   · first | (
       try simp only [dD] at c18
       refine AWP.seqk fun K4 hK4 => ?_
       refine AWP.region ?_
       simp only [go_sem]
       repeat' (first | fail)
       refine hK4 _ ?_; clear hK4 K4
       refine AWP.normW [0, 1, 2, 3] [Z0, some [bookV b m], some (rowV b m), some [exV x]] [b.ids.length] 4 (by decide) sg4 hup (Nat.le_refl _) (own_keep4 rfl rfl rfl rfl) own_bel1 ⟨rfl, trivial⟩ (Nat.le_refl _) ?_
       refine AWP.ret ?_
       try simp only [go_sem]
       clear hK2 K2
       first
       | exact hK _ _ _ b _ m (tk_4 (.inl (by assumption))) rfl rfl rfl
       | exact hK _ _ _ b _ m (tk_4 (.inr (by omega))) rfl rfl rfl
       | fail)
   · first | exact Bool.noConfusion c18 | (
       try simp only [dD] at c18
       refine AWP.skip ?_
       refine hK2 _ ?_; clear hK2 K2
       refine AWP.seqk fun K5 hK5 => ?_
       refine AWP.seqk fun K6 hK6 => ?_
       refine AWP.regionAs [0, 1, 2, 3, 4, 5, 6] [[], [0], [0, 1], [0, 1, 2], [], [4], [0, 1, 2, 3, 4, 5]] [] (by kernel_rfl) (by kernel_rfl) (by decide) rfl ?_
       simp only [go_sem]
       repeat' (first | (refine ACall.one (scontains_c b.ids x.id (by omega)) (by kernel_rfl) rfl ?_; simp only [go_sem]) | fail)
       refine hK6 _ ?_; clear hK6 K6
       refine AWP.cond rfl (fun c25 => ?_) (fun c25 => ?_)
       · first | (
           try simp only [dD] at c25
           refine AWP.seqk fun K7 hK7 => ?_
           refine AWP.region ?_
           simp only [go_sem]
           repeat' (first | fail)
           refine hK7 _ ?_; clear hK7 K7
           refine AWP.normW [0, 1, 2, 3] [Z0, some [bookV b m], some (rowV b m), some [exV x]] [b.ids.length] 4 (by decide) sg4 hup (Nat.le_refl _) (own_keep4 rfl rfl rfl rfl) own_bel1 ⟨rfl, trivial⟩ (Nat.le_refl _) ?_
           refine AWP.ret ?_
           try simp only [go_sem]
           clear hK5 K5
           first
           | exact hK _ _ _ b _ m (tk_2 (by omega) (by omega) (by assumption)) rfl rfl rfl
           | fail)
       · first | (
           try simp only [dD] at c25
           refine AWP.skip ?_
           refine hK5 _ ?_; clear hK5 K5
           refine AWP.seqk fun K8 hK8 => ?_
           refine AWP.regionAs [0, 1, 2, 3, 4, 5, 6, 7, 8, 9, 10, 11] [[], [], [1], [1, 2], [1, 2, 3], [], [5], [5, 6], [1, 2, 3, 4, 5, 6, 7], [0, 1, 2, 3, 4, 5, 6, 7, 8], [0, 1, 2, 3, 4, 5, 6, 7, 8, 9], [0, 1, 2, 3, 4, 5, 6, 7, 8, 9, 10]] [] (by kernel_rfl) (by kernel_rfl) (by decide) rfl ?_
           simp only [go_sem]
           repeat' (first | ((first | with_reducible refine And.intro ?_ ?_); (focus ((first | omega | fail))); (try simp only [hb, go_sem])))
           refine hK8 _ ?_; clear hK8 K8
           refine AWP.seqk fun K9 hK9 => ?_
           refine AWP.seqk fun K10 hK10 => ?_
           rw [map_snoc b.ids x.id]
           refine AWP.cut2 (tmps' := [.ptr 1 0 0, .any, .any, .ptr 4 0 0, .any, .any, .any, .any, .any, .any, .any, .any, .any, .any, .any, .any, .any, .any, .any, .any, .any, .any, .any, .any, .any, .any, .any, .any, .any, .any, .any, .any, .any, .any, .any, .any, .any, .any, .any, .any, .any, .any, .any, .any, .any, .any, .any, .any, .any, .any, .any]) (own' := [Z0, some [bookV ⟨b.orders, b.fills, b.ids ++ [x.id], b.clock, b.bad⟩ m], some (rowV ⟨b.orders, b.fills, b.ids ++ [x.id], b.clock, b.bad⟩ m), some [exV x], some [exV x]]) (rest := []) (tk' := [(b.ids ++ [x.id]).length]) hup (Nat.le_of_ble_eq_true rfl) (Nat.le_refl _) own_bel2 ⟨.inr ⟨rfl, rfl⟩, .inl rfl, .inl rfl, .inr ⟨rfl, rfl⟩, .inl rfl, .inl rfl, .inl rfl, .inl rfl, .inl rfl, .inl rfl, .inl rfl, .inl rfl, .inl rfl, .inl rfl, .inl rfl, .inl rfl, .inl rfl, .inl rfl, .inl rfl, .inl rfl, .inl rfl, .inl rfl, .inl rfl, .inl rfl, .inl rfl, .inl rfl, .inl rfl, .inl rfl, .inl rfl, .inl rfl, .inl rfl, .inl rfl, .inl rfl, .inl rfl, .inl rfl, .inl rfl, .inl rfl, .inl rfl, .inl rfl, .inl rfl, .inl rfl, .inl rfl, .inl rfl, .inl rfl, .inl rfl, .inl rfl, .inl rfl, .inl rfl, .inl rfl, .inl rfl, .inl rfl, trivial⟩ ⟨by simp, trivial⟩ ?_
           refine AWP.regionL ?_
           refine AWPL.app (l1 := [_, _]) (l2 := _ :: _) ?_
           simp only [go_sem]
           rw [show b.ids.length + 1 = (b.ids ++ [x.id]).length by simp]
           refine apply_call (b := ⟨b.orders, b.fills, b.ids ++ [x.id], b.clock, b.bad⟩) (x := x) (m := m) rfl rfl hx htf ho hf (kpL_app (by decide) rfl hup) ?_
           intro b2 e2 m2 hb2
           refine AWPL.of ?_
           simp only [go_sem]
           refine hK10 _ ?_; clear hK10 K10
           refine AWP.seqk fun K11 hK11 => ?_
           refine AWP.region ?_
           simp only [go_sem]
           repeat' (first | fail)
           refine hK11 _ ?_; clear hK11 K11
           refine AWP.cond rfl (fun c41 => ?_) (fun c41 => ?_)
           · first | (
               try simp only [dD] at c41
               refine AWP.seqk fun K12 hK12 => ?_
               refine AWP.region ?_
               simp only [go_sem]
               repeat' (first | fail)
               refine hK12 _ ?_; clear hK12 K12
               refine AWP.seqk fun K13 hK13 => ?_
               refine AWP.region ?_
               simp only [go_sem]
               repeat' (first | fail)
               refine hK13 _ ?_; clear hK13 K13
               refine AWP.normW [0, 1, 2, 3] [Z0, some [bookV ⟨b2.orders, b2.fills, b2.ids, b2.clock, e2⟩ m2], some (rowV ⟨b2.orders, b2.fills, b2.ids, b2.clock, e2⟩ m2), some [exV x]] [b2.ids.length] 4 (by decide) sg4 hup (Nat.le_refl _) (own_keep4 rfl rfl rfl rfl) own_bel1 ⟨rfl, trivial⟩ (Nat.le_refl _) ?_
               refine AWP.ret ?_
               try simp only [go_sem]
               clear hK9 K9
               first
               | exact hK _ _ _ _ _ m2 (tk_3 (by omega) (by omega) (by assumption) hb2 (by assumption)) rfl rfl rfl
               | fail)
           · first | (
               try simp only [dD] at c41
               refine AWP.skip ?_
               refine hK9 _ ?_; clear hK9 K9
               refine AWP.seqk fun K14 hK14 => ?_
               refine AWP.region ?_
               simp only [go_sem]
               repeat' (first | fail)
               refine hK14 _ ?_; clear hK14 K14
               refine AWP.seqk fun K15 hK15 => ?_
               refine AWP.region ?_
               simp only [go_sem]
               repeat' (first | fail)
               refine hK15 _ ?_; clear hK15 K15
               refine AWP.normW [0, 1, 2, 3] [Z0, some [bookV ⟨b2.orders, b2.fills, b2.ids, x.time, b2.bad⟩ m2], some (rowV ⟨b2.orders, b2.fills, b2.ids, x.time, b2.bad⟩ m2), some [exV x]] [b2.ids.length] 4 (by decide) sg4 hup (Nat.le_refl _) (own_keep4 rfl rfl rfl rfl) own_bel1 ⟨rfl, trivial⟩ (Nat.le_refl _) ?_
               refine AWP.ret ?_
               try simp only [go_sem]
               first
               | exact hK _ _ _ _ _ m2 (tk_1 (by omega) (by omega) (by assumption) hb2 (by omega)) rfl rfl rfl
               | fail))))
end Go.Proofs.YtajeeghgiilhiaaGreat
end
section
namespace Go.Proofs.YtajeeghgiilhiaaGreat
open Go Go.Abs Go.RowKit Go.Bk
set_option maxHeartbeats 4000000 in
set_option maxRecDepth 8000 in
theorem mexec_c (x : Ex) : ACalls E 107 [exV x] (fun r t => r = bl (execB x) ∧ t = []) := by
 refine ACalls.of_awp (n := 57) (rs := [.tmp 2]) Tryz.func107 rfl Tryz.ntmps107 rfl ?_
 repeat' (first
 | refine AWP.seqk fun K hK => ?_
 | (refine AWP.region ?_; simp only [go_sem])
 | (refine hK _ ?_; clear hK K)
 | refine AWP.block ?_
 | refine AWP.cond rfl (fun c => ?_) (fun c => ?_) <;> first | exact Bool.noConfusion c | (try simp only [dD] at c)
 | refine AWP.skip ?_
 | (refine ACall.one (mname_c _) (by kernel_rfl) rfl ?_; simp only [go_sem])
 | (refine ACall.one (msmall_c _) (by kernel_rfl) rfl ?_; simp only [go_sem])
 | (refine ACall.one (mwhen_c _) (by kernel_rfl) rfl ?_; simp only [go_sem])
 | (refine AGuard.split (fun h => ?_) (fun h => ?_) <;> simp only [h, go_sem] <;> (try simp only [dD] at h))
 | (
  refine AWP.ret ?_
  refine AEnd.is ?_; simp only [go_sem, out_v, out_s, out_n, v_int, v_bool, v_str] <;> (simp_all [execB]))
 | fail)
end Go.Proofs.YtajeeghgiilhiaaGreat
end
section
namespace Go.Proofs.YtajeeghgiilhiaaGreat
open Go Go.Abs Go.RowKit Go.Bk
abbrev bkV (b : Bk) : AV := .agg [odsV b.orders, dnsV b.fills, .sl none 1 (b.ids.map str), i64 b.clock, i64 b.bad]
theorem row_take (b : Bk) (m : Nat) : (rowV b m).take b.fills.length = b.fills.map dnV := dn_take _
theorem eq_no1 {α : Type} [DecidableEq α] {a b : List α} (h : ¬ a.length = b.length) : decide (a = b) = false := decide_eq_false fun e => h (by rw [e])
theorem eq_no2 {α : Type} [DecidableEq α] {a b : List α} {i : Nat} {x y : α} (h1 : a[i]? = some x) (h2 : b[i]? = some y) (h : x ≠ y) : decide (a = b) = false := decide_eq_false fun e => h (by rw [e, h2, Option.some.injEq] at h1; exact h1.symm)
theorem eq_yes {α : Type} [DecidableEq α] {a b : List α} {i : Nat} (h0 : a.length = b.length) (hi : a.length ≤ i) (h : a.take i = b.take i) : decide (a = b) = true := by
 rw [List.take_of_length_le hi, List.take_of_length_le (by omega)] at h
 exact decide_eq_true h
theorem eq_next {α : Type} {a b : List α} {i : Nat} {x y : α} (h1 : a[i]? = some x) (h2 : b[i]? = some y) (h : x = y) (h3 : a.take i = b.take i) : a.take (i + 1) = b.take (i + 1) := by rw [take_next h1, take_next h2, h3, h]
theorem od_eq {x y : Od} (h : x.id = y.id ∧ x.acc = y.acc ∧ x.sym = y.sym ∧ x.buy = y.buy ∧ x.qty = y.qty ∧ x.price = y.price ∧ x.done = y.done ∧ x.opn = y.opn) : x = y := by
 obtain ⟨a, b, c, d, e, f, g, i⟩ := x
 obtain ⟨h1, h2, h3, h4, h5, h6, h7, h8⟩ := h
 dsimp only at *
 subst h1; subst h2; subst h3; subst h4; subst h5; subst h6; subst h7; subst h8; rfl
theorem od_ne {x y : Od} (h : x.id = y.id → x.acc = y.acc → x.sym = y.sym → x.buy = y.buy → x.qty = y.qty → x.price = y.price → x.done = y.done → ¬ x.opn = y.opn) : x ≠ y := by
 rintro rfl; exact h rfl rfl rfl rfl rfl rfl rfl rfl
theorem dn_eq {x y : Dn} (h : x.id = y.id ∧ x.ord = y.ord ∧ x.acc = y.acc ∧ x.sym = y.sym ∧ x.buy = y.buy ∧ x.qty = y.qty ∧ x.price = y.price ∧ x.time = y.time ∧ x.live = y.live) : x = y := by
 obtain ⟨a, b, c, d, e, f, g, i, j⟩ := x
 obtain ⟨h1, h2, h3, h4, h5, h6, h7, h8, h9⟩ := h
 dsimp only at *
 subst h1; subst h2; subst h3; subst h4; subst h5; subst h6; subst h7; subst h8; subst h9; rfl
theorem dn_ne {x y : Dn} (h : x.id = y.id → x.ord = y.ord → x.acc = y.acc → x.sym = y.sym → x.buy = y.buy → x.qty = y.qty → x.price = y.price → x.time = y.time → ¬ x.live = y.live) : x ≠ y := by
 rintro rfl; exact h rfl rfl rfl rfl rfl rfl rfl rfl rfl
theorem same_b (p q : Bk) : decide (p = q) = (decide (p.orders = q.orders) && decide (p.fills = q.fills) && decide (p.ids = q.ids) && decide (p.clock = q.clock) && decide (p.bad = q.bad)) := by
 obtain ⟨a, b, c, d, e⟩ := p
 obtain ⟨a', b', c', d', e'⟩ := q
 simp [Bool.and_assoc]
theorem right_fy {b : Bk} (h : rightBk b = true) : True ∧ (b.orders.length ≤ 64 ∧ b.fills.length ≤ 256 ∧ b.ids.length ≤ 256) ∧ ∀ f ∈ b.fills, 0 ≤ f.time ∧ f.time ≤ 4611686018427387904 := by
 have h1 := rightBk_iff.1 h
 refine ⟨trivial, ⟨right_len h1.1.1, h1.1.2.1, h1.1.2.2.1⟩, fun f hf => ?_⟩
 have h2 := h1.2.2.1 f hf
 simp only [fillB, Bool.and_eq_true, decide_eq_true_eq] at h2
 omega
end Go.Proofs.YtajeeghgiilhiaaGreat
end
section
namespace Go.Abs
open Go Go.RowKit
theorem AWPL.mkMu {E : Env} {Q : Exit → St → Prop} {st : St} {ops : Array Oper} {l : List Oper} {dst : Option Tmp} {t ty : TypeId} {pos : String} {after : Array Edge} {e : TypeId} {k n : Nat} (hai : appInfo E.P t = some (e, k, n))
   (h : AWPL E ops l Q (St.put { st with own := st.own ++ [some []] } dst (.mu st.own.length k 0 0 0))) : AWPL E ops (⟨dst, .buildSlice t 0 #[], ty, pos, after, none⟩ :: l) Q st := by
 intro w0 im0 cx a w h0 hG r
 refine wpList_step (fun K' hK' => ?_)
 have hw : Region.wanted ⟨dst, .buildSlice t 0 #[], ty, pos, after, none⟩ (yielded ops a.tmps) = true := rfl
 rw [if_pos hw]
 obtain ⟨hu, hs, hk0, i, zv, hi, hz, hsize, hbytes, hzs⟩ := appInfo_ok hai
 have hrun : (Instr.buildSlice t 0 #[]).run E.P w = .ok (.slice (some ⟨w.heap.size, 0, none⟩) 0 0) (w.alloc (.cells #[] e)) := by
   unfold Instr.buildSlice
   simp only [Sem.run_bind, underlying_run hu, Result.andThen_ok, tsz_run hs, Sem.run_ite, Nat.zero_mul, if_true, Sem.run_pure]
   have e0 : Array.range 0 = #[] := Array.eq_empty_of_size_eq_zero (by simp)
   simp [newRow, Instr.fill, e0]
 obtain ⟨hle, r2⟩ := r.addOwn (below_alloc w (.cells #[] e)) (g := w.heap.size) (k := k) (es := []) (Nat.le_refl _) ⟨#[], e, 0, 0, heap_new w _, .inl rfl, by simp, by simp, by simp⟩
 have hv : VR { cx with β := cx.β ++ [some (w.heap.size, k)] } (.mu st.own.length k 0 0 0) (.slice (some ⟨w.heap.size, 0, none⟩) 0 0) := by
   have hb : (cx.β ++ [some (w.heap.size, k)])[st.own.length]? = some (some (w.heap.size, k)) := by
     rw [← r.ownlen, List.getElem?_append_right (Nat.le_refl _)]; simp
   have := VR.mu (c := { cx with β := cx.β ++ [some (w.heap.size, k)] }) (id := st.own.length) (off := 0) (len := 0) (cap := 0) hb (Nat.le_refl _)
   rwa [Nat.zero_mul] at this
 refine wp_value (w' := w.alloc (.cells #[] e)) (v := .slice (some ⟨w.heap.size, 0, none⟩) 0 0) ?_ (hK' _ _ (h w0 im0 _ _ _ h0 hG (r2.put dst hv)))
 simp only [execOp, Array.map_empty, Sem.run_bind, hrun, Result.andThen_ok, Sem.run_pure]
theorem AWPL.appMu {E : Env} {Q : Exit → St → Prop} {st : St} {ops : Array Oper} {l : List Oper} {dst : Option Tmp} {t tx ty : TypeId} {x y : Operand} {pos : String} {after : Array Edge} {e : TypeId} {k n id : Nat} {xs : List AV}
   (hx : srcTy E.P tx = true) (hai : appInfo E.P t = some (e, k, n)) (hs : st.ev x = .mu id k 0 0 0) (hsrc : ASrc (st.ev y) k = some xs) (ho : st.own[id]? = some (some [])) (h62 : xs.length ≤ 4611686018427387904) (hbt : xs.length * n ≤ 140737488355328)
   (h : ∀ m, AWPL E ops l Q (St.put { st with own := st.own.set id none ++ [some (xs ++ spare k m)] } dst (.mu st.own.length k 0 xs.length (xs.length + m)))) : AWPL E ops (⟨dst, .call ⟨.builtin .append, #[x, y], #[t, tx]⟩, ty, pos, after, none⟩ :: l) Q st := by
 intro w0 im0 cx a w h0 hG r
 refine wpList_step (fun K' hK' => ?_)
 have hw : Region.wanted ⟨dst, .call ⟨.builtin .append, #[x, y], #[t, tx]⟩, ty, pos, after, none⟩ (yielded ops a.tmps) = true := rfl
 rw [if_pos hw]
 have hv := r.ev x
 rw [hs] at hv
 have fin : ∀ (v' : Value) (w' : World) (c' : Ctx) (m : Nat), (Builtin.append_ #[t, tx] ty #[a.eval x, a.eval y]).run E.P w = .ok v' w' → Rel w0 im0 c' { st with own := st.own.set id none ++ [some (xs ++ spare k m)] } a w' → VR c' (.mu st.own.length k 0 xs.length (xs.length + m)) v' →
     Oper.wp E.P ⟨dst, .call ⟨.builtin .append, #[x, y], #[t, tx]⟩, ty, pos, after, none⟩ a w K' (fun e a' w' => Hands w0 im0 (Q e) a' w') := fun v' w' c' m h1 h2 h3 => by
   refine wp_value (w' := w') (v := v') ?_ (hK' _ _ (h m w0 im0 _ _ _ h0 hG (h2.put dst h3)))
   simp only [execOp, resolve, Sem.run_bind, Sem.run_pure, Result.andThen_ok, invoke, builtin, List.map_toArray, List.map_cons, List.map_nil, h1]
 by_cases hne : xs = []
 · subst hne
   obtain ⟨hu, hss, hk0, i, zv, hi, hz, hsize, hbytes, hzs⟩ := appInfo_ok hai
   obtain ⟨news, hnl, hnc, hlen, hone, hfirst⟩ := src_ok (P := E.P) r (r.ev y) hk0 hsrc
   have hnews : news = [] := List.eq_nil_of_length_eq_zero (by simpa using hnl)
   subst hnews
   have hrun : ∀ base, a.eval x = .slice base 0 0 → (Builtin.append_ #[t, tx] ty #[a.eval x, a.eval y]).run E.P w = .ok (a.eval x) w := fun base hb => by
     rw [hb]
     have := run_append_place (P := E.P) (w := w) (ty := ty) (base := base) (n := 0) (cap := 0) hu hss hx (hlen w) (hfirst w (fun _ _ => rfl)) (by simp)
     rw [this]
     cases base <;> simp [storeCells]
   rcases hv.inv_mu with ⟨g, hb, _, he⟩ | ⟨_, _, he⟩
   · obtain ⟨hle, r2⟩ := r.moveOwn hb ho
     refine fin _ w _ 0 (hrun _ he) (by simpa [spare] using r2) ?_
     rw [he]
     exact .mu (by show (cx.β ++ [_])[_]? = _; rw [← r.ownlen]; simp) (by simp)
   · obtain ⟨hle, r2⟩ := (r.dropOwn id).addNil
     exact fin _ w _ 0 (hrun _ he) (by simpa [spare] using r2) (by rw [he]; exact .muN)
 · obtain ⟨v', w', c', m, hr, hR, hV⟩ := append_mu (P := E.P) (ty := ty) r hx hai (r.ev y) hsrc hne (es := []) (sp := []) hv ho (by simpa using h62) (by simpa using hbt)
   exact fin v' w' c' m hr (by simpa using hR) (by simpa using hV)
end Go.Abs
namespace Go.Abs
open Go Go.RowKit
def notMu : AV → Bool
 | .mu _ _ _ _ _ => false
 | _ => true
def tokOp (st : St) : Option Oper → Prop
 | some o => match o.op with
   | .call cl => match cl.callee, cl.args.toList with
     | .builtin .append, x :: _ => notMu (st.ev x) = true
     | _, _ => True
   | _ => True
 | none => True
def setOp : Op → Bool
 | .store .. => true
 | _ => false
def AStepT (E : Env) (ops : Array Oper) (i : Nat) (C : St → Prop) (st : St) : Prop := tokOp st ops[i]? ∧ AStep E ops i C st
def APlanT (E : Env) (ops : Array Oper) (K : St → Prop) : Plan → St → Prop
 | .done, st => K st
 | .take i p, st => AStepT E ops i (APlanT E ops K p) st
 | .fork p, st => APlanT E ops K p st
 | .alt i p rest, st => AStepT E ops i (APlanT E ops K p) st ∧ APlanT E ops K rest st
 | .ends, _ => True
def AAnyT (E : Env) (ops : Array Oper) (K : St → Prop) : Nat → Array Bool → St → Prop
 | 0, L, st => Region.ready .any ops L = [] ∧ K st
 | n + 1, L, st => (Region.ready .any ops L = [] → K st) ∧ ∀ i ∈ Region.ready .any ops L, AStepT E ops i (AAnyT E ops K n (L.setIfInBounds i true)) st
def swapTB (P : Program) (ops : Array Oper) (p o : Oper) : Bool :=
 (lightOp P p.op && detOp P p.op && (!setOp o.op || !loadOp p.op)) &&
 (match p.dst with | none => true | some d => !(Oper.looksAt ops o).contains d && o.dst != some d) &&
 (match o.dst with | none => true | some d => !(Oper.looksAt ops p).contains d)
def freeT (P : Program) (ops : Array Oper) (anc : List (List Nat)) (L : Array Bool) (p : Nat) : Bool :=
 match ops[p]? with
 | none => false
 | some x => (List.range ops.size).all fun o => o == p || L.getD o true || (anc.getD o []).contains p || (match ops[o]? with | none => true | some y => swapTB P ops x y)
def planOKT (P : Program) (ops : Array Oper) (anc : List (List Nat)) : Bool → Plan → Array Bool → Nat → Bool
 | b, .done, L, _ => b && (Region.ready .any ops L).isEmpty
 | b, .take i p, L, n => b && (match n with | 0 => false | m + 1 => (Region.ready .any ops L).contains i && freeT P ops anc L i && planOKT P ops anc true p (L.setIfInBounds i true) m)
 | b, .fork p, L, n => b && (p.alts == Region.ready .any ops L) && !p.alts.isEmpty && planOKT P ops anc false p L n
 | b, .alt i p rest, L, n => !b && (match n with | 0 => false | m + 1 => (Region.ready .any ops L).contains i && planOKT P ops anc true p (L.setIfInBounds i true) m && planOKT P ops anc false rest L (m + 1))
 | b, .ends, _, _ => !b
section
variable {E : Env} {ops : Array Oper} {K : St → Prop} {anc : List (List Nat)}
theorem AStepT.mono {i : Nat} {C D : St → Prop} {st : St} (hk : AStepT E ops i C st) (h : ∀ s, C s → D s) : AStepT E ops i D st := ⟨hk.1, hk.2.mono h⟩
theorem AAnyT.drop : ∀ {n : Nat} {L : Array Bool} {st : St}, AAnyT E ops K n L st → AAny E ops K n L st
 | 0, _, _, h => h
 | _ + 1, _, _, h => ⟨h.1, fun i hi => (h.2 i hi).2.mono fun _ => AAnyT.drop⟩
theorem tok_light {P : Program} {p : Oper} {st : St} (h : lightOp P p.op = true) : tokOp st (some p) := by
 obtain ⟨dst, op, type, pos, after, guard⟩ := p
 unfold tokOp
 cases op <;> simp only
 case call cl =>
   obtain ⟨callee, args, tys⟩ := cl
   simp only [lightOp] at h
   cases callee with
   | value f => simp at h
   | invoke => simp at h
   | builtin b => cases b <;> simp only at h ⊢ <;> first | trivial | (simp at h; done)
theorem tok_put {st : St} {d : Option Tmp} {y : AV} {o : Oper} (h : ∀ t ∈ Oper.looksAt ops o, d ≠ some t) : tokOp (st.put d y) (some o) = tokOp st (some o) := by
 unfold tokOp
 obtain ⟨dst, op, type, pos, after, guard⟩ := o
 cases op <;> simp only
 case call cl =>
   obtain ⟨callee, args, tys⟩ := cl
   simp only
   split
   · rename_i x xs h1
     rw [ev_put_ne]
     intro t ht
     exact h t (looks_op (by simp [Op.operands, Call.operands]; rw [← Array.mem_toList_iff, h1, ht]; simp))
   · rfl
theorem own_keep {o : Oper} {s : St} {C : St → Prop} (ht : tokOp s (some o)) (hset : setOp o.op = false) (hk : AOp E o s C) : AOp E o s (fun s' => C s' ∧ OwnLe s s') := by
 cases hso : storeOp o.op with
 | false =>
   refine aop_congr (fun _ _ => rfl) rfl rfl rfl rfl hk (fun s' t' hc ha => ?_)
   obtain ⟨z, h1, h2⟩ := ha.at'
   have : t' = s' := by rw [h2, ← h1]
   rw [this]; exact ⟨hc, ha.ext hso⟩
 | true =>
   obtain ⟨dst, op, type, pos, after, guard⟩ := o
   cases op <;> simp only [storeOp, setOp] at hso hset <;> try (simp at hso; done)
   case store => simp at hset
   case call cl =>
     obtain ⟨callee, args, tys⟩ := cl
     simp only at hso
     cases callee with
     | value f => simp at hso
     | invoke => simp at hso
     | builtin b =>
       cases b <;> simp only at hso <;> try (simp at hso; done)
       unfold AOp at hk ⊢
       simp only at hk ⊢
       split at hk
       · rename_i x y t tx hargs htys
         rename_i hcal
         simp only [tokOp, hargs] at ht
         obtain ⟨g1, e, k, n, xs, g2, g3, hk⟩ := hk
         refine ⟨g1, e, k, n, xs, g2, g3, ?_⟩
         split at hk
         · obtain ⟨g4, g5, g6, g7, hk⟩ := hk
           exact ⟨g4, g5, g6, g7, hk, fun id es he => by rw [put_own.1]; exact he⟩
         · obtain ⟨g6, g7, hk⟩ := hk
           exact ⟨g6, g7, hk, fun id es he => by rw [put_own.1]; exact he⟩
         · rename_i hx
           rw [hx] at ht; simp [notMu] at ht
         · exact hk.elim
       · rename_i hh; simp at hh
       · exact (light_mono (fun y hy => ⟨hy, fun id es he => by rw [put_own.1]; exact he⟩) hk)
theorem swapT {i j : Nat} {p o : Oper} {C : St → Prop} {st : St} (hp : ops[i]? = some p) (ho : ops[j]? = some o) (hs : swapTB E.P ops p o = true) (h : AStepT E ops i (AStepT E ops j C) st) : AStepT E ops j (AStepT E ops i C) st := by
 unfold swapTB at hs
 simp only [Bool.and_eq_true] at hs
 obtain ⟨⟨⟨⟨hl, hd⟩, hst⟩, hpo⟩, hop⟩ := hs
 have hpo1 : ∀ t ∈ Oper.looksAt ops o, p.dst ≠ some t := fun t ht e => by
   rw [e] at hpo
   simp only [Bool.and_eq_true, Bool.not_eq_true'] at hpo
   have := hpo.1
   simp [ht] at this
 have hpo2 : ∀ t, p.dst = some t → o.dst ≠ some t := fun t e1 e2 => by
   rw [e1] at hpo
   simp only [Bool.and_eq_true] at hpo
   have := hpo.2
   simp [e2] at this
 have hop1 : ∀ t ∈ Oper.looksAt ops p, o.dst ≠ some t := fun t ht e => by
   rw [e] at hop
   simp [ht] at hop
 have htp : ∀ {C : St → Prop} {s : St}, AStep E ops i C s → AStepT E ops i C s := fun h => ⟨by rw [hp]; exact tok_light hl, h⟩
 have h := h.2
 have h1 : ∃ y, AStepT E ops j C (st.put p.dst y) ∧
     (∀ (C : St → Prop) (t : St), (∀ x ∈ p.op.operands, st.ev x = t.ev x) → AWant ops p t = AWant ops p st → (loadOp p.op = true → OwnLe st t) → C (t.put p.dst y) → AStep E ops i C t) := by
   unfold AStep at h
   rw [hp] at h
   simp only at h
   obtain ⟨q, hq, h2, h3⟩ := h
   cases q with
   | true =>
     have h2 := (light_aop hl).1 (h2 rfl)
     obtain ⟨y, ha, hb⟩ := det_light hd _ h2
     refine ⟨y, ha, fun C t e1 e2 e3 hC => ?_⟩
     unfold AStep
     rw [hp]
     refine ⟨true, by rw [e2]; exact hq, fun _ => (light_aop hl).2 ?_, fun hq => by simp at hq⟩
     exact light_congr e1 e3 (hb (fun z => C (t.put p.dst z)) hC)
   | false =>
     refine ⟨.v undef, h3 rfl, fun C t e1 e2 e3 hC => ?_⟩
     unfold AStep
     rw [hp]
     exact ⟨false, by rw [e2]; exact hq, fun hq => by simp at hq, fun _ => hC⟩
 obtain ⟨y, h2, key⟩ := h1
 have hwp : ∀ {t : St} {own : List (Option (List AV))} {tk : List Nat} {rv : Option (List (Tmp × Nat))} {z : AV}, t = St.put { st with own := own, tk := tk, rsv := rv } o.dst z → AWant ops p t = AWant ops p st := fun {t own tk rv z} e => by
   rw [e, want_put_ne hop1]; rfl
 have hevp : ∀ {t : St} {own : List (Option (List AV))} {tk : List Nat} {rv : Option (List (Tmp × Nat))} {z : AV}, t = St.put { st with own := own, tk := tk, rsv := rv } o.dst z → ∀ x ∈ p.op.operands, st.ev x = t.ev x := fun {t own tk rv z} e x hx => by
   rw [e, ev_put_ne (fun u hu => hop1 u (looks_op (hu ▸ hx)))]
   cases x <;> rfl
 obtain ⟨ht, h2⟩ := h2
 rw [ho] at ht
 have ht' : tokOp st (some o) := by rwa [tok_put hpo1] at ht
 refine ⟨by rw [ho]; exact ht', ?_⟩
 unfold AStep at h2 ⊢
 rw [ho] at h2 ⊢
 simp only at h2 ⊢
 obtain ⟨q, hq, h3, h4⟩ := h2
 rw [want_put_ne hpo1] at hq
 refine ⟨q, hq, fun e => ?_, fun e => ?_⟩
 · have h5 : AOp E o (st.put p.dst y) (fun s' => C s' ∧ (loadOp p.op = true → OwnLe (st.put p.dst y) s')) := by
     cases hset : setOp o.op with
     | false => exact aop_mono (own_keep ht hset (h3 e)) fun s' hs' => ⟨hs'.1, fun _ => hs'.2⟩
     | true => exact aop_mono (h3 e) fun s' hs' => ⟨hs', fun hload => by simp [hset, hload] at hst⟩
   refine aop_congr (t := st) (fun x hx => ev_put_ne (fun u hu => hpo1 u (looks_op (hu ▸ hx)))) put_own.1 put_own.2.1 put_own.2.2.1 put_own.2.2.2 h5 (fun s' t' hc ha => ?_)
   obtain ⟨z, e1, e2⟩ := ha.at'
   rw [put_with] at e1
   have hC : C (t'.put p.dst y) := by
     rw [e2, ← put_comm (fun t h1 h2 => hpo2 t h1 h2), ← e1]
     exact hc.1
   exact htp (key C t' (hevp e2) (hwp e2) (fun hload => by
     have := hc.2 hload
     intro id es he
     rw [ha.own]
     exact this id es (by rw [put_own.1]; exact he)) hC)
 · have h4 := h4 e
   rw [put_comm (fun t h1 h2 => hpo2 t h1 h2)] at h4
   have e2 : st.put o.dst (.v undef) = St.put { st with own := st.own, tk := st.tk, rsv := st.rsv } o.dst (.v undef) := rfl
   exact htp (key C (st.put o.dst (.v undef)) (hevp e2) (hwp e2) (fun _ id es he => by rw [put_own.1]; exact he) h4)
theorem freeT_swap (hv : listedOK ops anc = true) {L : Array Bool} (hw : WfL anc L) {p o : Nat} (hf : freeT E.P ops anc L p = true) (hp : p ∈ Region.ready .any ops L) (ho : o ∈ Region.ready .any ops L) (hne : o ≠ p) :
   ∃ x y, ops[p]? = some x ∧ ops[o]? = some y ∧ swapTB E.P ops x y = true := by
 obtain ⟨hpl, x, hx, _⟩ := mem_ready.1 hp
 obtain ⟨hol, y, hy, _⟩ := mem_ready.1 ho
 refine ⟨x, y, hx, hy, ?_⟩
 unfold freeT at hf
 simp only [hx, List.all_eq_true, List.mem_range, Bool.or_eq_true, beq_iff_eq] at hf
 have hlt : o < ops.size := (Array.getElem?_eq_some_iff.1 hy).1
 have := hf o hlt
 rcases this with ((h | h) | h) | h
 · exact absurd h hne
 · rw [hol] at h; simp at h
 · have := anc_listed hv hw ho p (by simpa using h)
   have h2 : L.getD p true = true := by
     simp only [Array.getD_eq_getD_getElem?] at this ⊢
     cases hh : L[p]? with
     | none => simp
     | some b => simpa [hh] using this
   rw [hpl] at h2; simp at h2
 · simpa [hy] using h
theorem freeT_mono {L : Array Bool} {p o : Nat} (hf : freeT E.P ops anc L p = true) : freeT E.P ops anc (L.setIfInBounds o true) p = true := by
 unfold freeT at *
 split at hf
 · simp at hf
 · rename_i x hx
   rw [List.all_eq_true] at *
   intro q hq
   have := hf q hq
   simp only [Bool.or_eq_true] at this ⊢
   rcases this with ((h | h) | h) | h
   · exact .inl (.inl (.inl h))
   · refine .inl (.inl (.inr ?_))
     by_cases e : o = q
     · subst e
       simp only [Array.getD_eq_getD_getElem?] at h ⊢
       rw [Array.getElem?_setIfInBounds, if_pos rfl]
       split <;> simp
     · rwa [getD_set_ne true e]
   · exact .inl (.inr h)
   · exact .inr h
theorem astepT_false {i : Nat} {p o : Oper} {st : St} (hp : ops[i]? = some p) (hs : swapTB E.P ops p o = true) (h : AStepT E ops i (fun _ => False) st) : False := by
 have h := h.2
 rw [astep_some hp] at h
 obtain ⟨q, h1, h2, h3⟩ := h
 cases q with
 | false => exact h3 rfl
 | true =>
   have h2 := h2 rfl
   unfold swapTB at hs
   simp only [Bool.and_eq_true] at hs
   obtain ⟨y, hy, _⟩ := det_light hs.1.1.1.2 _ ((light_aop hs.1.1.1.1).1 h2)
   exact hy
theorem takeT_ok (hv : listedOK ops anc = true) {p : Nat} : ∀ (n : Nat) (L : Array Bool) (st : St), WfL anc L → freeT E.P ops anc L p = true → p ∈ Region.ready .any ops L →
   AStepT E ops p (AAnyT E ops K n (L.setIfInBounds p true)) st → AAnyT E ops K (n + 1) L st
 | n, L, st, hw, hf, hp, h => by
   refine ⟨fun e => (by rw [e] at hp; simp at hp), fun o ho => ?_⟩
   by_cases hne : o = p
   · subst hne; exact h
   · obtain ⟨x, y, hx, hy, hs⟩ := freeT_swap (E := E) hv hw hf hp ho hne
     have ho' := ready_add ho hne (o := p)
     cases n with
     | zero =>
       exfalso
       have : ∀ st', AAnyT E ops K 0 (L.setIfInBounds p true) st' → False := fun st' h' => by
         have := h'.1
         rw [this] at ho'; simp at ho'
       exact astepT_false hx hs (h.mono (D := fun _ => False) this)
     | succ m =>
       have h2 : AStepT E ops p (AStepT E ops o (AAnyT E ops K m ((L.setIfInBounds p true).setIfInBounds o true))) st := h.mono fun s hs' => hs'.2 o ho'
       have h3 := swapT hx hy hs h2
       refine h3.mono fun s hs' => ?_
       rw [set_comm] at hs'
       exact takeT_ok hv m _ s (hw.add hv ho) (freeT_mono hf) (ready_add hp (fun e => hne e.symm)) hs'
theorem planT_ok (hv : listedOK ops anc = true) : ∀ (x : Plan) (b : Bool) (L : Array Bool) (n : Nat) (st : St), planOKT E.P ops anc b x L n = true → WfL anc L → APlanT E ops K x st →
   (b = true → AAnyT E ops K n L st) ∧ (b = false → ∀ i ∈ x.alts, ∃ m, n = m + 1 ∧ AStepT E ops i (AAnyT E ops K m (L.setIfInBounds i true)) st)
 | .done, b, L, n, st, h, hw, ha => by
   simp only [planOKT, Bool.and_eq_true, List.isEmpty_iff] at h
   refine ⟨fun _ => ?_, fun hb => by rw [hb] at h; simp at h⟩
   cases n with
   | zero => exact ⟨h.2, ha⟩
   | succ n => exact ⟨fun _ => ha, fun i hi => by rw [h.2] at hi; simp at hi⟩
 | .take i p, b, L, n, st, h, hw, ha => by
   simp only [planOKT, Bool.and_eq_true] at h
   refine ⟨fun _ => ?_, fun hb => by rw [hb] at h; simp at h⟩
   cases n with
   | zero => simp at h
   | succ n =>
     simp only [Bool.and_eq_true] at h
     obtain ⟨_, ⟨h1, h2⟩, h3⟩ := h
     have h1 : i ∈ Region.ready .any ops L := by simpa using h1
     refine takeT_ok hv n L st hw h2 h1 ?_
     exact AStepT.mono ha fun s hs => (planT_ok hv p true _ n s h3 (hw.add hv h1) hs).1 rfl
 | .fork p, b, L, n, st, h, hw, ha => by
   simp only [planOKT, Bool.and_eq_true, beq_iff_eq, Bool.not_eq_true', List.isEmpty_eq_false_iff] at h
   obtain ⟨⟨⟨hb, h1⟩, h2⟩, h3⟩ := h
   refine ⟨fun _ => ?_, fun hb' => by rw [hb'] at hb; simp at hb⟩
   have := (planT_ok hv p false L n st h3 hw ha).2 rfl
   obtain ⟨i0, hi0⟩ := List.exists_mem_of_ne_nil _ h2
   obtain ⟨n', rfl, _⟩ := this i0 hi0
   refine ⟨fun e => by rw [h1, e] at hi0; simp at hi0, fun i hi => ?_⟩
   obtain ⟨m, e, hm⟩ := this i (by rw [h1]; exact hi)
   have : m = n' := by omega
   subst this
   exact hm
 | .alt i p rest, b, L, n, st, h, hw, ha => by
   simp only [planOKT, Bool.and_eq_true, Bool.not_eq_true'] at h
   refine ⟨fun hb => by rw [hb] at h; simp at h, fun _ => ?_⟩
   cases n with
   | zero => simp at h
   | succ n =>
     simp only [Bool.and_eq_true] at h
     obtain ⟨_, ⟨h1, h2⟩, h3⟩ := h
     have h1 : i ∈ Region.ready .any ops L := by simpa using h1
     intro j hj
     simp only [Plan.alts, List.mem_cons] at hj
     rcases hj with rfl | hj
     · exact ⟨n, rfl, AStepT.mono ha.1 fun s hs => (planT_ok hv p true _ n s h2 (hw.add hv h1) hs).1 rfl⟩
     · exact (planT_ok hv rest false L (n + 1) st h3 hw ha.2).2 rfl j hj
 | .ends, b, L, n, st, h, hw, ha => by
   simp only [planOKT, Bool.not_eq_true'] at h
   exact ⟨fun hb => by rw [hb] at h; simp at h, fun _ i hi => by simp [Plan.alts] at hi⟩
theorem AWP.regionAnyT {id : Nat} {l : List Oper} {Q : Exit → St → Prop} {st : St} (x : Plan) (anc : List (List Nat)) (ds : List Tmp) (hm : E.P.follows .mixedOrders = true)
   (hx : (listedOK l.toArray anc && planOKT E.P l.toArray anc true x (Array.replicate l.toArray.size false) l.toArray.size) = true) (h : APlanT E l.toArray (Done (Q .normal)) x (st.keep ds)) : AWP E (.region id l.toArray true) Q st := fun w0 im0 cx a w h0 hG r => by
 simp only [Bool.and_eq_true] at hx
 have r' : Rel w0 im0 cx st a w.drew := ⟨r.defers, r.size, r.tmps, r.below.drew, r.imle, r.imold, r.imok, r.ownlen, fun i g k es h1 h2 => let h3 := r.own i g k es h1 h2; ⟨h3.new, h3.im, h3.blk⟩, r.tklen, r.tail, fun t T b h1 h2 => let h3 := r.tok t T b h1 h2; ⟨h3.new, h3.room, h3.im, h3.blk⟩, r.apart, r.glob, r.up, r.hole⟩
 have r2 := r'.reserve ds.length (l := mkRsv ds st.own.length) (fun d i hmem => (mem_mkRsv hmem).2)
 refine wp_region_any hm (aany_sound h0 hG (K := Done (Q .normal)) (fun a' w' hh => ?_) _ _ (st.keep ds) _ a _ r2 ?_)
 · obtain ⟨c', st', r3, hk⟩ := hh
   exact ⟨c', { st' with rsv := none }, ⟨r3.defers, r3.size, r3.tmps, r3.below, r3.imle, r3.imold, r3.imok, r3.ownlen, r3.own, r3.tklen, r3.tail, r3.tok, r3.apart, r3.glob, r3.up, fun l d i e => by cases e⟩, hk⟩
 · refine ((planT_ok hx.1 x true _ _ _ hx.2 ?_ h).1 rfl).drop
   intro m hm
   exfalso
   simp only [Array.getD_eq_getD_getElem?, Array.getElem?_replicate] at hm
   split at hm <;> simp at hm
@[go_sem] theorem apT_done {st : St} : APlanT E ops K .done st = K st := rfl
@[go_sem] theorem apT_take {st : St} {i : Nat} {p : Plan} : APlanT E ops K (.take i p) st = (tokOp st ops[i]? ∧ AList E ops (ops[i]?).toList st (APlanT E ops K p)) := by
 show (_ ∧ AStep E ops i (APlanT E ops K p) st) = _
 rw [astep_list]
@[go_sem] theorem apT_fork {st : St} {p : Plan} : APlanT E ops K (.fork p) st = APlanT E ops K p st := rfl
@[go_sem] theorem apT_alt {st : St} {i : Nat} {p r : Plan} : APlanT E ops K (.alt i p r) st = ((tokOp st ops[i]? ∧ AList E ops (ops[i]?).toList st (APlanT E ops K p)) ∧ APlanT E ops K r st) := by
 show ((_ ∧ AStep E ops i (APlanT E ops K p) st) ∧ _) = _
 rw [astep_list]
@[go_sem] theorem apT_ends {st : St} : APlanT E ops K .ends st = True := rfl
end
attribute [go_sem] tokOp notMu
end Go.Abs
namespace Go.Abs
open Go Go.RowKit
def MuStep (E : Env) (o : Oper) (C : St → Prop) (st : St) : Prop := o.guard = none ∧
 ((∃ t e k n, o.op = .buildSlice t 0 #[] ∧ appInfo E.P t = some (e, k, n) ∧ C (St.put { st with own := st.own ++ [some []] } o.dst (.mu st.own.length k 0 0 0))) ∨
  ∃ t tx x y e k n id xs, o.op = .call ⟨.builtin .append, #[x, y], #[t, tx]⟩ ∧ srcTy E.P tx = true ∧ appInfo E.P t = some (e, k, n) ∧ st.ev x = .mu id k 0 0 0 ∧ ASrc (st.ev y) k = some xs ∧ st.own[id]? = some (some []) ∧ xs.length ≤ 4611686018427387904 ∧ xs.length * n ≤ 140737488355328 ∧
    ∀ m, C (St.put { st with own := st.own.set id none ++ [some (xs ++ spare k m)] } o.dst (.mu st.own.length k 0 xs.length (xs.length + m))))
def AStepM (E : Env) (ops : Array Oper) (ms : List Nat) (i : Nat) (C : St → Prop) (st : St) : Prop := if ms.contains i = true then ∃ o, ops[i]? = some o ∧ MuStep E o C st else tokOp st ops[i]? ∧ AStep E ops i C st
def APlanM (E : Env) (ops : Array Oper) (ms : List Nat) (K : St → Prop) : Plan → St → Prop
 | .done, st => K st
 | .take i p, st => AStepM E ops ms i (APlanM E ops ms K p) st
 | .fork p, st => APlanM E ops ms K p st
 | .alt i p rest, st => AStepM E ops ms i (APlanM E ops ms K p) st ∧ APlanM E ops ms K rest st
 | .ends, _ => True
section
variable {E : Env} {ops : Array Oper} {ms : List Nat} {K : St → Prop} {anc : List (List Nat)}
theorem MuStep.mono {o : Oper} {C D : St → Prop} {st : St} (h : MuStep E o C st) (hk : ∀ s, C s → D s) : MuStep E o D st := by
 obtain ⟨hg, ⟨t, e, k, n, ho, ha, hc⟩ | ⟨t, tx, x, y, e, k, n, id, xs, ho, h1, h2, h3, h4, h5, h6, h7, hc⟩⟩ := h
 · exact ⟨hg, .inl ⟨t, e, k, n, ho, ha, hk _ hc⟩⟩
 · exact ⟨hg, .inr ⟨t, tx, x, y, e, k, n, id, xs, ho, h1, h2, h3, h4, h5, h6, h7, fun m => hk _ (hc m)⟩⟩
theorem AStepM.mono {i : Nat} {C D : St → Prop} {st : St} (hk : AStepM E ops ms i C st) (h : ∀ s, C s → D s) : AStepM E ops ms i D st := by
 unfold AStepM at *
 split
 · rename_i hi; rw [if_pos hi] at hk; obtain ⟨o, h1, h2⟩ := hk; exact ⟨o, h1, h2.mono h⟩
 · rename_i hi; rw [if_neg hi] at hk; exact ⟨hk.1, hk.2.mono h⟩
@[go_sem] theorem apM_done {st : St} : APlanM E ops ms K .done st = K st := rfl
def AMuO (E : Env) (o : Option Oper) (C : St → Prop) (st : St) : Prop := match o with
 | some o => MuStep E o C st
 | none => False
theorem astepM_eq {i : Nat} {C : St → Prop} {st : St} : AStepM E ops ms i C st = if ms.contains i = true then AMuO E (ops[i]?) C st else (tokOp st ops[i]? ∧ AList E ops (ops[i]?).toList st C) := by
 unfold AStepM
 split
 · cases ops[i]? with
   | none => simp [AMuO]
   | some o => simp [AMuO]
 · rw [astep_list]
@[go_sem] theorem apM_take {st : St} {i : Nat} {p : Plan} : APlanM E ops ms K (.take i p) st = if ms.contains i = true then AMuO E (ops[i]?) (APlanM E ops ms K p) st else (tokOp st ops[i]? ∧ AList E ops (ops[i]?).toList st (APlanM E ops ms K p)) := astepM_eq
@[go_sem] theorem apM_fork {st : St} {p : Plan} : APlanM E ops ms K (.fork p) st = APlanM E ops ms K p st := rfl
@[go_sem] theorem apM_alt {st : St} {i : Nat} {p r : Plan} : APlanM E ops ms K (.alt i p r) st = ((if ms.contains i = true then AMuO E (ops[i]?) (APlanM E ops ms K p) st else (tokOp st ops[i]? ∧ AList E ops (ops[i]?).toList st (APlanM E ops ms K p))) ∧ APlanM E ops ms K r st) := by
 show (AStepM E ops ms i (APlanM E ops ms K p) st ∧ _) = _
 rw [astepM_eq]
@[go_sem] theorem apM_ends {st : St} : APlanM E ops ms K .ends st = True := rfl
def AMuTo (x : AV) (k n : Nat) (src : Option (List AV)) (st : St) (C : St → AV → Prop) : Prop := match x with
 | .mu id q off len cap => q = k ∧ off = 0 ∧ len = 0 ∧ cap = 0 ∧ AGet src fun xs => xs.length ≤ 4611686018427387904 ∧ xs.length * n ≤ 140737488355328 ∧ AGet2 st.own[id]? fun l => l = [] ∧
     ∀ m, C { st with own := st.own.set id none ++ [some (xs ++ spare k m)] } (.mu st.own.length k 0 xs.length (xs.length + m))
 | _ => False
@[go_sem] theorem mu_slice {d : Option Tmp} {t ty : TypeId} {pos : String} {after : Array Edge} {C : St → Prop} {st : St} : AMuO E (some ⟨d, .buildSlice t 0 #[], ty, pos, after, none⟩) C st = AGet (appInfo E.P t) fun q => C (St.put { st with own := st.own ++ [some []] } d (.mu st.own.length q.2.1 0 0 0)) := by
 refine propext ⟨?_, ?_⟩
 · rintro ⟨_, ⟨t', e, k, n, ho, ha, hc⟩ | ⟨_, _, _, _, _, _, _, _, _, ho, _⟩⟩
   · cases ho; exact ⟨_, ha, hc⟩
   · cases ho
 · rintro ⟨⟨e, k, n⟩, ha, hc⟩
   exact ⟨rfl, .inl ⟨t, e, k, n, rfl, ha, hc⟩⟩
@[go_sem] theorem mu_app {d : Option Tmp} {t tx ty : TypeId} {x y : Operand} {pos : String} {after : Array Edge} {C : St → Prop} {st : St} : AMuO E (some ⟨d, .call ⟨.builtin .append, #[x, y], #[t, tx]⟩, ty, pos, after, none⟩) C st =
   (srcTy E.P tx = true ∧ AGet (appInfo E.P t) fun q => AMuTo (st.ev x) q.2.1 q.2.2 (ASrc (st.ev y) q.2.1) st fun st' z => C (st'.put d z)) := by
 refine propext ⟨?_, ?_⟩
 · rintro ⟨_, ⟨_, _, _, _, ho, _⟩ | ⟨t', tx', x', y', e, k, n, id, xs, ho, h1, h2, h3, h4, h5, h6, h7, hc⟩⟩
   · cases ho
   · cases ho
     refine ⟨h1, _, h2, ?_⟩
     rw [h3]
     exact ⟨rfl, rfl, rfl, rfl, _, h4, h6, h7, _, h5, rfl, hc⟩
 · rintro ⟨h1, ⟨e, k, n⟩, h2, h3⟩
   unfold AMuTo at h3
   split at h3
   · rename_i id q off len cap hx
     obtain ⟨rfl, rfl, rfl, rfl, xs, h4, h6, h7, l, h5, rfl, hc⟩ := h3
     exact ⟨rfl, .inr ⟨t, tx, x, y, e, _, n, id, xs, rfl, h1, h2, hx, h4, h5, h6, h7, hc⟩⟩
   · exact h3.elim
end
attribute [go_sem] AMuTo
end Go.Abs
namespace Go.Abs
open Go Go.RowKit
structure Cut (p : Prop) : Prop where
 out : p
theorem AWP.cutAt {E : Env} {Q : Exit → St → Prop} {K : St → Prop} {st : St} {x y : Code} {ι : Type} (hv : List Nat) (ps : ι → List (Nat × AV)) (own : ι → List (Option (List AV))) (tk : ι → List Nat) (hK : ∀ s, AWP E y Q s → K s)
   (rest : ∀ i, Cut (AWP E y Q (st.at hv (ps i) (own i) (tk i)))) (h : (∀ i, AWP E y Q (st.at hv (ps i) (own i) (tk i))) → AWP E x (AThen K Q) st) : AWP E x (AThen K Q) st := h fun i => (rest i).out
theorem AWP.cutTo {E : Env} {y : Code} {Q : Exit → St → Prop} {ι : Type} {S : ι → St} (hc : ∀ i, AWP E y Q (S i)) {s : St} (h : AWP E y Q s) : AWP E y Q s := h
end Go.Abs
namespace Go.Abs
open Go Go.RowKit
end Go.Abs
namespace Go.Abs
open Go Go.RowKit
theorem zeroCells_mem {z : Array Value} {n : Nat} (h : z.toList.all (·.oneCell') = true) : ∀ u ∈ (Builtin.zeroCells z n).toList, u.oneCell' = true := by
 intro u hu
 obtain ⟨i, hi, rfl⟩ := List.mem_iff_getElem.1 hu
 have hi2 : i < n * z.size := by simpa [Builtin.zeroCells] using hi
 have hz : 0 < z.size := by
   rcases Nat.eq_zero_or_pos z.size with h0 | h0
   · rw [h0] at hi2; simp at hi2
   · exact h0
 have hlt := Nat.mod_lt i hz
 simp only [Builtin.zeroCells, Array.getElem_toList, Array.getElem_map, Array.getElem_range]
 rw [getElem!_pos z _ hlt]
 exact List.all_eq_true.1 h _ (by simp)
theorem AWPL.clearMu {E : Env} {Q : Exit → St → Prop} {st : St} {ops : Array Oper} {l : List Oper} {t ty : TypeId} {x : Operand} {pos : String} {after : Array Edge} {e : TypeId} {k n id len cap : Nat} {A B : List AV}
   (hai : appInfo E.P t = some (e, k, n)) (hone : (((E.P.info? e).bind (·.zero)).map fun zv => zv.cells.toList.all (·.oneCell')) = some true)
   (hs : st.ev x = .mu id k A.length (len + 1) cap) (ho : st.own[id]? = some (some (A ++ B))) (hlen : len + 1 ≤ B.length)
   (h : AWPL E ops l Q { st with own := st.own.set id (some (A ++ spare k B.length)) }) : AWPL E ops (⟨none, .call ⟨.builtin .clear, #[x], #[t]⟩, ty, pos, after, none⟩ :: l) Q st := by
 intro w0 im0 cx a w h0 hG r
 refine wpList_step (fun K' hK' => ?_)
 have hw : Region.wanted ⟨none, .call ⟨.builtin .clear, #[x], #[t]⟩, ty, pos, after, none⟩ (yielded ops a.tmps) = true := rfl
 rw [if_pos hw]
 obtain ⟨hu, hss, hk0, i, zv, hi, hz, hsize, hbytes, hzs⟩ := appInfo_ok hai
 have hv := r.ev x
 rw [hs] at hv
 rcases hv.inv_mu with ⟨g, hb, hcap, hve⟩ | ⟨hz1, _, _⟩
 rotate_left
 · omega
 have hown := r.own id g k _ hb ho
 obtain ⟨cs, ty', lo, hi', hblk, hfr, hsz, hlv, hcell⟩ := hown.blk
 have hoc : OCells cx k (A ++ B) cs.toList := ⟨hlv, fun i e j x he hx => by obtain ⟨u, h1, h2⟩ := hcell i e j x he hx; exact ⟨u, by simpa using h1, h2⟩⟩
 have hoc1 := hoc.take
 rw [List.length_append] at hsz
 have hesz : A.length * k ≤ cs.size := by rw [Nat.add_mul] at hsz; omega
 have hol : (cs.toList.take (A.length * k)).length = A.length * k := by have hq : cs.toList.length = cs.size := Array.length_toList; rw [List.length_take, hq]; omega
 have hfro : ∀ o, o < cs.toList.length → ¬ (lo ≤ o ∧ o < hi') := fun o h1 h2 => by
   have h1 : o < cs.size := by simpa using h1
   rcases hfr with h | h <;> omega
 have hcs : cs = cs.toList.toArray := by simp
 have hz1 : zv.cells.toList.all (·.oneCell') = true := by
   rw [hi] at hone; simp only [Option.bind_some, hz, Option.map_some, Option.some.injEq] at hone; exact hone
 have hnl : (Builtin.zeroCells zv.cells (len + 1)).toList.length = (len + 1) * k := by rw [Array.length_toList, zeroCells_size, hzs]
 have hmul : (len + 1) * k ≤ B.length * k := Nat.mul_le_mul_right _ hlen
 have hfit2 : A.length * k + 0 + (Builtin.zeroCells zv.cells (len + 1)).toList.length ≤ cs.toList.length := by
   have hq : cs.toList.length = cs.size := Array.length_toList
   rw [hnl, hq, Nat.add_zero]; rw [Nat.add_mul] at hsz; omega
 have hst := run_storePut (P := E.P) g (A.length * k) ty' lo hi' (Builtin.zeroCells zv.cells (len + 1)).toList 0 cs.toList w (by rw [← hcs]; exact hblk) hfro hfit2 (zeroCells_mem hz1)
 rw [Nat.add_zero] at hst
 have hrun : (Builtin.clear_ #[t] ty #[a.eval x]).run E.P w = .ok (.tuple #[]) (w.setRow g (putV cs.toList (A.length * k) (Builtin.zeroCells zv.cells (len + 1)).toList).toArray) := by
   rw [hve]
   have hzr : (zeroValue e).run E.P w = .ok zv w := by simp [zeroValue, typeInfo, hi, hz]
   unfold Builtin.clear_
   simp only [List.getElem?_toArray, List.getElem?_cons_zero, Sem.run_bind, underlying_run hu, Result.andThen_ok, hzr]
   (try simp only [add_none, Nat.zero_add] at hst)
   simp [hst]
 have hcs'len : (putV cs.toList (A.length * k) (Builtin.zeroCells zv.cells (len + 1)).toList).length = cs.size := by rw [putV_length]; simp
 have hOC : OCells cx k (A ++ spare k B.length) (putV cs.toList (A.length * k) (Builtin.zeroCells zv.cells (len + 1)).toList) := by
   have e1 : putV cs.toList (A.length * k) (Builtin.zeroCells zv.cells (len + 1)).toList = cs.toList.take (A.length * k) ++ (putV cs.toList (A.length * k) (Builtin.zeroCells zv.cells (len + 1)).toList).drop (A.length * k) := by
     apply List.ext_getElem?
     intro p
     by_cases hp : p < A.length * k
     · rw [List.getElem?_append_left (by rw [hol]; exact hp), putV_get _ _ _ _ (by simpa using hfit2), if_neg (by omega), List.getElem?_take, if_pos hp]
     · rw [List.getElem?_append_right (by rw [hol]; omega), hol, List.getElem?_drop]; congr 1; omega
   rw [e1]
   exact hoc1.append hol (OCells.spare (by rw [List.length_drop, hcs'len]; rw [Nat.add_mul] at hsz; omega))
 have hset := r.setOwn (w' := w.setRow g (putV cs.toList (A.length * k) (Builtin.zeroCells zv.cells (len + 1)).toList).toArray) (es' := A ++ spare k B.length) hb ho (fun b hne => setRow_other w g b _ hne) (below_setRow r.below hown.new _)
   ⟨(putV cs.toList (A.length * k) (Builtin.zeroCells zv.cells (len + 1)).toList).toArray, ty', lo, hi', setRow_heap w g cs _ ty' (lo, hi') hblk, by
     rcases hfr with h | h
     · exact .inl h
     · exact .inr (by simpa [putV_length] using h), by
     simp only [List.size_toArray, hcs'len, List.length_append, spare_len]; exact hsz, hOC.1, fun i e j x he hx => by
     obtain ⟨u, h1, h2⟩ := hOC.2 i e j x he hx
     exact ⟨u, by simpa using h1, h2⟩⟩
 refine wp_value (w' := _) (v := .tuple #[]) ?_ (hK' _ _ (h w0 im0 _ _ _ h0 hG (hset.put none (.base (.v _)))))
 simp only [execOp, resolve, Sem.run_bind, Sem.run_pure, Result.andThen_ok, invoke, builtin, List.map_toArray, List.map_cons, List.map_nil, hrun]
theorem AWPL.sliceMu {E : Env} {Q : Exit → St → Prop} {st : St} {ops : Array Oper} {rest : List Oper} {dst : Option Tmp} {t ty : TypeId} {x lo : Operand} {pos : String} {after : Array Edge} {e : TypeId} {k id off len cap l : Nat}
   (hu : E.P.underlying t = some (.slice e)) (hsz : tsz E.P e = some k) (hs : st.ev x = .mu id k off len cap) (hl : st.ev lo = i64 (l : Int)) (h1 : l ≤ len) (h2 : l < cap) (h0 : 0 < len)
   (h : AWPL E ops rest Q (st.put dst (.mu id k (off + l) (len - l) (cap - l)))) : AWPL E ops (⟨dst, .slice t x (some lo) none none, ty, pos, after, none⟩ :: rest) Q st := by
 intro w0 im0 cx a w h0' hG r
 refine wpList_step (fun K' hK' => ?_)
 have hw : Region.wanted ⟨dst, .slice t x (some lo) none none, ty, pos, after, none⟩ (yielded ops a.tmps) = true := rfl
 rw [if_pos hw]
 have hv := r.ev x
 rw [hs] at hv
 have hlv := r.ev lo
 rw [hl] at hlv
 have hlo := hlv.inv_v
 rcases hv.inv_mu with ⟨g, hb, hcap, hve⟩ | ⟨hz, _, _⟩
 rotate_left
 · omega
 have hbr := bounds_run (P := E.P) (w := w) (c := cx) (isS := true) (len := len) (cap := cap) (lo := some (i64 (l : Int))) (hi := none) (vl := some (a.eval lo)) (vh := none) (l := (l : Int)) (h := (len : Int))
   (fun y hy => by cases hy; exact ⟨_, rfl, hlv⟩) (fun hy => by cases hy) (fun y hy => by cases hy) (fun _ => rfl) rfl rfl (by omega) (by omega) (by omega) hcap
 have hrun : (Instr.sliceAt t (a.eval x) (some (a.eval lo)) none none).run E.P w = .ok (.slice (some ⟨g, (off + l) * k, none⟩) (len - l) (cap - l)) w := by
   rw [hve]
   simp only [Instr.sliceAt, Sem.run_bind, underlying_run hu, Result.andThen_ok, Instr.slice, hbr, tsz_run hsz, Sem.run_pure]
   have hne : ¬ cap = l := by omega
   simp [hne, Addr.add, Nat.add_mul]
 refine wp_value (w' := w) (v := .slice (some ⟨g, (off + l) * k, none⟩) (len - l) (cap - l)) ?_ (hK' _ _ (h w0 im0 _ _ _ h0' hG (r.put dst (.mu hb (by omega)))))
 simp only [execOp, Option.map_some, Option.map_none, Sem.run_bind, hrun, Result.andThen_ok, Sem.run_pure]
end Go.Abs
end
section
namespace Go.Proofs
open Go.Shelf
def Tryz.lays264_ren : Go.Shelf.Ren := ⟨fun | 264 => 161 | n => n, fun | 53 => 201 | 46 => 205 | n => n, fun | n => n⟩
theorem Tryz.lays264 : Go.Proofs.Lays.n264 Tryz.prog Tryz.lays264_ren := {
 mixed := by kernel_rfl
 f264 := Tryz.func161.trans (congrArg some (by kernel_rfl))
 t46 := Tryz.underlying205
 a46 := Tryz.isAgg205
 z46 := Tryz.sizeOf205
 v46 := Tryz.zeroValue205
 t53 := Tryz.underlying201
 a53 := Tryz.isAgg201
 z53 := Tryz.sizeOf201
 v53 := Tryz.zeroValue201 }
open Go.RowKit Go.Lib in
theorem Tryz.bits_Mul64 (x y : Nat) (hx : x < 18446744073709551616) (hy : y < 18446744073709551616) (w : World) :
   Calls Tryz.prog 161 #[.int .u64 x, .int .u64 y] w fun e w' => e = .returned (.tuple #[.int .u64 ((x * y / 18446744073709551616 : Nat) : Int), .int .u64 ((x * y % 18446744073709551616 : Nat) : Int)]) ∧ w' = w := Any.bits_Mul64 Tryz.lays264 x y hx hy w
def Tryz.sorted98_ren : Go.Shelf.Ren := ⟨fun | 6 => 98 | 8 => 164 | 9 => 103 | 11 => 196 | 13 => 169 | 12 => 168 | 23 => 205 | 24 => 206 | 14 => 197 | 15 => 198 | 16 => 199 | 17 => 200 | 18 => 201 | 19 => 202 | 20 => 166 | 21 => 203 | 22 => 204 | 25 => 228 | 26 => 229 | 27 => 230 | 28 => 231 | 29 => 232 | 30 => 183 | 31 => 254 | n => n, fun | 26 => 9 | 28 => 145 | 24 => 24 | 0 => 0 | 3 => 3 | 37 => 205 | 48 => 53 | 50 => 201 | 4 => 4 | 40 => 226 | 39 => 225 | 45 => 148 | 5 => 5 | 9 => 9 | 51 => 243 | 55 => 247 | 57 => 263 | 58 => 264 | 33 => 195 | n => n, fun | n => n⟩
theorem Tryz.sorted98 : Go.Proofs.SlLaysZ.n6 Tryz.prog Tryz.sorted98_ren := {
 mixed := by kernel_rfl
 f6 := ⟨Tryz.f98.name, by decide, Tryz.func98.trans (congrArg some (by kernel_rfl))⟩
 f8 := ⟨Tryz.f164.name, by decide, Tryz.func164.trans (congrArg some (by kernel_rfl))⟩
 f11 := ⟨Tryz.f196.name, by decide, Tryz.func196.trans (congrArg some (by kernel_rfl))⟩
 t0 := Tryz.underlying0
 a0 := Tryz.isAgg0
 z0 := Tryz.sizeOf0
 v0 := Tryz.zeroValue0
 t24 := Tryz.underlying24
 a24 := Tryz.isAgg24
 z24 := Tryz.sizeOf24
 v24 := Tryz.zeroValue24
 t26 := Tryz.underlying9
 a26 := Tryz.isAgg9
 z26 := Tryz.sizeOf9
 v26 := Tryz.zeroValue9
 t28 := Tryz.underlying145
 a28 := Tryz.isAgg145
 z28 := Tryz.sizeOf145
 v28 := Tryz.zeroValue145
 i26 := by kernel_rfl }
def Tryz.sort50_ren : Go.Shelf.Ren := ⟨fun | 6 => 103 | 8 => 169 | 9 => 168 | 19 => 205 | 20 => 206 | 21 => 197 | 22 => 198 | 23 => 199 | 24 => 200 | 25 => 201 | 26 => 202 | 27 => 166 | 28 => 203 | 29 => 204 | 36 => 228 | 31 => 229 | 32 => 230 | 37 => 231 | 38 => 232 | 39 => 183 | 41 => 254 | n => n, fun | 27 => 24 | 29 => 9 | 3 => 3 | 32 => 205 | 26 => 24 | 0 => 0 | 44 => 53 | 46 => 201 | 4 => 4 | 36 => 226 | 35 => 225 | 41 => 148 | 5 => 5 | 9 => 9 | 53 => 243 | 57 => 247 | 63 => 263 | 64 => 264 | n => n, fun | n => n⟩
theorem Tryz.sort50 : Go.Proofs.SlLaysM.n6 Tryz.prog Tryz.sort50_ren := {
 mixed := by kernel_rfl
 f6 := ⟨Tryz.f103.name, by decide, Tryz.func103.trans (congrArg some (by kernel_rfl))⟩
 f8 := Tryz.func169.trans (congrArg some (by kernel_rfl))
 f9 := ⟨Tryz.f168.name, by decide, Tryz.func168.trans (congrArg some (by kernel_rfl))⟩
 f19 := Tryz.func205.trans (congrArg some (by kernel_rfl))
 f20 := Tryz.func206.trans (congrArg some (by kernel_rfl))
 f21 := ⟨Tryz.f197.name, by decide, Tryz.func197.trans (congrArg some (by kernel_rfl))⟩
 f22 := ⟨Tryz.f198.name, by decide, Tryz.func198.trans (congrArg some (by kernel_rfl))⟩
 f23 := ⟨Tryz.f199.name, by decide, Tryz.func199.trans (congrArg some (by kernel_rfl))⟩
 f24 := ⟨Tryz.f200.name, by decide, Tryz.func200.trans (congrArg some (by kernel_rfl))⟩
 f25 := ⟨Tryz.f201.name, by decide, Tryz.func201.trans (congrArg some (by kernel_rfl))⟩
 f26 := ⟨Tryz.f202.name, by decide, Tryz.func202.trans (congrArg some (by kernel_rfl))⟩
 f27 := ⟨Tryz.f166.name, by decide, Tryz.func166.trans (congrArg some (by kernel_rfl))⟩
 f28 := ⟨Tryz.f203.name, by decide, Tryz.func203.trans (congrArg some (by kernel_rfl))⟩
 f29 := ⟨Tryz.f204.name, by decide, Tryz.func204.trans (congrArg some (by kernel_rfl))⟩
 f31 := Tryz.func229.trans (congrArg some (by kernel_rfl))
 f32 := Tryz.func230.trans (congrArg some (by kernel_rfl))
 f36 := ⟨Tryz.f228.name, by decide, Tryz.func228.trans (congrArg some (by kernel_rfl))⟩
 f37 := ⟨Tryz.f231.name, by decide, Tryz.func231.trans (congrArg some (by kernel_rfl))⟩
 f38 := ⟨Tryz.f232.name, by decide, Tryz.func232.trans (congrArg some (by kernel_rfl))⟩
 f39 := ⟨Tryz.f183.name, by decide, Tryz.func183.trans (congrArg some (by kernel_rfl))⟩
 f41 := ⟨Tryz.f254.name, by decide, Tryz.func254.trans (congrArg some (by kernel_rfl))⟩
 t0 := Tryz.underlying0
 a0 := Tryz.isAgg0
 z0 := Tryz.sizeOf0
 v0 := Tryz.zeroValue0
 t3 := Tryz.underlying3
 a3 := Tryz.isAgg3
 z3 := Tryz.sizeOf3
 v3 := Tryz.zeroValue3
 t4 := Tryz.underlying4
 a4 := Tryz.isAgg4
 z4 := Tryz.sizeOf4
 v4 := Tryz.zeroValue4
 t5 := Tryz.underlying5
 a5 := Tryz.isAgg5
 z5 := Tryz.sizeOf5
 v5 := Tryz.zeroValue5
 t9 := Tryz.underlying9
 a9 := Tryz.isAgg9
 z9 := Tryz.sizeOf9
 v9 := Tryz.zeroValue9
 t26 := Tryz.underlying24
 a26 := Tryz.isAgg24
 z26 := Tryz.sizeOf24
 v26 := Tryz.zeroValue24
 t27 := Tryz.underlying24
 a27 := Tryz.isAgg24
 z27 := Tryz.sizeOf24
 v27 := Tryz.zeroValue24
 t29 := Tryz.underlying9
 a29 := Tryz.isAgg9
 z29 := Tryz.sizeOf9
 v29 := Tryz.zeroValue9
 t32 := Tryz.underlying205
 a32 := Tryz.isAgg205
 z32 := Tryz.sizeOf205
 v32 := Tryz.zeroValue205
 t35 := Tryz.underlying225
 a35 := Tryz.isAgg225
 z35 := Tryz.sizeOf225
 v35 := Tryz.zeroValue225
 t36 := Tryz.underlying226
 a36 := Tryz.isAgg226
 z36 := Tryz.sizeOf226
 v36 := Tryz.zeroValue226
 t41 := Tryz.underlying148
 a41 := Tryz.isAgg148
 z41 := Tryz.sizeOf148
 v41 := Tryz.zeroValue148
 t44 := Tryz.underlying53
 a44 := Tryz.isAgg53
 z44 := Tryz.sizeOf53
 v44 := Tryz.zeroValue53
 t46 := Tryz.underlying201
 a46 := Tryz.isAgg201
 z46 := Tryz.sizeOf201
 v46 := Tryz.zeroValue201
 t53 := Tryz.underlying243
 a53 := Tryz.isAgg243
 z53 := Tryz.sizeOf243
 v53 := Tryz.zeroValue243
 t57 := Tryz.underlying247
 a57 := Tryz.isAgg247
 z57 := Tryz.sizeOf247
 v57 := Tryz.zeroValue247
 t63 := Tryz.underlying263
 a63 := Tryz.isAgg263
 z63 := Tryz.sizeOf263
 v63 := Tryz.zeroValue263
 t64 := Tryz.underlying264
 a64 := Tryz.isAgg264
 z64 := Tryz.sizeOf264
 v64 := Tryz.zeroValue264 }
end Go.Proofs
end
section
namespace Go.Proofs.YtajeeghgiilhiaaGreat
open Go Go.Abs Go.RowKit Go.Bk
theorem tup2_0 {im : Im} (a b : Value) : VR0 im (.tup [.v a, .v b]) (.tuple #[a, b]) := .tup [_, _] [_, _] rfl (fun i c u h1 h2 => by
 match i with
 | 0 => simp at h1 h2; subst h1; subst h2; exact .v _
 | 1 => simp at h1 h2; subst h1; subst h2; exact .v _
 | i + 2 => simp at h1)
theorem mul64_c (x y : Nat) (hx : x < 18446744073709551616) (hy : y < 18446744073709551616) : ACalls E 161 [.v (.int .u64 x), .v (.int .u64 y)] (fun r t => r = .tup [.v (.int .u64 ((x * y / 18446744073709551616 : Nat) : Int)), .v (.int .u64 ((x * y % 18446744073709551616 : Nat) : Int))] ∧ t = []) :=
 ACalls.of_pure (E := E) (f := 161) (xs := [.int .u64 x, .int .u64 y]) (S := fun v => v = .tuple #[.int .u64 ((x * y / 18446744073709551616 : Nat) : Int), .int .u64 ((x * y % 18446744073709551616 : Nat) : Int)])
   (fun w _ => (Tryz.bits_Mul64 x y hx hy w).mono (by rintro e w' ⟨rfl, rfl⟩; exact ⟨⟨_, rfl, rfl⟩, rfl⟩))
   (by rintro v rfl; exact ⟨_, fun _ => tup2_0 _ _, rfl, rfl⟩)
section
variable {a b : Int}
theorem mul_no1 (h : numB a = false) : mulF a b = (0, false) := by unfold mulF; simp [h]
theorem mul_no2 (h : numB b = false) : mulF a b = (0, false) := by unfold mulF; simp [h]
theorem mul_abs : (a * b).natAbs = a.natAbs * b.natAbs := Int.natAbs_mul a b
theorem mul_no3 (h : ¬ ((a.natAbs * b.natAbs / 18446744073709551616 : Nat) : Int) = 0 ∨ (4611686018427387904 : Int) < ((a.natAbs * b.natAbs % 18446744073709551616 : Nat) : Int)) : mulF a b = (0, false) := by
 have hm : numB (a * b) = false := by
   rw [numB_no]; rw [← mul_abs] at h; omega
 unfold mulF; simp [hm]
theorem mul_cast : ((a.natAbs * b.natAbs : Nat) : Int) = (a.natAbs : Int) * (b.natAbs : Int) := Int.natCast_mul _ _
theorem mul_neg (c : ¬ decide (a < 0) = decide (b < 0)) : a * b = -((a.natAbs * b.natAbs : Nat) : Int) := by
 rw [mul_cast]
 by_cases h1 : a < 0 <;> by_cases h2 : b < 0
 · simp [h1, h2] at c
 · rw [show (a.natAbs : Int) = -a by omega, show (b.natAbs : Int) = b by omega, Int.neg_mul, Int.neg_neg]
 · rw [show (a.natAbs : Int) = a by omega, show (b.natAbs : Int) = -b by omega, Int.mul_neg, Int.neg_neg]
 · simp [h1, h2] at c
theorem mul_pos' (c : decide (a < 0) = decide (b < 0)) : a * b = ((a.natAbs * b.natAbs : Nat) : Int) := by
 rw [mul_cast]
 by_cases h1 : a < 0 <;> by_cases h2 : b < 0
 · rw [show (a.natAbs : Int) = -a by omega, show (b.natAbs : Int) = -b by omega, Int.neg_mul, Int.mul_neg, Int.neg_neg]
 · simp [h1, h2] at c
 · simp [h1, h2] at c
 · rw [show (a.natAbs : Int) = a by omega, show (b.natAbs : Int) = b by omega]
variable (ha : numB a = true) (hb : numB b = true) (h : ((a.natAbs * b.natAbs / 18446744073709551616 : Nat) : Int) = 0) (h2 : ¬ (4611686018427387904 : Int) < ((a.natAbs * b.natAbs % 18446744073709551616 : Nat) : Int))
include ha hb h h2
theorem mul_fin : mulF a b = (a * b, true) := by
 have : numB (a * b) = true := by
   rw [numB_iff]; rw [← mul_abs] at h h2; omega
 unfold mulF; rw [ha, hb, this]; rfl
theorem mul_y1 (c : ¬ decide (a < 0) = decide (b < 0)) : IntKind.i64.wrap (0 - IntKind.i64.wrap ((a.natAbs * b.natAbs % 18446744073709551616 : Nat) : Int)) = (mulF a b).1 := by
 rw [mul_fin ha hb h h2, mul_neg c]
 generalize a.natAbs * b.natAbs = p at *
 rw [wrap64_id (x := ((p % 18446744073709551616 : Nat) : Int)) (by omega) (by omega), wrap64_id (by omega) (by omega)]; simp only []; omega
theorem mul_y2 (c : decide (a < 0) = decide (b < 0)) : IntKind.i64.wrap ((a.natAbs * b.natAbs % 18446744073709551616 : Nat) : Int) = (mulF a b).1 := by
 rw [mul_fin ha hb h h2, mul_pos' c]
 generalize a.natAbs * b.natAbs = p at *
 rw [wrap64_id (by omega) (by omega)]; simp only []; omega
end
section
variable {l : List Int} {i : Nat} (hl : l.length ≤ 1000000) (hi : ¬ (i : Int) < l.length) (hi2 : i ≤ l.length) (ha : (l.take i).all numB = true)
include hl hi ha
end
set_option maxHeartbeats 4000000 in
set_option maxRecDepth 8000 in
theorem numr_c (n : Int) : ACalls E 105 [i64 n] (fun r t => r = bl (numB n) ∧ t = []) := by
 refine ACalls.of_awp (n := 9) (rs := [.tmp 2]) Tryz.func105 rfl Tryz.ntmps105 rfl ?_
 repeat' (first
 | refine AWP.seqk fun K hK => ?_
 | (refine AWP.region ?_; simp only [go_sem])
 | (refine hK _ ?_; clear hK K)
 | (refine AGuard.split (fun h => ?_) (fun h => ?_) <;> simp only [h, go_sem] <;> (try simp only [dD] at h))
 | (
  refine AWP.ret ?_
  refine AEnd.is ?_; simp only [go_sem, out_v, out_s, out_n, v_int, v_bool, v_str] <;> (simp [numB, *] <;> omega))
 | fail)
set_option maxHeartbeats 4000000 in
set_option maxRecDepth 8000 in
theorem nsize_c (n : Int) (h : numB n = true) : ACalls E 162 [i64 n] (fun r t => r = .v (.int .u64 (n.natAbs : Int)) ∧ t = []) := by
 have hb := numB_iff.1 h
 refine ACalls.of_awp (n := 9) (rs := [.tmp 2]) Tryz.func162 rfl Tryz.ntmps162 rfl ?_
 repeat' (first
 | refine AWP.seqk fun K hK => ?_
 | (refine AWP.region ?_; simp only [go_sem])
 | (refine hK _ ?_; clear hK K)
 | refine AWP.cond rfl (fun c => ?_) (fun c => ?_) <;> first | (try simp only [dD] at c)
 | refine AWP.skip ?_
 | (
  refine AWP.ret ?_
  refine AEnd.is ?_; simp only [go_sem, out_v, out_s, out_n, v_int, v_bool, v_str] <;> (first | (rw [u64_wrap]; unfold M64; rw [wrap64_id (by omega) (by omega)]; omega) | (rw [u64_wrap]; unfold M64; omega) | fail))
 | fail)
set_option maxHeartbeats 4000000 in
set_option maxRecDepth 8000 in
theorem nmul_c (a b : Int) : ACalls E 95 [i64 a, i64 b] (fun r t => r = .tup [i64 (mulF a b).1, bl (mulF a b).2] ∧ t = []) := by
 refine ACalls.of_awp (n := 41) (rs := [.tmp 4, .tmp 5]) Tryz.func95 rfl Tryz.ntmps95 rfl ?_
 repeat' (first
 | refine AWP.seqk fun K hK => ?_
 | (refine AWP.region ?_; simp only [go_sem])
 | (refine hK _ ?_; clear hK K)
 | refine AWP.cond rfl (fun c => ?_) (fun c => ?_) <;> first | exact Bool.noConfusion c | (try simp only [dD] at c)
 | refine AWP.skip ?_
 | (refine ACall.one (numr_c _) (by kernel_rfl) rfl ?_; simp only [go_sem])
 | (refine ACall.one (nsize_c _ (by assumption)) (by kernel_rfl) rfl ?_; simp only [go_sem])
 | (have ha := numB_iff.1 (show numB a = true by assumption); have hb := numB_iff.1 (show numB b = true by assumption); refine ACall.one (mul64_c a.natAbs b.natAbs (by omega) (by omega)) (by kernel_rfl) rfl ?_; simp only [go_sem])
 | (refine AGuard.split (fun h => ?_) (fun h => ?_) <;> simp only [h, go_sem] <;> (try simp only [dD] at h))
 | (
  refine AWP.ret ?_
  refine AEnd.is ?_; simp only [go_sem, out_v, out_s, out_n, v_int, v_bool, v_str] <;> (first
  | (rw [mul_no1 (by assumption)]; simp; done)
  | (rw [mul_no2 (by assumption)]; simp; done)
  | (rw [mul_no3 (.inl (by assumption))]; simp; done)
  | (rw [mul_no3 (.inr (by assumption))]; simp; done)
  | (rw [mul_y1 (by assumption) (by assumption) (by assumption) (by assumption) (by assumption), mul_fin (by assumption) (by assumption) (by assumption) (by assumption)]; simp; done)
  | (rw [mul_y2 (by assumption) (by assumption) (by assumption) (by assumption) (by assumption), mul_fin (by assumption) (by assumption) (by assumption) (by assumption)]; simp; done)
  | fail))
 | fail)
end Go.Proofs.YtajeeghgiilhiaaGreat
end
section
namespace Go.Proofs
open Go.RowKit Go.Maps Go.Sort Go.Shelf
variable {P : Program} {ρ : Ren}
def SeqB {α : Type} (F : Fence) (n : Nat) (P : Program) (g : Nat) (lb : Array Value) (enc : α → Value) (S : List α → Prop) (N : Nat) (w : World) : Prop :=
 ∀ (l : Nat) (J : List α → World → Prop) (W : World), Below w.heap.size w W → AbidesFrom W.heap.size J → (∀ pre W1, J pre W1 → Below w.heap.size w W1) →
   (∀ pre x W1, J pre W1 → pre.length < N → YieldAt F (n - 1) P l #[enc x] W1 fun e W' => e = .returned (.bool true) ∧ J (pre ++ [x]) W' ∧ KeepsWalks W1 W') →
   J [] W → CallsIn F n P g (#[.func (.yield l) #[] #[]] ++ lb) W fun e W' => (∃ v, e = .returned v) ∧ ∃ xs, S xs ∧ J xs W'
theorem SeqB.upto {α : Type} {F : Fence} {n : Nat} {P : Program} {g : Nat} {lb : Array Value} {enc : α → Value} {S : List α → Prop} {N : Nat} {w : World}
   (h : SeqB F n P g lb enc S N w) : SeqB F n P g lb enc (fun xs => S xs ∧ xs.length ≤ N) N w := fun l J W hW hJ hB hY h0 => by
 refine (h l (fun xs W' => J xs W' ∧ xs.length ≤ N) W hW (fun s A B row hs hg hr => ⟨hJ s A B row hs.1 hg hr, hs.2⟩) (fun pre W1 hj => hB pre W1 hj.1)
   (fun pre x W1 hj hl => (hY pre x W1 hj.1 hl).mono (fun e w' hr => ⟨hr.1, ⟨hr.2.1, by simp; omega⟩, hr.2.2⟩)) ⟨h0, Nat.zero_le _⟩).mono ?_
 rintro e W' ⟨hv, xs, hS, hJ', hlen⟩
 exact ⟨hv, xs, ⟨hS, hlen⟩, hJ'⟩
set_option maxRecDepth 100000 in
set_option maxHeartbeats 2000000 in
theorem Sq.appendSeq_b (L : SlLaysZ.n11 P ρ) (F : Fence) (n : Nat) (h11 : F.fn (ρ.f 11)) (hro : F.round = none) (hn : 2 ≤ n) (g : Nat) (lb : Array Value) (hFg : F.fn g) (eg : ∀ args w, (callFunc g args).run P w = .ok (.enter g args) w)
   (S : List (List UInt8) → Prop) (N : Nat) (hN : N ≤ maxLen) (hNb : N * 16 ≤ 140737488355328) (w : World) (hseq : SeqB F (n - 1) P g lb encStr S N w) :
   CallsIn F n P (ρ.f 11) #[.slice none 0 0, .func (.func g) #[] lb] w fun e w' => ∃ (v : Value) (ss : List (List UInt8)), e = .returned v ∧ S ss ∧ w'.ownsRow w.heap.size (ρ.t 26) 1 v ss.length (ss.map encStr) ∧ (v = .slice none 0 0 ↔ ss = []) ∧ Below w.heap.size w w' := by
 have h1 : 1 ≤ n := by omega
 have mixed := L.mixed; have t0 := L.t0; have a0 := L.a0; have z0 := L.z0; have v0 := L.v0; have t24 := L.t24; have a24 := L.a24; have z24 := L.z24; have v24 := L.v24; have t26 := L.t26; have a26 := L.a26; have z26 := L.z26; have v26 := L.v26; have t28 := L.t28; have a28 := L.a28; have z28 := L.z28; have v28 := L.v28
 have hne : ρ.t 24 ≠ ρ.t 26 := fun e => by have h := L.t24; rw [e, L.t26] at h; cases h
 have u0 := run_underlying L.t0; have u24 := run_underlying L.t24; have u26 := run_underlying L.t26; have u28 := run_underlying L.t28
 obtain ⟨_, _, FG⟩ := L.f11
 refine callsIn_of_wp_marks FG rfl h11 ?_ hro
 simp only [SlBodyZ.n11_ntmps ρ, List.size_toArray, List.length_cons, List.length_nil, Nat.reduceAdd, Nat.reduceSub, Array.replicate_succ, Array.replicate_zero, List.push_toArray, List.append_toArray, List.nil_append, List.cons_append]
 gi_wp2
 refine wpIn_rangeFunc ?_
 intro fn hfn
 rw [hro]
 obtain ⟨W0, hW0⟩ : ∃ W0, w.alloc (.cells #[.slice none 0 0] (ρ.t 24)) = W0 := ⟨_, rfl⟩
 have hs0 : W0.heap.size = w.heap.size + 1 := by rw [← hW0]; simp
 have hv0 : W0.heap[w.heap.size]? = some (.cells #[.slice none 0 0] (ρ.t 24) (0, 0)) := by rw [← hW0]; exact World.alloc_heap_new w _
 have hb0 : Below w.heap.size w W0 := by rw [← hW0]; exact (Below.refl _ w).alloc (Nat.le_refl _) _
 rw [hW0]
 obtain ⟨W1, hW1⟩ : ∃ W1, (W0.alloc (.deferred (some []))).alloc (.loop (AnyZ.apRec ρ fn (.func (.func g) #[] lb) w.heap.size W0.heap.size .ready none)) = W1 := ⟨_, rfl⟩
 have hold : ∀ k, k < W0.heap.size → W1.heap[k]? = W0.heap[k]? := fun k hk => by
   rw [← hW1]; exact (Below.heap_alloc _ _ k (by simp; omega)).trans (Below.heap_alloc _ _ k hk)
 have hb1 : Below w.heap.size w W1 := by rw [← hW1]; exact (hb0.alloc hb0.size _).alloc (by have := hb0.size; simp; omega) _
 have hs1 : W1.heap.size = W0.heap.size + 2 := by rw [← hW1]; simp
 have hM : AnyZ.ApAt ρ w fn (.func (.func g) #[] lb) w.heap.size (W0.heap.size + 1) W0.heap.size [] W1 :=
   ⟨⟨_, (hold w.heap.size (by omega)).trans hv0, ⟨rfl, .inl ⟨rfl, rfl⟩⟩, by simp⟩,
    by rw [← hW1]; have := World.alloc_heap_new (W0.alloc (.deferred (some []))) (.loop (AnyZ.apRec ρ fn (.func (.func g) #[] lb) w.heap.size W0.heap.size .ready none)); rwa [World.size_alloc] at this,
    by rw [← hW1]; exact (Below.heap_alloc _ _ _ (by simp)).trans (World.alloc_heap_new W0 _), hb1⟩
 refine ⟨W0.heap.size + 1, [{ target := .collected W0.heap.size, args := #[] }], W1, { target := .fn (.func g) lb, args := #[.func (.yield (W0.heap.size + 1)) #[] #[]] }, W1, g,
   #[.func (.yield (W0.heap.size + 1)) #[] #[]] ++ lb, W1, ?_, ?_, ?_, ?_, fun _ => h1, ?_⟩
 · rw [← hW1]; exact run_enterLoop_outer _ _ _ _ _
 · simp [resolve, go_sem]
 · intro f' hf'; simp [Target.leads] at hf'; subst hf'; exact hFg
 · simp [invoke, go_sem, eg]
 · refine (hseq (W0.heap.size + 1) (AnyZ.ApAt ρ w fn (.func (.func g) #[] lb) w.heap.size (W0.heap.size + 1) W0.heap.size) W1 hb1 (AnyZ.ap_abides ρ _ _ _ _ _ _ _ hb1.size) (fun pre W hJ => hJ.below)
     (fun pre x W hJ hl => AnyZ.apYield { L with } F (n - 1 - 1) w fn hfn _ w.heap.size (W0.heap.size + 1) W0.heap.size (by omega) (by omega) (by omega) (Nat.le_refl _) (by omega) N hN hNb pre x W hJ hl) hM).mono ?_
   rintro e W2 ⟨⟨v0, rfl⟩, ss, hS, h2⟩
   obtain ⟨v, hv, hrow, hnil⟩ := h2.box
   have hend := run_endLoop (P := P) h2.L (by simp [AnyZ.apRec])
   obtain ⟨W3, hW3⟩ : ∃ W3, W2.putObj (W0.heap.size + 1) (.loop { AnyZ.apRec ρ fn (.func (.func g) #[] lb) w.heap.size W0.heap.size .ready none with state := .exhausted }) = W3 := ⟨_, rfl⟩
   rw [hW3] at hend
   have hg3 : W2.grownBy W3 (some (W0.heap.size + 1)) := by rw [← hW3]; exact grownBy_putObj_a _ _ _
   have hv3 : W3.heap[w.heap.size]? = some (.cells #[v] (ρ.t 24) (0, 0)) := by rw [← hW3]; exact (World.putObj_heap_other (by omega)).trans hv
   have hK3 : W3.heap[W0.heap.size]? = some (.deferred (some [])) := by rw [← hW3]; exact (World.putObj_heap_other (by omega)).trans h2.K
   have hrow3 := hrow.kept hg3 (ownsRow_ne_a hrow h2.L (fun cur e => by first | cases e | exact hne (Obj.cells.inj e).2.1))
   have hb3 : Below w.heap.size w W3 := h2.below.grown hg3 h2.below.size (fun k e => by cases e; omega)
   obtain ⟨hc3, hf3⟩ := cell_of_box_a hv3
   clear hW3
   refine ⟨none, W3, hend, ?_⟩
   gi_wp2
   rw [← hs0]
   refine ⟨by simp, .inl ⟨_, _, rfl, run_takeDeferred hK3, ?_⟩⟩
   exact ⟨_, results_tmp rfl _ _ _, v, ss, rfl, hS, hrow3.kept (grownBy_putObj_a _ _ _) (ownsRow_ne_a hrow3 hK3 (fun cur e => by first | cases e | exact hne (Obj.cells.inj e).2.1)), hnil, hb3.grown (grownBy_putObj_a _ _ _) hb3.size (fun k e => by cases e; omega)⟩
set_option maxHeartbeats 1000000 in
theorem Sq.collect_b (L : SlLaysZ.n8 P ρ) (F : Fence) (n : Nat) (h8 : F.fn (ρ.f 8)) (h11 : F.fn (ρ.f 11)) (hro : F.round = none) (hn : 3 ≤ n) (g : Nat) (lb : Array Value) (hFg : F.fn g) (eg : ∀ args w, (callFunc g args).run P w = .ok (.enter g args) w)
   (S : List (List UInt8) → Prop) (N : Nat) (hN : N ≤ maxLen) (hNb : N * 16 ≤ 140737488355328) (w : World) (hseq : SeqB F (n - 1 - 1) P g lb encStr S N w) :
   CallsIn F n P (ρ.f 8) #[.func (.func g) #[] lb] w fun e w' => ∃ (v : Value) (ss : List (List UInt8)), e = .returned v ∧ S ss ∧ w'.ownsRow w.heap.size (ρ.t 26) 1 v ss.length (ss.map encStr) ∧ (v = .slice none 0 0 ↔ ss = []) ∧ Below w.heap.size w w' := by
 have h1 : 1 ≤ n := by omega
 have e11 : ∀ args w, (callFunc (ρ.f 11) args).run P w = .ok (.enter (ρ.f 11) args) w := L.f11.enters rfl
 have mixed := L.mixed; have t0 := L.t0; have a0 := L.a0; have z0 := L.z0; have v0 := L.v0; have t24 := L.t24; have a24 := L.a24; have z24 := L.z24; have v24 := L.v24; have t26 := L.t26; have a26 := L.a26; have z26 := L.z26; have v26 := L.v26; have t28 := L.t28; have a28 := L.a28; have z28 := L.z28; have v28 := L.v28
 have u0 := run_underlying L.t0; have u24 := run_underlying L.t24; have u26 := run_underlying L.t26; have u28 := run_underlying L.t28
 obtain ⟨_, _, FG⟩ := L.f8
 refine callsIn_of_wp FG rfl h8 ?_ hro
 simp only [SlBodyZ.n8_ntmps ρ, List.size_toArray, List.length_cons, List.length_nil, Nat.reduceAdd, Nat.reduceSub, Array.replicate_succ, Array.replicate_zero, List.push_toArray, List.append_toArray, List.nil_append, List.cons_append]
 gi_wp2_with (gi_at_fn (ρ.f 11); refine (Sq.appendSeq_b { L with } F (n - 1) h11 hro (by omega) g lb hFg eg S N hN hNb _ hseq).mono ?_; rintro e w' ⟨v, ss, rfl, hS, hrow, hnil, hb⟩)
 go_ret
 exact ⟨v, ss, rfl, hS, hrow, hnil, hb⟩
set_option maxRecDepth 100000 in
set_option maxHeartbeats 2000000 in
theorem Sq.sorted_b (L : SlLaysZ.n6 P ρ) (F : Fence) (n : Nat) (h6 : F.fn (ρ.f 6)) (h8 : F.fn (ρ.f 8)) (h9 : F.fn (ρ.f 9)) (h11 : F.fn (ρ.f 11)) (hro : F.round = none) (hn : 4 ≤ n) (hsort : AnyZ.SortsIn P ρ F (n - 1)) (e9 : ∀ args w, (callFunc (ρ.f 9) args).run P w = .ok (.enter (ρ.f 9) args) w) (g : Nat) (lb : Array Value) (hFg : F.fn g) (eg : ∀ args w, (callFunc g args).run P w = .ok (.enter g args) w)
   (S : List (List UInt8) → Prop) (N : Nat) (hN : N ≤ maxLen) (hNb : N * 16 ≤ 140737488355328) (w : World) (hseq : SeqB F (n - 1 - 1 - 1) P g lb encStr S N w) :
   CallsIn F n P (ρ.f 6) #[.func (.func g) #[] lb] w fun e w' => ∃ (v : Value) (ss : List (List UInt8)), e = .returned v ∧ S ss ∧
     w'.ownsRow w.heap.size (ρ.t 26) 1 v ss.length ((ss.mergeSort (fun x y => decide (x ≤ y))).map encStr) ∧ (v = .slice none 0 0 ↔ ss = []) ∧ Below w.heap.size w w' := by
 have h1 : 1 ≤ n := by omega
 have e8 : ∀ args w, (callFunc (ρ.f 8) args).run P w = .ok (.enter (ρ.f 8) args) w := L.f8.enters rfl
 have mixed := L.mixed; have t0 := L.t0; have a0 := L.a0; have z0 := L.z0; have v0 := L.v0; have t24 := L.t24; have a24 := L.a24; have z24 := L.z24; have v24 := L.v24; have t26 := L.t26; have a26 := L.a26; have z26 := L.z26; have v26 := L.v26; have t28 := L.t28; have a28 := L.a28; have z28 := L.z28; have v28 := L.v28
 have u0 := run_underlying L.t0; have u24 := run_underlying L.t24; have u26 := run_underlying L.t26; have u28 := run_underlying L.t28
 obtain ⟨_, _, FG⟩ := L.f6
 refine callsIn_of_wp FG rfl h6 ?_ hro
 simp only [SlBodyZ.n6_ntmps ρ, List.size_toArray, List.length_cons, List.length_nil, Nat.reduceAdd, Nat.reduceSub, Array.replicate_succ, Array.replicate_zero, List.push_toArray, List.append_toArray, List.nil_append, List.cons_append]
 gi_wp2_with (gi_at_fn (ρ.f 8); refine (Sq.collect_b { L with } F (n - 1) h8 h11 hro (by omega) g lb hFg eg _ N hN hNb _ hseq.upto).mono ?_; rintro e W ⟨v, ss, rfl, ⟨hS, hlen⟩, hrow, hnil, hb⟩)
 rcases hrow.2 with ⟨rfl, hz⟩ | ⟨gb, cap, cur, rfl, hbase, hgb, r1, r2, r3, r4⟩
 ·
   have hss : ss = [] := List.eq_nil_of_length_eq_zero hz
   subst hss
   gi_wp2_with (gi_at_fn (ρ.f 9); refine (hsort.2 none 0 W).mono ?_; rintro e w' ⟨rfl, rfl⟩)
   go_ret
   exact ⟨.slice none 0 0, [], rfl, hS, by simpa using hrow, by simp, hb⟩
 · have hH : Holds encStr W gb 0 ss.toArray := holds_of_block hgb (by simpa using r4)
   have hgl : gb < W.heap.size := (Array.getElem?_eq_some_iff.1 hgb).1
   have hsz : ss.length < 4611686018427387904 := by omega
   have cS := hsort.1 gb 0 cap ss W hH hgl hsz
   gi_wp2_with (gi_at_fn (ρ.f 9); refine cS.mono ?_; rintro e w' ⟨rfl, nn, os, rfl⟩)
   go_ret
   exact ⟨_, ss, rfl, hS, ownsRow_sorted (by simp) hbase hgb r1 r2 r3, hnil, hb.grown (grownBy_sorted _) hb.size (fun j hj => by cases hj; exact hbase)⟩
end Go.Proofs
namespace Go.Abs
open Go Go.RowKit Go.Sort Go.Proofs Go.Maps
theorem Rel.start {w : World} {im : Im} (E : Env) (hG : GOK E im) (hok : ∀ (b o : Nat) (x : Value), im b o = some x → w.cell? ⟨b, o, none⟩ = some x) :
   Rel w ⟨im, [], E.dr⟩ ⟨[], [], im⟩ ⟨[], [], [], E.gl, none, []⟩ { tmps := #[], defers := [] } w :=
 ⟨⟨rfl, fun b o hb => by
     cases h : im b o with
     | none => exact h
     | some x => exact absurd (World.block_lt_of_cell? w ⟨b, o, none⟩ (hok b o x h)) (Nat.not_lt.2 hb)⟩, rfl, by simp, Below.refl _ _, .refl _, fun _ _ _ => rfl, hok, rfl, by simp, rfl, by simp, by simp, ⟨by simp, by simp, by simp⟩, fun g cs h => hG g cs h, ⟨rfl, by simp⟩, fun l d i h => by simp at h⟩
theorem ACalls.of_rel {E : Env} {f : FuncId} {args : List AV} {R : AV → List Nat → Prop}
   (h : ∀ (w : World) (im : Im) (vs : List Value), E.ok w → GOK E im → (∀ (b o : Nat) (x : Value), im b o = some x → w.cell? ⟨b, o, none⟩ = some x) → Pw0 im args vs → Calls E.P f vs.toArray w fun e w' => ∃ v, e = .returned v ∧
     ∃ c st a, Rel w ⟨im, [], E.dr⟩ c st a w' ∧ ∃ x, VR c x v ∧ ∃ sel y, selOK st.tk.length sel = true ∧ OutT sel x y ∧ R y (selLens st.tk sel)) : ACalls E f args R := by
 intro w im vs hE hG hok hpw
 refine (h w im vs hE hG hok hpw).mono ?_
 rintro e w' ⟨v, rfl, c', st', a, r', x, hv, sel, y, h3, h4, h5⟩
 refine ⟨v, y, selTk c' sel, c'.im, rfl, r'.below, r'.imle, r'.imold, r'.imok, selToks r' h3, outT_ok r' h3 hv h4, ?_⟩
 rw [selLens_eq r' h3]; exact h5
theorem cells_strs {im : Im} {l : List (List UInt8)} {cs : List Value} (h : cs.take l.length = l.map encStr) : Cells im 1 (l.map str) cs := by
 refine ⟨fun i e he => ?_, fun i e j c he hc => ?_⟩
 · rw [List.getElem?_map] at he
   cases hl : l[i]? with
   | none => simp [hl] at he
   | some b => simp only [hl, Option.map_some, Option.some.injEq] at he; subst he; rfl
 · rw [List.getElem?_map] at he
   cases hl : l[i]? with
   | none => simp [hl] at he
   | some b =>
     simp only [hl, Option.map_some, Option.some.injEq] at he; subst he
     have hlt : i < l.length := (List.getElem?_eq_some_iff.1 hl).1
     have h1 : (cs.take l.length)[i]? = cs[i]? := by rw [List.getElem?_take, if_pos hlt]
     cases j with
     | succ j => simp [AV.leaves] at hc
     | zero =>
       simp only [AV.leaves, List.getElem?_cons_zero, Option.some.injEq] at hc; subst hc
       refine ⟨encStr b, ?_, .v _, rfl⟩
       rw [Nat.mul_one, Nat.add_zero, ← h1, h]
       simp [hl]
theorem ACalls.of_strs {E : Env} {f : FuncId} {args : List AV} {l : List (List UInt8)} {ty : TypeId}
   (h : ∀ (w : World) (im : Im) (vs : List Value), E.ok w → GOK E im → (∀ (b o : Nat) (x : Value), im b o = some x → w.cell? ⟨b, o, none⟩ = some x) → Pw0 im args vs → Calls E.P f vs.toArray w fun e w' => ∃ v, e = .returned v ∧
     w'.ownsRow w.heap.size ty 1 v l.length (l.map encStr) ∧ Go.RowKit.Below w.heap.size w w') (hdr : ¬ E.dr := by exact fun h => h) : ACalls E f args (fun r t => r = .sl (some 0) 1 (l.map str) ∧ t = [l.length]) := by
 refine ACalls.of_rel fun w im vs hE hG hok hpw => (h w im vs hE hG hok hpw).mono ?_
 rintro e w' ⟨v, rfl, hrow, hb0⟩
 have hb : Below E.dr w.heap.size w w' := ⟨hb0, fun d => absurd d hdr⟩
 have r0 := Rel.start E hG hok
 refine ⟨v, rfl, ?_⟩
 rcases hrow.2 with ⟨rfl, hz⟩ | ⟨g, cap, cur, rfl, hbase, hg, h1, h2, h3, h4⟩
 · have hl : l = [] := List.eq_nil_of_length_eq_zero hz
   subst hl
   exact ⟨_, _, _, r0.ext hb, .nilS, .base .nilS, [(false, 1)], .sl (some 0) 1 [], rfl, rfl, rfl, rfl⟩
 · obtain ⟨c', hle, r1, hv⟩ := r0.newTok (k := 1) (cap := cap) (es := l.map str) (cs := cur) hb hbase hg (.inl rfl) (by rw [h3]; exact Nat.le_refl _) (by simpa using h1) (cells_strs (by simpa using h4))
   rw [List.length_map] at hv r1
   refine ⟨c', _, _, r1, _, hv, [(true, 0)], .sl (some 0) 1 (l.map str), rfl, ⟨rfl, rfl, rfl⟩, rfl, ?_⟩
   simp [selLens]
end Go.Abs
namespace Go.Abs
open Go Go.RowKit Go.Sort Go.Proofs Go.Maps
abbrev sortL (l : List (List UInt8)) : List (List UInt8) := l.mergeSort fun x y => decide (x ≤ y)
theorem sortL_len (l : List (List UInt8)) : (sortL l).length = l.length := List.length_mergeSort l
theorem heap_put {w : World} {g n : Nat} {os : Array Obj} {d : Array (List UInt8)} {cur : Array Value} {e : TypeId} {fz : Nat × Nat} (hb : w.heap[g]? = some (.cells cur e fz)) :
   (grow (putRow encStr (Sort.ahead w n) g 0 d) os).heap[g]? = some (.cells (putCells encStr 0 d cur) e fz) := by
 have hlt := (Array.getElem?_eq_some_iff.1 hb).1
 rw [heap_grow_old _ _ (by simpa using hlt)]
 simp [putRow, mapBlock, Sort.ahead, Array.getElem?_modify, hb, onCells]
theorem below_sorted {w : World} {B g n : Nat} {os : Array Obj} (d : Array (List UInt8)) {w0 : World} {D : Prop} (h : Below D B w0 w) (hg : B ≤ g) (hB : B ≤ w.heap.size) : Below D B w0 (grow (putRow encStr (Sort.ahead w n) g 0 d) os) :=
 h.grown (grownBy_sorted d) hB (fun j hj => by cases hj; exact hg) (Nat.le_add_right _ _)
theorem AWPL.sortS {E : Env} {Q : Exit → St → Prop} {st : St} {ops : Array Oper} {rest : List Oper} {g : FuncId} {dst : Option Tmp} {f x : Operand} {tys : Array TypeId} {ty : TypeId} {pos : String} {after : Array Edge}
   (hc : callable E.P g = true) (he : st.ev f = .fn g [])
   (hsort : ∀ (blk off cap : Nat) (ss : List (List UInt8)) (w : World), Holds encStr w blk off ss.toArray → blk < w.heap.size → ss.length < 4611686018427387904 →
     Calls E.P g #[.slice (some ⟨blk, off, none⟩) ss.length cap] w fun e w' => e = .returned (.tuple #[]) ∧ ∃ n os, w' = grow (putRow encStr (Sort.ahead w n) blk off (ss.mergeSort fun x y => decide (x ≤ y)).toArray) os)
   (hnone : ∀ (p : Option Addr) (cap : Nat) (w : World), Calls E.P g #[.slice p 0 cap] w fun e w' => e = .returned (.tuple #[]) ∧ w' = w)
   {id cap : Nat} {l : List (List UInt8)} {sp : List AV} (hx : st.ev x = .mu id 1 0 l.length cap) (ho : st.own[id]? = some (some (l.map str ++ sp))) (hsz : l.length ≤ 1000000)
   (h : AWPL E ops rest Q (St.put { st with own := st.own.set id (some ((sortL l).map str ++ sp)) } dst (.tup []))) :
   AWPL E ops (⟨dst, .call ⟨.value f, #[x], tys⟩, ty, pos, after, none⟩ :: rest) Q st := by
 refine AWPL.callRaw hc he fun w0 im0 cx a w vs h0 hG r hpw => ?_
 obtain ⟨hn, hp⟩ := hpw
 obtain ⟨v, rfl⟩ : ∃ v, vs = [v] := by
   match vs, hn with
   | [v], _ => exact ⟨v, rfl⟩
 have hv : VR cx (.mu id 1 0 l.length cap) v := by
   have := hp 0 _ v rfl rfl
   rwa [← hx]
 have same : l = [] → { st with own := st.own.set id (some ((sortL l).map str ++ sp)) } = st := fun e => by
   subst e
   have e1 : st.own.set id (some ((sortL []).map str ++ sp)) = st.own := by
     apply List.ext_getElem?
     intro j
     rw [List.getElem?_set]
     split
     · rename_i hj; subst hj
       rw [if_pos (lt_of_get ho), ho]; simp [sortL]
     · rfl
   rw [e1]
 rcases hv.inv_mu with ⟨b, hb, hcap, rfl⟩ | ⟨hl, rfl, rfl⟩
 · rcases Nat.eq_zero_or_pos l.length with hz | hz
   · have hl : l = [] := List.eq_nil_of_length_eq_zero hz
     subst hl
     refine (hnone _ cap w).mono ?_
     rintro e w' ⟨rfl, rfl⟩
     exact ⟨_, rfl, cx, st, .tup [], r, .tup [] [] rfl (by simp), by rw [same rfl] at h; exact h⟩
   · have hOK := r.own id b 1 _ hb ho
     obtain ⟨cs, te, lo, hi, hblk, hfr, hsize, hlv, hcell⟩ := hOK.blk
     have hget : ∀ j, j < l.length → cs[j]? = some (encStr l[j]!) := fun j hj => by
       have e1 : (l.map str ++ sp)[j]? = some (str l[j]!) := by
         rw [List.getElem?_append_left (by simpa using hj)]
         simp [hj]
       obtain ⟨v, hv, hvr, _⟩ := hcell j _ 0 _ e1 rfl
       rw [hvr.inv_v] at hv
       simpa using hv
     have hH : Holds encStr w b 0 l.toArray := fun j hj => by
       have hj' : j < l.length := by simpa using hj
       have e2 := hget j hj'
       have hlt : j < cs.size := (Array.getElem?_eq_some_iff.1 e2).1
       constructor
       · simp only [World.cell?, hblk, Nat.zero_add, e2]
         try simp [hj']
       · simp only [World.frozen?, hblk, Nat.zero_add]
         rcases hfr with rfl | hfr
         · first | (simp; done) | (simp; omega)
         · first | (simp; done) | (simp; omega)
     have hbs : b < w.heap.size := r.own_lt hb ho
     rw [Nat.zero_mul]
     refine (hsort b 0 cap l w hH hbs (by omega)).mono ?_
     rintro e w' ⟨rfl, n, os, rfl⟩
     refine ⟨_, rfl, cx, { st with own := st.own.set id (some ((sortL l).map str ++ sp)) }, .tup [], ?_, .tup [] [] rfl (by simp), h⟩
     obtain ⟨w1, hw1⟩ : ∃ w1, putRow encStr (Sort.ahead w n) b 0 (l.mergeSort fun x y => decide (x ≤ y)).toArray = w1 := ⟨_, rfl⟩
     have hw1' : grow w1 #[] = w1 := grow_empty w1
     have hsz1 : w1.heap.size = w.heap.size := by rw [← hw1]; simp [putRow, mapBlock, Sort.ahead]
     have r1 : Rel w0 im0 cx { st with own := st.own.set id (some ((sortL l).map str ++ sp)) } a w1 := by
       refine r.setOwn hb ho (fun d hd => ?_) ?_ ?_
       · rw [← hw1]
         simp [putRow, mapBlock, Sort.ahead, Array.getElem?_modify, Ne.symm hd]
       · rw [← hw1', ← hw1]
         exact below_sorted _ r.below hOK.new r.below.size
       · refine ⟨_, te, lo, hi, (by rw [← hw1', ← hw1]; exact heap_put hblk), ?_, ?_, ?_, ?_⟩
         · simpa [putCells] using hfr
         · simp only [List.length_append, List.length_map, sortL_len] at hsize ⊢
           simpa [putCells] using hsize
         · intro i e he
           rcases getElem?_app' _ _ _ _ he with ⟨h1, h2⟩ | ⟨h1, h2⟩
           · rw [List.getElem?_map] at h2
             cases hq : (sortL l)[i]? with
             | none => simp [hq] at h2
             | some z => simp only [hq, Option.map_some, Option.some.injEq] at h2; subst h2; rfl
           · refine hlv i e ?_
             rw [List.length_map, sortL_len] at h1 h2
             rw [List.getElem?_append_right (by rw [List.length_map]; exact h1), List.length_map]; exact h2
         · intro i e j y he hy
           rcases getElem?_app' _ _ _ _ he with ⟨h1, h2⟩ | ⟨h1, h2⟩
           · rw [List.length_map, sortL_len] at h1
             rw [List.getElem?_map] at h2
             cases hq : (sortL l)[i]? with
             | none => simp [hq] at h2
             | some z =>
               simp only [hq, Option.map_some, Option.some.injEq] at h2; subst h2
               cases j with
               | succ j => simp [AV.leaves] at hy
               | zero =>
                 simp only [AV.leaves, List.getElem?_cons_zero, Option.some.injEq] at hy; subst hy
                 have hlt : i < cs.size := (Array.getElem?_eq_some_iff.1 (hget i h1)).1
                 refine ⟨encStr z, ?_, .base (.v _), .inr rfl⟩
                 rw [Nat.mul_one, Nat.add_zero]
                 have hz2 : (l.mergeSort fun x y => decide (x ≤ y))[i]? = some z := hq
                 have hi2 := lt_of_get hz2
                 simp only [putCells, Array.getElem?_mapIdx, Array.getElem?_eq_getElem hlt, Option.map_some]
                 rw [if_pos ⟨Nat.zero_le _, by simpa using hi2⟩]
                 simp [hz2]
           · have h3 : (l.map str ++ sp)[i]? = some e := by
               rw [List.length_map, sortL_len] at h1 h2
               rw [List.getElem?_append_right (by rw [List.length_map]; exact h1), List.length_map]; exact h2
             obtain ⟨v, hv, hvr, hv1⟩ := hcell i e j y h3 hy
             refine ⟨v, ?_, hvr, hv1⟩
             rw [List.length_map, sortL_len] at h1
             have hlt := (Array.getElem?_eq_some_iff.1 hv).1
             simp only [putCells, Array.getElem?_mapIdx, Array.getElem?_eq_getElem hlt, Option.map_some]
             have hns : ¬ (0 ≤ i * 1 + j ∧ i * 1 + j < 0 + (l.mergeSort fun x y => decide (x ≤ y)).toArray.size) := by
               have : (l.mergeSort fun x y => decide (x ≤ y)).length = l.length := List.length_mergeSort l
               simp only [List.size_toArray, this]; omega
             rw [if_neg hns]
             rw [Array.getElem?_eq_getElem hlt] at hv; exact hv
     rw [hw1]
     exact r1.ext (w' := grow w1 os) ((Below.refl _ w1).grown (w' := grow w1 os) (row := none) ⟨rfl, rfl, rfl, by simp [grow], fun k hk _ => heap_grow_old _ _ hk⟩ (Nat.le_refl _) (fun j hj => by cases hj) (Nat.le_refl _))
 · have hl : l = [] := List.eq_nil_of_length_eq_zero hl
   subst hl
   refine (hnone _ 0 w).mono ?_
   rintro e w' ⟨rfl, rfl⟩
   exact ⟨_, rfl, cx, st, .tup [], r, .tup [] [] rfl (by simp), by rw [same rfl] at h; exact h⟩
end Go.Abs
end
