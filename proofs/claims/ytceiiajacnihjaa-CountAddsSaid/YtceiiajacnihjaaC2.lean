import Derived.Test.YtceiiajacnihjaaC1
import Derived.Test.YtceiiajacnihjaaCr
import Derived.Test.YtceiiajacnihjaaSr
set_option linter.unusedVariables false
set_option linter.unusedSimpArgs false
namespace Go.Proofs.Ytceiiajacnihjaa
open Go Go.Abs Go.RowKit Go.Bk
theorem idI_nat {l : List Bs} {s : Bs} (h : ¬ idI l s < 0) : ∃ i : Nat, idI l s = i ∧ i < l.length := by
  unfold idI at *
  split at h
  · rename_i n hn
    exact ⟨n, rfl, (List.findIdx?_eq_some_iff_findIdx_eq.1 hn).1⟩
  · omega
theorem set_same {α : Type} {l : List α} {i : Nat} {x : α} (h : l[i]? = some x) : l.set i x = l := by
  apply List.ext_getElem?
  intro j
  rw [List.getElem?_set]
  split
  · rename_i e; subst e; split
    · exact h.symm
    · rename_i hlt; rw [List.getElem?_eq_none (by omega)]
  · rfl
theorem map_get {l : List Int} {i : Nat} {x : Int} (h : l[i]? = some x) : (l.map i64)[i]? = some (i64 x) := by rw [List.getElem?_map, h]; rfl
def getF (nm : List Bs) (cn : List Int) (s : Bs) : Int × Bool := if idI nm s < 0 then (0, false) else (cn.getD (idI nm s).toNat 0, true)
def addS (nm : List Bs) (cn : List Int) (s : Bs) (n : Int) : Int × List Int :=
  if idI nm s < 0 then (6, cn) else if (addF (cn.getD (idI nm s).toNat 0) n).2 then (0, cn.set (idI nm s).toNat (addF (cn.getD (idI nm s).toNat 0) n).1) else (9, cn)
theorem getF_no {nm : List Bs} {cn : List Int} {s : Bs} (h : idI nm s < 0) : getF nm cn s = (0, false) := by unfold getF; rw [if_pos h]
theorem getF_yes {nm : List Bs} {cn : List Int} {s : Bs} {i : Nat} {x : Int} (h : idI nm s = (i : Int)) (hx : cn[i]? = some x) : getF nm cn s = (x, true) := by
  unfold getF; rw [if_neg (by omega), h]; simp [List.getD_eq_getElem?_getD, hx]
theorem addS_no {nm : List Bs} {cn : List Int} {s : Bs} {n : Int} (h : idI nm s < 0) : addS nm cn s n = (6, cn) := by unfold addS; rw [if_pos h]
theorem addS_over {nm : List Bs} {cn : List Int} {s : Bs} {n x : Int} {i : Nat} (h : idI nm s = (i : Int)) (hx : cn[i]? = some x) (h2 : (addF x n).2 = false) : addS nm cn s n = (9, cn) := by
  unfold addS; rw [if_neg (by omega), h]; simp [List.getD_eq_getElem?_getD, hx, h2]
theorem addS_yes {nm : List Bs} {cn : List Int} {s : Bs} {n x : Int} {i : Nat} (h : idI nm s = (i : Int)) (hx : cn[i]? = some x) (h2 : (addF x n).2 = true) : addS nm cn s n = (0, cn.set i (addF x n).1) := by
  unfold addS; rw [if_neg (by omega), h]; simp [List.getD_eq_getElem?_getD, hx, h2]
theorem set_store {cn : List Int} {i : Nat} {x y : Int} : some ((cn.map i64).set i (stEl (i64 x) 0 (i64 y))) = some ((cn.set i y).map i64) := by
  rw [List.map_set]; rfl
abbrev bdV (nm : List Bs) (c : Nat) (m d : Int) : AV := .agg [.sl none 1 (nm.map str), .mu c 1 0 nm.length nm.length, .v (.int .i32 m), .v (.int .u32 0), .v (.int .u32 d), .v (.int .i32 0), .v (.int .u32 0)]
theorem set_lock {nm : List Bs} {c : Nat} {m d k : Int} : some ([bdV nm c m d].set 0 (stEl (bdV nm c m d) 2 (.v (.int .i32 k)))) = some [bdV nm c k d] := rfl

set_option maxRecDepth 100000 in
set_option maxHeartbeats 4000000 in
theorem at_call {ops : Array Oper} {l0 : List Oper} {Q : Exit → St → Prop} {tmps up : List AV} {gl : Nat → Option (List AV)} {own : List (Option (List AV))} {tk : List Nat} {dst : Option Tmp} {x0 x1 : Operand} {tys : Array TypeId} {ty : TypeId} {pos : String} {after : Array Edge} {id c : Nat} {nm : List Bs} {cn : List Int} {m d : Int} {s : Bs}
    (hx0 : St.ev ⟨tmps, own, tk, gl, none, up⟩ x0 = .ptr id 0 0)
    (hx1 : St.ev ⟨tmps, own, tk, gl, none, up⟩ x1 = str s)
    (ho : own[id]? = some (some [bdV nm c m d])) (hc : own[c]? = some (some (cn.map i64))) (hl : cn.length = nm.length) (hn : nm.length ≤ 1000)
    (h0 : idI nm s < 0 → AWPL E ops l0 Q (St.put ⟨tmps, own, tk, gl, none, up⟩ dst (.v (.pointer none))))
    (h1 : ∀ i : Nat, i < nm.length → idI nm s = (i : Int) → AWPL E ops l0 Q (St.put ⟨tmps, own, tk, gl, none, up⟩ dst (.ptr c i 0))) :
    AWPL E ops (⟨dst, .call ⟨.value (.func 23), #[x0, x1], tys⟩, ty, pos, after, none⟩ :: l0) Q ⟨tmps, own, tk, gl, none, up⟩ := by
  refine AWPL.call (caps := []) (rs := [.tmp 4]) Try.func23 rfl Try.ntmps23 rfl (by kernel_rfl) rfl rfl ?_
  show AWP E _ _ ⟨([St.ev _ x0, St.ev _ x1] ++ []) ++ List.replicate (22 - 2) (.v undef), own, tk, gl, none, tmps ++ up⟩
  rw [hx0, hx1]
  have hB0 : ∀ (tm : List AV) (ow : List (Option (List AV))) (u0 : AV), idI nm s < 0 → ow = own → tm[4]? = some u0 → u0 = .v (.pointer none) → AInPost E.P [.tmp 4] ⟨tmps, own, tk, gl, none, up⟩ (fun s z => AWPL E ops l0 Q (s.put dst z)) .ret ⟨tm, ow, tk, gl, none, tmps ++ up⟩ := by
    intro tm ow u0  hc0 how hu0 eu0
    rw [how]; rw [eu0] at hu0
    refine ⟨rfl, ?_⟩
    have gu0 : St.ev ⟨tm, own, tk, gl, none, tmps ++ up⟩ (.tmp 4) = .v (.pointer none) := by simp [St.ev, List.getD_eq_getElem?_getD, hu0]
    show AWPL E ops l0 Q (St.put _ dst (tupOf [St.ev _ (.tmp 4)]))
    rw [gu0]
    exact h0  hc0
  have hB1 : ∀ (tm : List AV) (ow : List (Option (List AV))) (u0 : AV) (i : Nat), i < nm.length → idI nm s = (i : Int) → ow = own → tm[4]? = some u0 → u0 = .ptr c i 0 → AInPost E.P [.tmp 4] ⟨tmps, own, tk, gl, none, up⟩ (fun s z => AWPL E ops l0 Q (s.put dst z)) .ret ⟨tm, ow, tk, gl, none, tmps ++ up⟩ := by
    intro tm ow u0 i hc0 hc1 how hu0 eu0
    rw [how]; rw [eu0] at hu0
    refine ⟨rfl, ?_⟩
    have gu0 : St.ev ⟨tm, own, tk, gl, none, tmps ++ up⟩ (.tmp 4) = .ptr c i 0 := by simp [St.ev, List.getD_eq_getElem?_getD, hu0]
    show AWPL E ops l0 Q (St.put _ dst (tupOf [St.ev _ (.tmp 4)]))
    rw [gu0]
    exact h1 i hc0 hc1
  generalize AInPost E.P [.tmp 4] ⟨tmps, own, tk, gl, none, up⟩ (fun s z => AWPL E ops l0 Q (s.put dst z)) = Q' at hB0 hB1 ⊢
  generalize tmps ++ up = up' at hB0 hB1 ⊢
  clear h0 h1 hx0 hx1
  repeat' (first
    | refine AWP.seqk fun K hK => ?_
    | (
        refine AWP.here 6 16 7 rfl ?_
        obtain ⟨i, hi2, hi⟩ := idI_nat (by assumption)
        rw [hi2]
        refine AWP.region ?_; simp only [go_sem, ho, hc]
        refine ⟨by omega, ?_⟩)
    | (refine AWP.region ?_; simp only [go_sem, ho, hc])
    | (refine hK _ ?_; clear hK K)
    | refine AWP.block ?_
    | refine AWP.cond rfl (fun c => ?_) (fun c => ?_) <;> first | exact Bool.noConfusion c | (try simp only [dD] at c)
    | refine AWP.skip ?_
    | (refine AWP.exit ?_; simp only [go_sem, ho, hc])
    | (refine ACall.one (sindex_c _ _ (by first | assumption | omega | (simp only [List.length_take]; omega))) (by kernel_rfl) rfl ?_; simp only [go_sem, ho, hc])
    | (refine AGet.haveM (by assumption) ?_; (try simp only [go_sem, ho, hc]))
    | (refine AGet.have' (by assumption) ?_; (try simp only [go_sem, ho, hc]))
    | ((first | refine AGet.nth ?_ (fun b hb => ?_) | refine AGet.nth1 ?_ (fun b hb => ?_) | with_reducible refine And.intro ?_ ?_); (focus (first | omega | assumption | exact List.length_pos_iff.2 (by assumption) | (simp only [List.length_append, List.length_cons, List.length_nil, List.length_map, List.length_take, List.length_drop] at *; omega) | (rw [wrap64_id (by omega) (by omega)]; omega) | (simp; done) | (simp [spare_len]; done) | (exact ⟨by omega, by omega⟩))); (try simp only [hb, go_sem, ho, hc]))
    | (
        refine AWP.ret ?_
        (try simp only [inb_ret, athen_ret])
        first
        | (exact hB0 _ _ _ (by assumption) rfl rfl rfl)
        | (exact hB1 _ _ _ i hi hi2 rfl rfl rfl))
    | refine AWP.fin (by assumption) ?_
    | fail)

set_option maxRecDepth 100000 in
set_option maxHeartbeats 4000000 in
theorem get_call {ops : Array Oper} {l0 : List Oper} {Q : Exit → St → Prop} {tmps up : List AV} {gl : Nat → Option (List AV)} {own : List (Option (List AV))} {tk : List Nat} {dst : Option Tmp} {x0 x1 : Operand} {tys : Array TypeId} {ty : TypeId} {pos : String} {after : Array Edge} {id c : Nat} {nm : List Bs} {cn : List Int} {m d : Int} {s : Bs}
    (hx0 : St.ev ⟨tmps, own, tk, gl, none, up⟩ x0 = .ptr id 0 0)
    (hx1 : St.ev ⟨tmps, own, tk, gl, none, up⟩ x1 = str s)
    (ho : own[id]? = some (some [bdV nm c m d])) (hc : own[c]? = some (some (cn.map i64))) (hl : cn.length = nm.length) (hn : nm.length ≤ 1000)
    (h0 : AWPL E ops l0 Q (St.put ⟨tmps, own, tk, gl, none, up⟩ dst (.tup [i64 (getF nm cn s).1, bl (getF nm cn s).2]))) :
    AWPL E ops (⟨dst, .call ⟨.value (.func 10), #[x0, x1], tys⟩, ty, pos, after, none⟩ :: l0) Q ⟨tmps, own, tk, gl, none, up⟩ := by
  refine AWPL.call (caps := []) (rs := [.tmp 4, .tmp 5]) Try.func10 rfl Try.ntmps10 rfl (by kernel_rfl) rfl rfl ?_
  show AWP E _ _ ⟨([St.ev _ x0, St.ev _ x1] ++ []) ++ List.replicate (14 - 2) (.v undef), own, tk, gl, none, tmps ++ up⟩
  rw [hx0, hx1]
  have hB0 : ∀ (tm : List AV) (ow : List (Option (List AV))) (u0 : AV) (u1 : AV), ow = own → tm[4]? = some u0 → u0 = i64 (getF nm cn s).1 → tm[5]? = some u1 → u1 = bl (getF nm cn s).2 → AInPost E.P [.tmp 4, .tmp 5] ⟨tmps, own, tk, gl, none, up⟩ (fun s z => AWPL E ops l0 Q (s.put dst z)) .ret ⟨tm, ow, tk, gl, none, tmps ++ up⟩ := by
    intro tm ow u0 u1   how hu0 eu0 hu1 eu1
    rw [how]; rw [eu0] at hu0; rw [eu1] at hu1
    refine ⟨rfl, ?_⟩
    have gu0 : St.ev ⟨tm, own, tk, gl, none, tmps ++ up⟩ (.tmp 4) = i64 (getF nm cn s).1 := by simp [St.ev, List.getD_eq_getElem?_getD, hu0]
    have gu1 : St.ev ⟨tm, own, tk, gl, none, tmps ++ up⟩ (.tmp 5) = bl (getF nm cn s).2 := by simp [St.ev, List.getD_eq_getElem?_getD, hu1]
    show AWPL E ops l0 Q (St.put _ dst (tupOf [St.ev _ (.tmp 4), St.ev _ (.tmp 5)]))
    rw [gu0, gu1]
    exact h0  
  generalize AInPost E.P [.tmp 4, .tmp 5] ⟨tmps, own, tk, gl, none, up⟩ (fun s z => AWPL E ops l0 Q (s.put dst z)) = Q' at hB0 ⊢
  generalize tmps ++ up = up' at hB0 ⊢
  clear h0 hx0 hx1
  repeat' (first
    | refine AWP.seqk fun K hK => ?_
    | (refine at_call rfl rfl (by first | assumption | rfl) (by first | assumption | rfl) (by assumption) (by assumption) (fun hneg => ?_) (fun i hi hi2 => ?_) <;> simp only [go_sem, ho, hc])
    | (obtain ⟨x, hxx⟩ : ∃ x, cn[i]? = some x := ⟨_, List.getElem?_eq_getElem (by omega)⟩; refine AWPL.callLook (by kernel_rfl) rfl rfl (by first | assumption | rfl | exact hsetc _) (map_get hxx) rfl (fun a w h => load64 x a w h) ?_; simp only [go_sem, ho, hc])
    | (refine ACall.one (sindex_c _ _ (by first | assumption | omega | (simp only [List.length_take]; omega))) (by kernel_rfl) rfl ?_; simp only [go_sem])
    | (refine AWPL.call (rs := [.tmp 4]) Try.func23 rfl Try.ntmps23 rfl (by kernel_rfl) rfl rfl ?_; simp only [go_sem])
    | (refine AWPL.call (rs := [.tmp 2]) Try.func24 rfl Try.ntmps24 rfl (by kernel_rfl) rfl rfl ?_; simp only [go_sem])
    | (refine AWP.here 1 7 4 rfl ?_; refine AWP.regionL ?_; refine AWPL.at 4 2 rfl ?_; simp only [go_sem, ho, hc])
    | (refine AWP.here 4 12 4 rfl ?_; refine AWP.regionL ?_; refine AWPL.at 4 1 rfl ?_; simp only [go_sem, ho, hc])
    | (refine AWP.region ?_; simp only [go_sem, ho, hc])
    | (refine hK _ ?_; clear hK K)
    | refine AWP.block ?_
    | refine AWP.cond rfl (fun c => ?_) (fun c => ?_) <;> first | exact Bool.noConfusion c | (try simp only [dD] at c)
    | refine AWP.skip ?_
    | (refine AWP.exit ?_; simp only [go_sem, ho, hc])
    | (refine AGet.haveM (by assumption) ?_; (try simp only [go_sem, ho, hc]))
    | (refine AGet.have' (by assumption) ?_; (try simp only [go_sem, ho, hc]))
    | ((first | refine AGet.nth ?_ (fun b hb => ?_) | refine AGet.nth1 ?_ (fun b hb => ?_) | with_reducible refine And.intro ?_ ?_); (focus (first | omega | assumption | exact List.length_pos_iff.2 (by assumption) | (simp only [List.length_append, List.length_cons, List.length_nil, List.length_map, List.length_take, List.length_drop] at *; omega) | (rw [wrap64_id (by omega) (by omega)]; omega) | (simp; done) | (simp [spare_len]; done) | (exact ⟨by omega, by omega⟩))); (try simp only [hb, go_sem, ho, hc]))
    | (
        refine AWP.ret ?_
        (try simp only [inb_ret, athen_ret])
        first
        | (exact hB0 _ _ _ _ rfl rfl (by rw [getF_no (by assumption)]) rfl (by rw [getF_no (by assumption)]))
        | (exact hB0 _ _ _ _ rfl rfl (by rw [getF_yes hi2 hxx]) rfl (by rw [getF_yes hi2 hxx])))
    | (refine AWP.ret ?_; refine AInPost.ret rfl ?_; simp only [go_sem, ho, hc])
    | (refine AWP.ret ?_; simp only [inb_ret, athen_ret]; refine AInPost.ret rfl ?_; simp only [go_sem, ho, hc])
    | (refine AWP.ret ?_; (try simp only [inb_ret, athen_ret]); refine AInPost.ret rfl ?_; (try simp only [go_sem, ho, hc]))
    | (refine AWPL.of ?_; simp only [go_sem, ho, hc])
    | refine AWP.fin (by assumption) ?_
    | fail)

set_option maxRecDepth 100000 in
set_option maxHeartbeats 4000000 in
theorem add_call {ops : Array Oper} {l0 : List Oper} {Q : Exit → St → Prop} {tmps up : List AV} {gl : Nat → Option (List AV)} {own : List (Option (List AV))} {tk : List Nat} {dst : Option Tmp} {x0 x1 x2 : Operand} {tys : Array TypeId} {ty : TypeId} {pos : String} {after : Array Edge} {id c : Nat} {nm : List Bs} {cn : List Int} {d : Int} {s : Bs} {n : Int}
    (hx0 : St.ev ⟨tmps, own, tk, gl, none, up⟩ x0 = .ptr id 0 0)
    (hx1 : St.ev ⟨tmps, own, tk, gl, none, up⟩ x1 = str s)
    (hx2 : St.ev ⟨tmps, own, tk, gl, none, up⟩ x2 = i64 n)
    (ho : own[id]? = some (some [bdV nm c 0 d])) (hc : own[c]? = some (some (cn.map i64))) (hl : cn.length = nm.length) (hn : nm.length ≤ 1000) (hne : c ≠ id)
    (h : AWPL E ops l0 Q (St.put ⟨tmps, own.set c (some ((addS nm cn s n).2.map i64)), tk, gl, none, up⟩ dst (i64 (addS nm cn s n).1))) :
    AWPL E ops (⟨dst, .call ⟨.value (.func 11), #[x0, x1, x2], tys⟩, ty, pos, after, none⟩ :: l0) Q ⟨tmps, own, tk, gl, none, up⟩ := by
  refine AWPL.callD (t := 21) (by kernel_rfl) (uf := 26) (x := .int .i32 1) (y := .int .i32 0) rfl rfl unlock_deferred (fun _ _ => by simp [go_sem, E_P]) (caps := []) (rs := [.tmp 6]) Try.func11 rfl Try.ntmps11 rfl (by kernel_rfl) rfl rfl ?_
  show DAWP E _ _ _ _ ⟨([St.ev _ x0, St.ev _ x1, St.ev _ x2] ++ []) ++ List.replicate (34 - 3) (.v undef), own, tk, gl, none, tmps ++ up⟩
  rw [hx0, hx1, hx2]
  have hset : ∀ x, (own.set id x)[id]? = some x := fun x => List.getElem?_set_self (lt_of_get ho)
  have hsetc : ∀ x, (own.set id x)[c]? = some (some (cn.map i64)) := fun x => by rw [List.getElem?_set_ne (Ne.symm hne)]; exact hc
  have hback : ∀ x y, ((own.set id x).set c y).set id (some [bdV nm c 0 d]) = own.set c y := fun x y => by rw [List.set_comm _ _ (Ne.symm hne), List.set_set]; exact set_same (by rw [List.getElem?_set_ne hne]; exact ho)
  have hsame : own.set c (some (cn.map i64)) = own := set_same hc
  have hB0 : ∀ (tm : List AV) (u : AV), idI nm s < 0 → tm[6]? = some u → u = i64 6 → AInPost E.P [.tmp 6] ⟨tmps, own, tk, gl, none, up⟩ (fun s z => AWPL E ops l0 Q (s.put dst z)) .ret ⟨tm, own, tk, gl, none, tmps ++ up⟩ := by
    intro tm u hneg hu eu
    refine ⟨rfl, ?_⟩
    rw [eu] at hu
    have gu : St.ev ⟨tm, own, tk, gl, none, tmps ++ up⟩ (.tmp 6) = i64 6 := by simp [St.ev, List.getD_eq_getElem?_getD, hu]
    show AWPL E ops l0 Q (St.put _ dst (tupOf [St.ev _ (.tmp 6)]))
    rw [gu]
    rw [addS_no hneg] at h
    simp only [hsame] at h
    exact h
  have hB1 : ∀ (tm : List AV) (u : AV) (ow : List (Option (List AV))) (e : Int) (cn' : List Int), addS nm cn s n = (e, cn') → ow = (own.set id (some [bdV nm c 1 d])).set c (some (cn'.map i64)) → tm[6]? = some u → u = i64 e → DInPost E.P [.tmp 6] ⟨tmps, own, tk, gl, none, up⟩ (.int .i32 1) (.int .i32 0) (fun s z => AWPL E ops l0 Q (s.put dst z)) .ret ⟨tm, ow, tk, gl, none, .ptr id 0 2 :: (tmps ++ up)⟩ := by
    intro tm u ow e cn' he how hu eu
    rw [how]; rw [eu] at hu
    refine ⟨id, 0, 2, [bdV nm c 1 d], bdV nm c 1 d, rfl, ?_, rfl, rfl, ?_⟩
    · show ((own.set id _).set c _)[id]? = _
      rw [List.getElem?_set_ne hne, hset]
    · show AWPL E ops l0 Q (St.put ⟨tmps, ((own.set id (some [bdV nm c 1 d])).set c (some (cn'.map i64))).set id (some [bdV nm c 0 d]), tk, gl, none, up⟩ dst (tupOf [St.ev _ (.tmp 6)]))
      have gu : ∀ ow, St.ev ⟨tm, ow, tk, gl, none, .ptr id 0 2 :: (tmps ++ up)⟩ (.tmp 6) = i64 e := fun ow => by simp [St.ev, List.getD_eq_getElem?_getD, hu]
      rw [gu, hback]
      rw [he] at h
      exact h
  generalize AInPost E.P [.tmp 6] ⟨tmps, own, tk, gl, none, up⟩ (fun s z => AWPL E ops l0 Q (s.put dst z)) = Q1 at hB0 hB1 ⊢
  generalize DInPost E.P [.tmp 6] ⟨tmps, own, tk, gl, none, up⟩ (.int .i32 1) (.int .i32 0) (fun s z => AWPL E ops l0 Q (s.put dst z)) = Q2 at hB0 hB1 ⊢
  generalize tmps ++ up = up' at hB0 hB1 ⊢
  clear h hx0 hx1 hx2
  repeat' (first
    | refine AWP.seqk fun K hK => ?_
    | (refine DAWP.seqD ?_; simp only [go_sem, ho, hc, hset, hsetc]; refine ⟨rfl, ?_⟩; simp only [go_sem, ho, hc, hset, hsetc])
    | (refine DAWP.seqD ?_; simp only [go_sem, ho, hc, hset, hsetc])
    | refine DAWP.seqA fun K hK => ?_
    | refine DAWP.fin (by assumption) ?_
    | (refine at_call rfl rfl (by first | assumption | rfl) (by first | assumption | rfl) (by assumption) (by assumption) (fun hneg => ?_) (fun i hi hi2 => ?_) <;> simp only [go_sem, ho, hc, hset, hsetc])
    | (refine AWPL.callSet (t := 21) (by kernel_rfl) (by kernel_rfl) rfl (ys := []) rfl ho rfl rfl rfl rfl (fun a w h1 h2 => lock_free a w h1 h2) ?_; rw [set_lock]; simp only [go_sem, ho, hc, hset, hsetc])
    | (obtain ⟨x, hxx⟩ : ∃ x, cn[i]? = some x := ⟨_, List.getElem?_eq_getElem (by omega)⟩; refine AWPL.callLook (by kernel_rfl) rfl rfl (by first | assumption | rfl | exact hsetc _) (map_get hxx) rfl (fun a w h => load64 x a w h) ?_; simp only [go_sem, ho, hc, hset, hsetc])
    | (refine ACall.one (nadd_c x n) (by kernel_rfl) rfl ?_; simp only [go_sem, ho, hc, hset, hsetc])
    | (refine AWPL.callSet (t := 2) (by kernel_rfl) (by kernel_rfl) rfl (ys := [.int .i64 (addF x n).1]) rfl (hsetc _) (map_get hxx) rfl rfl rfl (fun a w h1 h2 => store64 _ _ a w h1 h2) ?_; rw [set_store]; simp only [go_sem, ho, hc, hset, hsetc])
    | (refine ACall.one (sindex_c _ _ (by first | assumption | omega | (simp only [List.length_take]; omega))) (by kernel_rfl) rfl ?_; simp only [go_sem])
    | (refine AWPL.call (rs := [.tmp 4]) Try.func23 rfl Try.ntmps23 rfl (by kernel_rfl) rfl rfl ?_; simp only [go_sem])
    | (refine AWPL.call (rs := [.tmp 2]) Try.func24 rfl Try.ntmps24 rfl (by kernel_rfl) rfl rfl ?_; simp only [go_sem])
    | (refine AWPL.call (rs := []) Try.func28 rfl Try.ntmps28 rfl (by kernel_rfl) rfl rfl ?_; simp only [go_sem])
    | (refine AWPL.call (rs := []) Try.func25 rfl Try.ntmps25 rfl (by kernel_rfl) rfl rfl ?_; simp only [go_sem])
    | (refine AWP.here 1 10 4 rfl ?_; refine AWP.regionL ?_; refine AWPL.at 4 2 rfl ?_; simp only [go_sem, ho, hc, hset, hsetc])
    | (refine AWP.here 4 15 4 rfl ?_; refine AWP.regionL ?_; refine AWPL.at 4 3 rfl ?_; simp only [go_sem, ho, hc, hset, hsetc])
    | (refine AWP.here 6 23 9 rfl ?_; refine AWP.regionL ?_; refine AWPL.at 9 1 rfl ?_; simp only [go_sem, ho, hc, hset, hsetc])
    | (refine AWP.here 9 31 3 rfl ?_; refine AWP.regionL ?_; refine AWPL.at 3 2 rfl ?_; simp only [go_sem, ho, hc, hset, hsetc])
    | (refine AWP.region ?_; simp only [go_sem, ho, hc, hset, hsetc])
    | (refine hK _ ?_; clear hK K)
    | refine AWP.block ?_
    | refine AWP.cond rfl (fun c => ?_) (fun c => ?_) <;> first | exact Bool.noConfusion c | (try simp only [dD] at c)
    | refine AWP.skip ?_
    | (refine AWP.exit ?_; simp only [go_sem, ho, hc, hset, hsetc])
    | (refine AGet.haveM (by assumption) ?_; (try simp only [go_sem, ho, hc, hset, hsetc]))
    | (refine AGet.have' (by assumption) ?_; (try simp only [go_sem, ho, hc, hset, hsetc]))
    | ((first | refine AGet.nth ?_ (fun b hb => ?_) | refine AGet.nth1 ?_ (fun b hb => ?_) | with_reducible refine And.intro ?_ ?_); (focus (first | omega | assumption | exact List.length_pos_iff.2 (by assumption) | (simp only [List.length_append, List.length_cons, List.length_nil, List.length_map, List.length_take, List.length_drop] at *; omega) | (rw [wrap64_id (by omega) (by omega)]; omega) | (simp; done) | (simp [spare_len]; done) | (exact ⟨by omega, by omega⟩))); (try simp only [hb, go_sem, ho, hc, hset, hsetc]))
    | (
        refine AWP.ret ?_
        (try simp only [inb_ret, athen_ret])
        first
        | (exact hB0 _ _ (by assumption) rfl rfl)
        | (exact hB1 _ _ _ _ _ (addS_over hi2 hxx (by assumption)) (List.ext_getElem? fun j => by first | (rw [set_same (hsetc _)]) | rfl) rfl rfl)
        | (exact hB1 _ _ _ _ _ (addS_yes hi2 hxx (by assumption)) rfl rfl rfl))
    | (refine AWP.ret ?_; refine AInPost.ret rfl ?_; simp only [go_sem, ho, hc, hset, hsetc])
    | (refine AWP.ret ?_; simp only [inb_ret, athen_ret]; refine AInPost.ret rfl ?_; simp only [go_sem, ho, hc, hset, hsetc])
    | (refine AWP.ret ?_; (try simp only [inb_ret, athen_ret]); refine AInPost.ret rfl ?_; (try simp only [go_sem, ho, hc, hset, hsetc]))
    | (refine AWPL.of ?_; simp only [go_sem, ho, hc, hset, hsetc])
    | refine AWP.fin (by assumption) ?_
    | fail)


end Go.Proofs.Ytceiiajacnihjaa
