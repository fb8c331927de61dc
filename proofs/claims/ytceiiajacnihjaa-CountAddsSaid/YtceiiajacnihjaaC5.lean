import Derived.Test.YtceiiajacnihjaaC4
set_option linter.unusedVariables false
set_option linter.unusedSimpArgs false
namespace Go.Proofs.Ytceiiajacnihjaa
open Go Go.Abs Go.RowKit Go.Bk
theorem len_take {cn : List Int} {nm : List Bs} {i : Nat} (h1 : i ≤ nm.length) (hl : cn.length = nm.length) : (cn.take i).length = i := by rw [List.length_take]; omega
theorem take_app {cn : List Int} {i : Nat} {x : Int} (h : cn[i]? = some x) : (cn.take i).map i64 ++ [i64 x] = (cn.take (i + 1)).map i64 := by
  rw [List.take_add_one, h]; simp
theorem tk_get {tk : List Nat} {i : Nat} : (tk ++ [i])[tk.length]? = some i := by simp
theorem tk_set {tk : List Nat} {i j : Nat} : (tk ++ [i]).set tk.length j = tk ++ [j] := by simp
theorem tk_set2 {tk : List Nat} {cn : List Int} {nm : List Bs} {i : Nat} (h1 : i ≤ nm.length) (hl : cn.length = nm.length) : (tk ++ [i] ++ [1]).set tk.length ((List.take i cn).length + 1) = (tk ++ [i + 1]) ++ [1] := by
  rw [len_take h1 hl, List.set_append_left _ _ (by simp), tk_set]

set_option maxRecDepth 100000 in
set_option maxHeartbeats 4000000 in
theorem all_call {ops : Array Oper} {l0 : List Oper} {Q : Exit → St → Prop} {tmps up : List AV} {gl : Nat → Option (List AV)} {own : List (Option (List AV))} {tk : List Nat} {dst : Option Tmp} {x0 : Operand} {tys : Array TypeId} {ty : TypeId} {pos : String} {after : Array Edge} {id cid : Nat} {nm : List Bs} {cn : List Int} {d : Int}
    (hx0 : St.ev ⟨tmps, own, tk, gl, none, up⟩ x0 = .ptr id 0 0)
    (ho : own[id]? = some (some [bdV nm cid 0 d])) (hc : own[cid]? = some (some (cn.map i64))) (hl : cn.length = nm.length) (hn : nm.length ≤ 1000) (hne : cid ≠ id) (hbu : (tmps ++ up).all (AV.bel own.length tk.length) = true) (hbo : OwnBel own own.length tk.length)
    (h : AWPL E ops l0 Q (St.put ⟨tmps, own, tk, gl, none, up⟩ dst (.sl none 1 (cn.map i64)))) :
    AWPL E ops (⟨dst, .call ⟨.value (.func 17), #[x0], tys⟩, ty, pos, after, none⟩ :: l0) Q ⟨tmps, own, tk, gl, none, up⟩ := by
  refine AWPL.callD (t := 21) (by kernel_rfl) (uf := 26) (x := .int .i32 1) (y := .int .i32 0) rfl rfl unlock_deferred (fun _ _ => by simp [go_sem, E_P]) (caps := []) (rs := [.tmp 2]) Try.func17 rfl Try.ntmps17 rfl (by kernel_rfl) rfl rfl ?_
  show DAWP E _ _ _ _ ⟨([St.ev _ x0] ++ []) ++ List.replicate (34 - 1) (.v undef), own, tk, gl, none, tmps ++ up⟩
  rw [hx0]
  have hset : ∀ x, (own.set id x)[id]? = some x := fun x => List.getElem?_set_self (lt_of_get ho)
  have hsetc : ∀ x, (own.set id x)[cid]? = some (some (cn.map i64)) := fun x => by rw [List.getElem?_set_ne (Ne.symm hne)]; exact hc
  have hback : ∀ x y, ((own.set id x).set cid y).set id (some [bdV nm cid 0 d]) = own.set cid y := fun x y => by rw [List.set_comm _ _ (Ne.symm hne), List.set_set]; exact set_same (by rw [List.getElem?_set_ne hne]; exact ho)
  have hsame : own.set cid (some (cn.map i64)) = own := set_same hc
  have hB1 : ∀ (tm : List AV) (u : AV), tm[2]? = some u → u = .sl none 1 (cn.map i64) → DInPost E.P [.tmp 2] ⟨tmps, own, tk, gl, none, up⟩ (.int .i32 1) (.int .i32 0) (fun s z => AWPL E ops l0 Q (s.put dst z)) .ret ⟨tm, own.set id (some [bdV nm cid 1 d]), tk, gl, none, .ptr id 0 2 :: (tmps ++ up)⟩ := by
    intro tm u hu eu
    rw [eu] at hu
    refine ⟨id, 0, 2, [bdV nm cid 1 d], bdV nm cid 1 d, rfl, hset _, rfl, rfl, ?_⟩
    show AWPL E ops l0 Q (St.put ⟨tmps, (own.set id (some [bdV nm cid 1 d])).set id (some [bdV nm cid 0 d]), tk, gl, none, up⟩ dst (tupOf [St.ev _ (.tmp 2)]))
    have gu : ∀ ow tk, St.ev ⟨tm, ow, tk, gl, none, .ptr id 0 2 :: (tmps ++ up)⟩ (.tmp 2) = .sl none 1 (cn.map i64) := fun ow tk => by simp [St.ev, List.getD_eq_getElem?_getD, hu]
    rw [gu, List.set_set, set_same ho]
    exact h
  have hbo1 : OwnBel (own.set id (some [bdV nm cid 1 d])) own.length (tk.length + 1) := (hbo.mono (Nat.le_refl _) (by omega)).set (by
    intro e he z hz
    simp only [List.mem_singleton] at he; subst he
    simp only [AV.leaves, List.mem_cons, List.not_mem_nil, or_false] at hz
    rcases hz with rfl | rfl | rfl | rfl | rfl | rfl | rfl <;> first | rfl | exact decide_eq_true (lt_of_get hc))
  have hbo2 : OwnBel (own.set id (some [bdV nm cid 1 d])) (own.set id (some [bdV nm cid 1 d])).length tk.length := by
    rw [List.length_set]
    refine hbo.set ?_
    intro e he z hz
    simp only [List.mem_singleton] at he; subst he
    simp only [AV.leaves, List.mem_cons, List.not_mem_nil, or_false] at hz
    rcases hz with rfl | rfl | rfl | rfl | rfl | rfl | rfl <;> first | rfl | exact decide_eq_true (lt_of_get hc)
  have hbu2 : (AV.ptr id 0 2 :: (tmps ++ up)).all (AV.bel (own.set id (some [bdV nm cid 1 d])).length tk.length) = true := by
    rw [List.length_set, List.all_cons, Bool.and_eq_true]
    exact ⟨decide_eq_true (lt_of_get ho), hbu⟩
  have hbu1 : (AV.ptr id 0 2 :: (tmps ++ up)).all (AV.bel own.length (tk.length + 1)) = true := by
    rw [List.all_cons, Bool.and_eq_true]
    exact ⟨decide_eq_true (lt_of_get ho), up_mono (Nat.le_refl _) (by omega) hbu⟩
  generalize AInPost E.P [.tmp 2] ⟨tmps, own, tk, gl, none, up⟩ (fun s z => AWPL E ops l0 Q (s.put dst z)) = Q1 at hB1 ⊢
  generalize DInPost E.P [.tmp 2] ⟨tmps, own, tk, gl, none, up⟩ (.int .i32 1) (.int .i32 0) (fun s z => AWPL E ops l0 Q (s.put dst z)) = Q2 at hB1 ⊢
  generalize tmps ++ up = up' at hB1 hbu hbu2 hbu1 ⊢
  clear h hx0
  repeat' (first
    | refine AWP.seqk fun K hK => ?_
    | (refine DAWP.seqD ?_; simp only [go_sem, ho, hc, hset, hsetc]; refine ⟨rfl, ?_⟩; simp only [go_sem, ho, hc, hset, hsetc])
    | (refine DAWP.seqD ?_; simp only [go_sem, ho, hc, hset, hsetc])
    | refine DAWP.seqA fun K hK => ?_
    | refine DAWP.fin (by assumption) ?_
    | (
        refine AWP.here 11 33 2 rfl ?_
        have hi : i = cn.length := by omega
        subst hi
        rw [List.take_length]
        refine AWP.forget 3 rfl ?_
        simp only [go_sem, ho, hc, hset, hsetc]
        refine AWP.region ?_; simp only [go_sem, ho, hc, hset, hsetc])
    | (refine AWPL.callSet (t := 21) (by kernel_rfl) (by kernel_rfl) rfl (ys := []) rfl ho rfl rfl rfl rfl (fun a w h1 h2 => lock_free a w h1 h2) ?_; rw [set_lock]; simp only [go_sem, ho, hc, hset, hsetc])
    | (obtain ⟨x, hxx⟩ : ∃ x, cn[i]? = some x := ⟨_, List.getElem?_eq_getElem (by omega)⟩; refine AWPL.callLook (by kernel_rfl) rfl rfl (by first | assumption | rfl | exact hsetc _) (map_get hxx) rfl (fun a w h => load64 x a w h) ?_; simp only [go_sem, ho, hc, hset, hsetc])
    | (refine AWPL.call (rs := [.tmp 2]) Try.func24 rfl Try.ntmps24 rfl (by kernel_rfl) rfl rfl ?_; simp only [go_sem])
    | (refine AWPL.call (rs := []) Try.func25 rfl Try.ntmps25 rfl (by kernel_rfl) rfl rfl ?_; simp only [go_sem])
    | (refine AWP.here 3 7 4 rfl ?_; refine AWP.regionL ?_; refine AWPL.at 4 3 rfl ?_; simp only [go_sem, ho, hc, hset, hsetc])
    | (refine AWP.here 9 22 11 rfl ?_; refine AWP.regionL ?_; refine AWPL.at 11 7 rfl ?_; simp only [go_sem, ho, hc, hset, hsetc])
    | (refine AWP.region ?_; simp only [go_sem, ho, hc, hset, hsetc])
    | (refine hK _ ?_; clear hK K)
    | refine AWP.block ?_
    | refine AWP.cond rfl (fun c => ?_) (fun c => ?_) <;> first | exact Bool.noConfusion c | (try simp only [dD] at c)
    | refine AWP.skip ?_
    | (refine AWP.exit ?_; simp only [go_sem, ho, hc, hset, hsetc])
    | (refine AGet.haveM (by assumption) ?_; (try simp only [go_sem, ho, hc, hset, hsetc]))
    | (refine AGet.have' (by assumption) ?_; (try simp only [go_sem, ho, hc, hset, hsetc]))
    | ((first | refine AGet.nth ?_ (fun b hb => ?_) | refine AGet.nth1 ?_ (fun b hb => ?_) | with_reducible refine And.intro ?_ ?_); (focus (first | omega | assumption | exact List.length_pos_iff.2 (by assumption) | (simp only [List.length_append, List.length_cons, List.length_nil, List.length_map, List.length_take, List.length_drop] at *; omega) | (rw [wrap64_id (by omega) (by omega)]; omega) | (simp; done) | (simp [spare_len]; done) | (exact ⟨by omega, by omega⟩) | (rw [len_take h1 hl]; simp; done) | (rw [len_take h1 hl]; omega))); (try simp only [hb, go_sem, ho, hc, hset, hsetc]))
    | (
        refine AWP.here 7 20 1 rfl ?_
        refine AWP.nilTok 3 1 rfl ?_
        simp only [go_sem, ho, hc, hset, hsetc]
        refine AWP.loopM (ι := Nat) [4, 20, 21, 22, 23, 24, 25, 26, 27, 28, 29, 30, 31, 32] (fun (i : Nat) => [(19, i64 i), (3, .sl (some tk.length) 1 ((cn.take i).map i64))]) (fun (i : Nat) => own.set id (some [bdV nm cid 1 d])) (fun (i : Nat) => tk ++ [i]) (fun (i : Nat) => i ≤ nm.length) (fun (i : Nat) => nm.length - i) (0) ?_ ?_ ?_
        · (try simp only [go_sem]); (try simp only [List.length_set, List.length_append, List.length_cons, List.length_nil]); (repeat' (first | assumption | exact OwnBel.wk (by assumption) | exact wkK_self | exact wkK_pre | exact .inr ⟨rfl, decide_eq_true (lt_of_get ho)⟩ | exact .inr (decide_eq_true (lt_of_get ho)) | exact .inr ⟨rfl, decide_eq_true (lt_of_get hc)⟩ | exact .inr (decide_eq_true (lt_of_get hc)) | exact .inr ⟨rfl, decide_eq_true (Nat.lt_succ_self _)⟩ | refine And.intro ?_ ?_ | exact .inl rfl | exact .inr rfl | exact .inr ⟨rfl, rfl⟩ | trivial | exact .inr (oblA rfl) | exact .inr ⟨rfl, oblA rfl⟩ | exact .inr bel_strs | exact .inr ⟨rfl, bel_strs⟩ | exact .inr ⟨by simp, bel_strs⟩ | (simp; done) | exact .inr ⟨rfl, by simp⟩ | exact .inr ⟨by simp, by simp⟩)); done
        · omega
        rintro i h1
        simp only [go_sem, ho, hc, hset, hsetc])
    | (
        refine ⟨i + 1, ?_, ?_, ?_⟩
        · (try simp only [go_sem]); (try rw [wrap64_id (by omega) (by omega)]); (try rw [tk_set2 h1 hl, take_app hxx]); (try simp only [List.length_set, List.length_append, List.length_cons, List.length_nil]); (repeat' (first | assumption | exact OwnBel.wk (by assumption) | exact wkK_self | exact wkK_pre | exact .inr ⟨rfl, decide_eq_true (lt_of_get ho)⟩ | exact .inr (decide_eq_true (lt_of_get ho)) | exact .inr ⟨rfl, decide_eq_true (lt_of_get hc)⟩ | exact .inr (decide_eq_true (lt_of_get hc)) | exact .inr ⟨rfl, decide_eq_true (Nat.lt_succ_self _)⟩ | refine And.intro ?_ ?_ | exact .inl rfl | exact .inr rfl | exact .inr ⟨rfl, rfl⟩ | trivial | exact .inr (oblA rfl) | exact .inr ⟨rfl, oblA rfl⟩ | exact .inr bel_strs | exact .inr ⟨rfl, bel_strs⟩ | exact .inr ⟨by simp, bel_strs⟩ | (simp; done) | exact .inr ⟨rfl, by simp⟩ | exact .inr ⟨by simp, by simp⟩)); done
        · omega
        · (try simp only []); omega)
    | (
        refine AWP.weaken (t := ⟨[.any, .any, .sl none 1 (cn.map i64), .any, .any, .any, .any, .any, .any, .any, .any, .any, .any, .any, .any, .any, .any, .any, .any, .any, .any, .any, .any, .any, .any, .any, .any, .any, .any, .any, .any, .any, .any, .any], own.set id (some [bdV nm cid 1 d]), tk, gl, none, .ptr id 0 2 :: up'⟩) ⟨⟨.inl rfl, .inl rfl, .inr ⟨rfl, rfl⟩, .inl rfl, .inl rfl, .inl rfl, .inl rfl, .inl rfl, .inl rfl, .inl rfl, .inl rfl, .inl rfl, .inl rfl, .inl rfl, .inl rfl, .inl rfl, .inl rfl, .inl rfl, .inl rfl, .inl rfl, .inl rfl, .inl rfl, .inl rfl, .inl rfl, .inl rfl, .inl rfl, .inl rfl, .inl rfl, .inl rfl, .inl rfl, .inl rfl, .inl rfl, .inl rfl, .inl rfl, trivial⟩, OwnBel.wk hbo2, wkK_pre, rfl, rfl, rfl, hbu2⟩ ?_
        refine AWP.ret ?_
        (try simp only [inb_ret, athen_ret])
        exact hB1 _ _ rfl rfl)
    | (refine AWP.ret ?_; refine AInPost.ret rfl ?_; simp only [go_sem, ho, hc, hset, hsetc])
    | (refine AWP.ret ?_; simp only [inb_ret, athen_ret]; refine AInPost.ret rfl ?_; simp only [go_sem, ho, hc, hset, hsetc])
    | (refine AWP.ret ?_; (try simp only [inb_ret, athen_ret]); refine AInPost.ret rfl ?_; (try simp only [go_sem, ho, hc, hset, hsetc]))
    | (refine AWPL.of ?_; simp only [go_sem, ho, hc, hset, hsetc])
    | refine AWP.fin (by assumption) ?_
    | fail)


end Go.Proofs.Ytceiiajacnihjaa
