import Derived.Test.YtceiiajacnihjaaC2
import Derived.Test.YtceiiajacnihjaaCa
import Derived.Test.YtceiiajacnihjaaLt
set_option linter.unusedVariables false
set_option linter.unusedSimpArgs false
namespace Go.Proofs.Ytceiiajacnihjaa
open Go Go.Abs Go.RowKit Go.Bk
theorem sclone_p (l : List Bs) (hl : l.length ≤ 1000000) : ACalls E 22 [.sl none 1 (l.map str)] (fun r t => r = .sl none 1 (l.map str) ∧ t = []) := (sclone_t l hl).untok
theorem sorted_p (l : List Bs) (hl : l.length ≤ 1000000) : ACalls E 20 [.fn 35 [.rptr [.sl none 1 (l.map str)]]] (fun r t => r = .sl none 1 ((srt l).map str) ∧ t = []) := (sorted_c l hl).untok
theorem prevW {i : Nat} (h : 0 < i) (h2 : i < 1000000000) : (IntKind.i64.wrap ((i:Int) - 1)).toNat = i - 1 := by rw [wrap64_id (by omega) (by omega)]; omega
theorem good_y {x : Bs} (h1 : ¬ x = []) (h2 : x.length ≤ 16) : goodN x = true := by simp [goodN, h1, h2]
theorem good_n1 {x : Bs} (h1 : x = []) : goodN x = false := by simp [goodN, h1]
theorem good_n2 {x : Bs} (h1 : 16 < x.length) : goodN x = false := by simp [goodN]; omega
theorem cl_sl {l : List Bs} : ∀ x ∈ (AV.agg [.sl none 1 (l.map str)]).leaves, x.clean1 = some x := by
  intro x hx
  simp only [AV.leaves, List.mem_singleton] at hx
  subst hx; rfl
theorem fresh_strs (l : List Bs) : Fresh [l.length] (.sl (some 0) 1 (l.map str)) := by
  refine ⟨by simp, fun e he => ?_⟩
  obtain ⟨x, _, rfl⟩ := List.mem_map.1 he
  intro y hy
  simp only [AV.leaves, List.mem_singleton] at hy
  exact ⟨_, hy⟩

set_option maxRecDepth 100000 in
set_option maxHeartbeats 4000000 in
theorem names_call {ops : Array Oper} {l0 : List Oper} {Q : Exit → St → Prop} {tmps up : List AV} {gl : Nat → Option (List AV)} {own : List (Option (List AV))} {tk : List Nat} {dst : Option Tmp} {x0 : Operand} {tys : Array TypeId} {ty : TypeId} {pos : String} {after : Array Edge} {id c : Nat} {nm : List Bs} {cn : List Int} {m d : Int}
    (hx0 : St.ev ⟨tmps, own, tk, gl, none, up⟩ x0 = .ptr id 0 0)
    (ho : own[id]? = some (some [bdV nm c m d])) (hc : own[c]? = some (some (cn.map i64))) (hl : cn.length = nm.length) (hn : nm.length ≤ 1000)
    (h0 : AWPL E ops l0 Q (St.put ⟨tmps, own, tk, gl, none, up⟩ dst (.sl none 1 (nm.map str)))) :
    AWPL E ops (⟨dst, .call ⟨.value (.func 8), #[x0], tys⟩, ty, pos, after, none⟩ :: l0) Q ⟨tmps, own, tk, gl, none, up⟩ := by
  refine AWPL.call (caps := []) (rs := [.tmp 2]) Try.func8 rfl Try.ntmps8 rfl (by kernel_rfl) rfl rfl ?_
  show AWP E _ _ ⟨([St.ev _ x0] ++ []) ++ List.replicate (10 - 1) (.v undef), own, tk, gl, none, tmps ++ up⟩
  rw [hx0]
  have hB0 : ∀ (tm : List AV) (ow : List (Option (List AV))) (u0 : AV), ow = own → tm[2]? = some u0 → u0 = .sl none 1 (nm.map str) → AInPost E.P [.tmp 2] ⟨tmps, own, tk, gl, none, up⟩ (fun s z => AWPL E ops l0 Q (s.put dst z)) .ret ⟨tm, ow, tk, gl, none, tmps ++ up⟩ := by
    intro tm ow u0   how hu0 eu0
    rw [how]; rw [eu0] at hu0
    refine ⟨rfl, ?_⟩
    have gu0 : St.ev ⟨tm, own, tk, gl, none, tmps ++ up⟩ (.tmp 2) = .sl none 1 (nm.map str) := by simp [St.ev, List.getD_eq_getElem?_getD, hu0]
    show AWPL E ops l0 Q (St.put _ dst (tupOf [St.ev _ (.tmp 2)]))
    rw [gu0]
    exact h0  
  generalize AInPost E.P [.tmp 2] ⟨tmps, own, tk, gl, none, up⟩ (fun s z => AWPL E ops l0 Q (s.put dst z)) = Q' at hB0 ⊢
  generalize tmps ++ up = up' at hB0 ⊢
  clear h0 hx0
  repeat' (first
    | refine AWP.seqk fun K hK => ?_
    | (refine AWP.region ?_; simp only [go_sem, ho, hc])
    | (refine hK _ ?_; clear hK K)
    | refine AWP.block ?_
    | refine AWP.cond rfl (fun c => ?_) (fun c => ?_) <;> first | exact Bool.noConfusion c | (try simp only [dD] at c)
    | refine AWP.skip ?_
    | (refine AWP.exit ?_; simp only [go_sem, ho, hc])
    | (refine ACall.one (sclone_p nm (by omega)) (by kernel_rfl) rfl ?_; simp only [go_sem, ho, hc])
    | (refine AGet.haveM (by assumption) ?_; (try simp only [go_sem, ho, hc]))
    | (refine AGet.have' (by assumption) ?_; (try simp only [go_sem, ho, hc]))
    | ((first | refine AGet.nth ?_ (fun b hb => ?_) | refine AGet.nth1 ?_ (fun b hb => ?_) | with_reducible refine And.intro ?_ ?_); (focus (first | omega | assumption | exact List.length_pos_iff.2 (by assumption) | (simp only [List.length_append, List.length_cons, List.length_nil, List.length_map, List.length_take, List.length_drop] at *; omega) | (rw [wrap64_id (by omega) (by omega)]; omega) | (simp; done) | (simp [spare_len]; done) | (exact ⟨by omega, by omega⟩))); (try simp only [hb, go_sem, ho, hc]))
    | (
        refine AWP.ret ?_
        (try simp only [inb_ret, athen_ret])
        first
        | (exact hB0 _ _ _ rfl rfl rfl)
        | (exact hB0 _ _ _ (by assumption) rfl rfl))
    | refine AWP.fin (by assumption) ?_
    | fail)

set_option maxRecDepth 100000 in
set_option maxHeartbeats 4000000 in
theorem new_call {ops : Array Oper} {l0 : List Oper} {Q : Exit → St → Prop} {tmps up : List AV} {gl : Nat → Option (List AV)} {own : List (Option (List AV))} {tk : List Nat} {dst : Option Tmp} {x0 : Operand} {tys : Array TypeId} {ty : TypeId} {pos : String} {after : Array Edge} {names : List Bs}
    (hx0 : St.ev ⟨tmps, own, tk, gl, none, up⟩ x0 = .sl none 1 (names.map str))
    (hbu : (tmps ++ up).all (AV.bel own.length tk.length) = true) (hbo : OwnBel own own.length tk.length) (hl : names.length ≤ 1000000)
    (h0 : newS names = none → AWPL E ops l0 Q (St.put ⟨tmps, own, tk, gl, none, up⟩ dst (.tup [.v (.pointer none), i64 1])))
    (h2 : newS names = some (srt names) → AWPL E ops l0 Q (St.put ⟨tmps, own ++ [some [AV.agg [AV.sl none 1 (names.map str)]], some (List.replicate names.length (i64 0)), some [bdV (srt names) (own.length + 1) 0 0]], tk, gl, none, up⟩ dst (.tup [.ptr (own.length + 2) 0 0, i64 0]))) :
    AWPL E ops (⟨dst, .call ⟨.value (.func 7), #[x0], tys⟩, ty, pos, after, none⟩ :: l0) Q ⟨tmps, own, tk, gl, none, up⟩ := by
  refine AWPL.call (caps := []) (rs := [.tmp 2, .tmp 3]) Try.func7 rfl Try.ntmps7 rfl (by kernel_rfl) rfl rfl ?_
  show AWP E _ _ ⟨([St.ev _ x0] ++ []) ++ List.replicate (52 - 1) (.v undef), own, tk, gl, none, tmps ++ up⟩
  rw [hx0]
  have hB0 : ∀ (tm : List AV) (ow : List (Option (List AV))) (u0 : AV) (u1 : AV), newS names = none → ow = own → tm[2]? = some u0 → u0 = .v (.pointer none) → tm[3]? = some u1 → u1 = i64 1 → AInPost E.P [.tmp 2, .tmp 3] ⟨tmps, own, tk, gl, none, up⟩ (fun s z => AWPL E ops l0 Q (s.put dst z)) .ret ⟨tm, ow, tk, gl, none, tmps ++ up⟩ := by
    intro tm ow u0 u1  hc0 how hu0 eu0 hu1 eu1
    rw [how]; rw [eu0] at hu0; rw [eu1] at hu1
    refine ⟨rfl, ?_⟩
    have gu0 : St.ev ⟨tm, own, tk, gl, none, tmps ++ up⟩ (.tmp 2) = .v (.pointer none) := by simp [St.ev, List.getD_eq_getElem?_getD, hu0]
    have gu1 : St.ev ⟨tm, own, tk, gl, none, tmps ++ up⟩ (.tmp 3) = i64 1 := by simp [St.ev, List.getD_eq_getElem?_getD, hu1]
    show AWPL E ops l0 Q (St.put _ dst (tupOf [St.ev _ (.tmp 2), St.ev _ (.tmp 3)]))
    rw [gu0, gu1]
    exact h0  hc0
  have hB2 : ∀ (tm : List AV) (ow : List (Option (List AV))) (u0 : AV) (u1 : AV), newS names = some (srt names) → ow = own ++ [some [AV.agg [AV.sl none 1 (names.map str)]], some (List.replicate names.length (i64 0)), some [bdV (srt names) (own.length + 1) 0 0]] → tm[2]? = some u0 → u0 = .ptr (own.length + 2) 0 0 → tm[3]? = some u1 → u1 = i64 0 → AInPost E.P [.tmp 2, .tmp 3] ⟨tmps, own, tk, gl, none, up⟩ (fun s z => AWPL E ops l0 Q (s.put dst z)) .ret ⟨tm, ow, tk, gl, none, tmps ++ up⟩ := by
    intro tm ow u0 u1  hc0 how hu0 eu0 hu1 eu1
    rw [how]; rw [eu0] at hu0; rw [eu1] at hu1
    refine ⟨rfl, ?_⟩
    have gu0 : St.ev ⟨tm, own ++ [some [AV.agg [AV.sl none 1 (names.map str)]], some (List.replicate names.length (i64 0)), some [bdV (srt names) (own.length + 1) 0 0]], tk, gl, none, tmps ++ up⟩ (.tmp 2) = .ptr (own.length + 2) 0 0 := by simp [St.ev, List.getD_eq_getElem?_getD, hu0]
    have gu1 : St.ev ⟨tm, own ++ [some [AV.agg [AV.sl none 1 (names.map str)]], some (List.replicate names.length (i64 0)), some [bdV (srt names) (own.length + 1) 0 0]], tk, gl, none, tmps ++ up⟩ (.tmp 3) = i64 0 := by simp [St.ev, List.getD_eq_getElem?_getD, hu1]
    show AWPL E ops l0 Q (St.put _ dst (tupOf [St.ev _ (.tmp 2), St.ev _ (.tmp 3)]))
    rw [gu0, gu1]
    exact h2  hc0
  generalize AInPost E.P [.tmp 2, .tmp 3] ⟨tmps, own, tk, gl, none, up⟩ (fun s z => AWPL E ops l0 Q (s.put dst z)) = Q' at hB0 hB2 ⊢
  generalize tmps ++ up = up' at hbu hB0 hB2 ⊢
  clear h0 h2 hx0
  have hsl := srt_len names
  repeat' (first
    | refine AWP.seqk fun K hK => ?_
    | (
        refine AWP.here 4 18 3 rfl ?_
        refine AWP.forget 17 rfl ?_
        simp only [go_sem, ow_len1, ow_len2, ow_len3, ow_app1, ow_app2, ow_get10, ow_get20, ow_get21, ow_get30, ow_get31, ow_get32, ow_set10, ow_set20, ow_set21, ow_set30, ow_set31, hsl]
        refine AWP.forget 4 rfl ?_
        simp only [go_sem, ow_len1, ow_len2, ow_len3, ow_app1, ow_app2, ow_get10, ow_get20, ow_get21, ow_get30, ow_get31, ow_get32, ow_set10, ow_set20, ow_set21, ow_set30, ow_set31, hsl]
        have hbo1 : OwnBel (own ++ [some [AV.agg [AV.sl none 1 (names.map str)]]]) (own ++ [some [AV.agg [AV.sl none 1 (names.map str)]]]).length tk.length := (hbo.mono (by simp) (by omega)).app (OwnBel.cons (by rintro es ⟨rfl⟩; simp [AV.leaves, AV.bel, AV.bel2, AV.bel1]) OwnBel.nil)
        have hbu1 := up_mono (no' := (own ++ [some [AV.agg [AV.sl none 1 (names.map str)]]]).length) (nt' := tk.length) (by simp) (Nat.le_refl _) hbu
        refine AWP.dropTk (by simp [AV.bel, AV.bel2, AV.bel1]) hbo1 hbu1 ?_
        simp only [ow_len1] at hbo1 hbu1
        refine AWP.region ?_; simp only [go_sem, ow_len1, ow_len2, ow_len3, ow_app1, ow_app2, ow_get10, ow_get20, ow_get21, ow_get30, ow_get31, ow_get32, ow_set10, ow_set20, ow_set21, ow_set30, ow_set31, hsl])
    | (
        refine AWP.here 7 25 20 rfl ?_
        have hpw : 0 < i → (IntKind.i64.wrap ((i:Int) - 1)).toNat = i - 1 := fun h => prevW h (by omega)
        refine AWP.region ?_; simp only [go_sem, ow_len1, ow_len2, ow_len3, ow_app1, ow_app2, ow_get10, ow_get20, ow_get21, ow_get30, ow_get31, ow_get32, ow_set10, ow_set20, ow_set21, ow_set30, ow_set31, hsl])
    | (
        refine AWP.here 10 46 8 rfl ?_
        refine AWP.regionL ?_
        refine AWPL.at 8 3 rfl ?_
        simp only [go_sem, ow_len1, ow_len2, ow_len3, ow_app1, ow_app2, ow_get10, ow_get20, ow_get21, ow_get30, ow_get31, ow_get32, ow_set10, ow_set20, ow_set21, ow_set30, ow_set31, hsl]
        refine ⟨⟨_, rfl⟩, ?_⟩
        refine AWPL.makeMu (k := 1) (n := 8) (m := names.length) (el := i64 0) ap54 (by kernel_rfl) (by rfl) (by rfl) rfl (by omega) (by omega) (by omega) ?_
        simp only [go_sem, ow_len1, ow_len2, ow_len3, ow_app1, ow_app2, ow_get10, ow_get20, ow_get21, ow_get30, ow_get31, ow_get32, ow_set10, ow_set20, ow_set21, ow_set30, ow_set31, hsl]
        refine AWPL.of ?_
        simp only [go_sem, ow_len1, ow_len2, ow_len3, ow_app1, ow_app2, ow_get10, ow_get20, ow_get21, ow_get30, ow_get31, ow_get32, ow_set10, ow_set20, ow_set21, ow_set30, ow_set31, hsl])
    | (refine ACall.snap (sorted_c names hl) (by kernel_rfl) rfl (.cons (.fn (.cons (.ptr (e := .agg [.sl none 1 (names.map str)]) (by simp) cl_sl) .nil)) .nil) ?_; rintro r t ⟨rfl, rfl⟩; refine ⟨fresh_strs _, ?_⟩; simp only [go_sem, ow_len1, ow_len2, ow_len3, ow_app1, ow_app2, ow_get10, ow_get20, ow_get21, ow_get30, ow_get31, ow_get32, ow_set10, ow_set20, ow_set21, ow_set30, ow_set31, hsl])
    | (refine AWPL.call (rs := [.tmp 2]) Try.func21 rfl Try.ntmps21 rfl (by kernel_rfl) rfl rfl ?_; simp only [go_sem])
    | (refine AWP.here 3 15 4 rfl ?_; refine AWP.regionL ?_; refine AWPL.at 4 1 rfl ?_; simp only [go_sem, ow_len1, ow_len2, ow_len3, ow_app1, ow_app2, ow_get10, ow_get20, ow_get21, ow_get30, ow_get31, ow_get32, ow_set10, ow_set20, ow_set21, ow_set30, ow_set31, hsl])
    | (refine AWP.region ?_; simp only [go_sem, ow_len1, ow_len2, ow_len3, ow_app1, ow_app2, ow_get10, ow_get20, ow_get21, ow_get30, ow_get31, ow_get32, ow_set10, ow_set20, ow_set21, ow_set30, ow_set31, hsl])
    | (refine hK _ ?_; clear hK K)
    | refine AWP.block ?_
    | refine AWP.cond rfl (fun c => ?_) (fun c => ?_) <;> first | exact Bool.noConfusion c | (try simp only [dD] at c)
    | refine AWP.skip ?_
    | (refine AWP.exit ?_; simp only [go_sem, ow_len1, ow_len2, ow_len3, ow_app1, ow_app2, ow_get10, ow_get20, ow_get21, ow_get30, ow_get31, ow_get32, ow_set10, ow_set20, ow_set21, ow_set30, ow_set31, hsl])
    | (refine AGuard.splitN (fun h => ?_) (fun h => ?_) <;> simp only [h, go_sem, ow_len1, ow_len2, ow_len3, ow_app1, ow_app2, ow_get10, ow_get20, ow_get21, ow_get30, ow_get31, ow_get32, ow_set10, ow_set20, ow_set21, ow_set30, ow_set31, hsl] <;> (try simp only [dD] at h))
    | (refine AGuard.split (fun h => ?_) (fun h => ?_) <;> simp only [h, go_sem, ow_len1, ow_len2, ow_len3, ow_app1, ow_app2, ow_get10, ow_get20, ow_get21, ow_get30, ow_get31, ow_get32, ow_set10, ow_set20, ow_set21, ow_set30, ow_set31, hsl] <;> (try simp only [dD] at h))
    | (refine AGet.haveM (by assumption) ?_; (try simp only [go_sem, ow_len1, ow_len2, ow_len3, ow_app1, ow_app2, ow_get10, ow_get20, ow_get21, ow_get30, ow_get31, ow_get32, ow_set10, ow_set20, ow_set21, ow_set30, ow_set31, hsl]))
    | (refine AGet.have' (by assumption) ?_; (try simp only [go_sem, ow_len1, ow_len2, ow_len3, ow_app1, ow_app2, ow_get10, ow_get20, ow_get21, ow_get30, ow_get31, ow_get32, ow_set10, ow_set20, ow_set21, ow_set30, ow_set31, hsl]))
    | ((first | refine AGet.nth ?_ (fun b hb => ?_) | refine AGet.nth1 ?_ (fun b hb => ?_) | with_reducible refine And.intro ?_ ?_); (focus (first | omega | assumption | exact List.length_pos_iff.2 (by assumption) | (simp only [List.length_append, List.length_cons, List.length_nil, List.length_map, List.length_take, List.length_drop] at *; omega) | (rw [wrap64_id (by omega) (by omega)]; omega) | (simp; done) | (simp [spare_len]; done) | (exact ⟨by omega, by omega⟩) | (simp only [List.length_mergeSort]; omega) | (rw [List.length_mergeSort, wrap64_id (by omega) (by omega)]; omega))); (try simp only [hb, go_sem, ow_len1, ow_len2, ow_len3, ow_app1, ow_app2, ow_get10, ow_get20, ow_get21, ow_get30, ow_get31, ow_get32, ow_set10, ow_set20, ow_set21, ow_set30, ow_set31, hsl]))
    | (
        refine AWP.here 5 21 1 rfl ?_
        refine AWP.loopN (ι := Nat) [2, 3, 5, 6, 21, 22, 23, 24, 25, 26, 27, 28, 29, 30, 31, 32, 33, 34, 35, 36, 37, 38, 39, 40, 41, 42, 43, 44, 45] (fun (i : Nat) => [(20, i64 i)]) (fun (i : Nat) => i ≤ (srt names).length ∧ okTo (srt names) i) (fun (i : Nat) => (srt names).length - i) (0) ?_ ?_ ?_
        · (try simp only [go_sem]); (try simp only [ow_len1, ow_len2, ow_len3, ow_app1, ow_app2, ow_get10, ow_get20, ow_get21, ow_get30, ow_get31, ow_get32, ow_set10, ow_set20, ow_set21, ow_set30, ow_set31]); (repeat' (first | assumption | exact OwnBel.wk (by assumption) | exact wkK_self | refine And.intro ?_ ?_ | exact .inl rfl | exact .inr rfl | exact .inr ⟨rfl, rfl⟩ | trivial | exact .inr (oblA rfl) | exact .inr ⟨rfl, oblA rfl⟩ | exact .inr bel_strs | exact .inr ⟨rfl, bel_strs⟩ | exact .inr ⟨by simp, bel_strs⟩ | (simp; done) | exact .inr ⟨rfl, by simp⟩ | exact .inr ⟨by simp, by simp⟩)); done
        · exact ⟨by omega, fun j hj => absurd hj (by omega)⟩
        rintro i ⟨h1, h2⟩
        simp only [go_sem, ow_len1, ow_len2, ow_len3, ow_app1, ow_app2, ow_get10, ow_get20, ow_get21, ow_get30, ow_get31, ow_get32, ow_set10, ow_set20, ow_set21, ow_set30, ow_set31, hsl])
    | (
        refine ⟨i + 1, ?_, ?_, ?_⟩
        · (try simp only [go_sem]); (try rw [wrap64_id (by omega) (by omega)]); (try simp only [ow_len1, ow_len2, ow_len3, ow_app1, ow_app2, ow_get10, ow_get20, ow_get21, ow_get30, ow_get31, ow_get32, ow_set10, ow_set20, ow_set21, ow_set30, ow_set31]); (repeat' (first | assumption | exact OwnBel.wk (by assumption) | exact wkK_self | refine And.intro ?_ ?_ | exact .inl rfl | exact .inr rfl | exact .inr ⟨rfl, rfl⟩ | trivial | exact .inr (oblA rfl) | exact .inr ⟨rfl, oblA rfl⟩ | exact .inr bel_strs | exact .inr ⟨rfl, bel_strs⟩ | exact .inr ⟨by simp, bel_strs⟩ | (simp; done) | exact .inr ⟨rfl, by simp⟩ | exact .inr ⟨by simp, by simp⟩)); done
        · exact ⟨by omega, okTo_next h2 (by assumption) (good_y (by assumption) (by omega)) (fun hp y hy => by first | (exfalso; omega) | (rw [← hpw hp] at hy; simp_all))⟩
        · (try simp only []); omega)
    | (
        refine AWP.ret ?_
        (try simp only [inb_ret, athen_ret])
        exact hB0 _ _ _ _ (new_len (by omega)) rfl rfl rfl rfl rfl)
    | (
        refine AWP.weaken (t := ⟨[.any, .any, .v (.pointer none), i64 1, .any, .any, .any, .any, .any, .any, .any, .any, .any, .any, .any, .any, .any, .any, .any, .any, .any, .any, .any, .any, .any, .any, .any, .any, .any, .any, .any, .any, .any, .any, .any, .any, .any, .any, .any, .any, .any, .any, .any, .any, .any, .any, .any, .any, .any, .any, .any, .any], own, tk, gl, none, up'⟩) ⟨⟨.inl rfl, .inl rfl, .inr ⟨rfl, rfl⟩, .inr ⟨rfl, rfl⟩, .inl rfl, .inl rfl, .inl rfl, .inl rfl, .inl rfl, .inl rfl, .inl rfl, .inl rfl, .inl rfl, .inl rfl, .inl rfl, .inl rfl, .inl rfl, .inl rfl, .inl rfl, .inl rfl, .inl rfl, .inl rfl, .inl rfl, .inl rfl, .inl rfl, .inl rfl, .inl rfl, .inl rfl, .inl rfl, .inl rfl, .inl rfl, .inl rfl, .inl rfl, .inl rfl, .inl rfl, .inl rfl, .inl rfl, .inl rfl, .inl rfl, .inl rfl, .inl rfl, .inl rfl, .inl rfl, .inl rfl, .inl rfl, .inl rfl, .inl rfl, .inl rfl, .inl rfl, .inl rfl, .inl rfl, .inl rfl, trivial⟩, wkO_app hbo, wkK_self, rfl, rfl, rfl, hbu⟩ ?_
        refine AWP.ret ?_
        (try simp only [inb_ret, athen_ret])
        exact hB0 _ _ _ _ (by first | exact new_bad1 (by assumption) (good_n1 (by assumption)) | exact new_bad1 (by assumption) (good_n2 (by omega)) | (exact new_bad2 (i := i) (by omega) (by assumption) (by rw [← hpw (by omega)]; simp_all))) rfl rfl rfl rfl rfl)
    | (
        refine AWP.ret ?_
        (try simp only [inb_ret, athen_ret])
        exact hB2 _ _ _ _ (new_ok (by omega) (by omega) (by omega) h2) (by simp only [bdV, hsl]) rfl rfl rfl rfl)
    | (refine AWP.ret ?_; refine AInPost.ret rfl ?_; simp only [go_sem, ow_len1, ow_len2, ow_len3, ow_app1, ow_app2, ow_get10, ow_get20, ow_get21, ow_get30, ow_get31, ow_get32, ow_set10, ow_set20, ow_set21, ow_set30, ow_set31, hsl])
    | (refine AWP.ret ?_; simp only [inb_ret, athen_ret]; refine AInPost.ret rfl ?_; simp only [go_sem, ow_len1, ow_len2, ow_len3, ow_app1, ow_app2, ow_get10, ow_get20, ow_get21, ow_get30, ow_get31, ow_get32, ow_set10, ow_set20, ow_set21, ow_set30, ow_set31, hsl])
    | (refine AWP.ret ?_; (try simp only [inb_ret, athen_ret]); refine AInPost.ret rfl ?_; (try simp only [go_sem, ow_len1, ow_len2, ow_len3, ow_app1, ow_app2, ow_get10, ow_get20, ow_get21, ow_get30, ow_get31, ow_get32, ow_set10, ow_set20, ow_set21, ow_set30, ow_set31, hsl]))
    | (refine AWPL.of ?_; simp only [go_sem, ow_len1, ow_len2, ow_len3, ow_app1, ow_app2, ow_get10, ow_get20, ow_get21, ow_get30, ow_get31, ow_get32, ow_set10, ow_set20, ow_set21, ow_set30, ow_set31, hsl])
    | refine AWP.fin (by assumption) ?_
    | fail)


end Go.Proofs.Ytceiiajacnihjaa
