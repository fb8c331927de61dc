import Derived.Test.YtceiiajacnihjaaC5
set_option linter.unusedVariables false
set_option linter.unusedSimpArgs false
namespace Go.Proofs.Ytceiiajacnihjaa
open Go Go.Abs Go.RowKit Go.Bk
theorem ins_step {l : List Bs} {x y : Bs} {j : Nat} (h : j ≤ insAt l x) (hy : l[j]? = some y) (hlt : y < x) : j + 1 ≤ insAt l x := by
  rcases Nat.lt_or_ge j (insAt l x) with h2 | h2
  · omega
  · have : j = insAt l x := by omega
    rw [this] at hy
    exact absurd hlt (insAt_head hy)
theorem ins_stop {l : List Bs} {x y : Bs} {j : Nat} (h : j ≤ insAt l x) (hy : l[j]? = some y) (hlt : ¬ y < x) : j = insAt l x := by
  rcases Nat.lt_or_ge j (insAt l x) with h2 | h2
  · have hm : y ∈ l.take (insAt l x) := List.mem_iff_getElem?.2 ⟨j, by rw [List.getElem?_take, if_pos h2]; exact hy⟩
    exact absurd (insAt_take l x y hm) hlt
  · omega
theorem ins_end {l : List Bs} {x : Bs} {j : Nat} (h : j ≤ insAt l x) (hj : l.length ≤ j) : j = insAt l x := by have := insAt_le l x; omega
theorem ins_bad {l : List Bs} {x y : Bs} {j : Nat} (h : j ≤ insAt l x) (hj : j = insAt l x) (hy : l[j]? = some y) (e : y = x) : l[insAt l x]? = some x := by rw [← hj, ← e]; exact hy
theorem ins_no1 {l : List Bs} {x : Bs} {j : Nat} (hj : j = insAt l x) (h : l.length ≤ j) : ¬ l[insAt l x]? = some x := by rw [← hj, List.getElem?_eq_none h]; simp
theorem ins_no2 {l : List Bs} {x b : Bs} {j : Nat} (hj : j = insAt l x) (h : l[j]? = some b) (hb : ¬ b = x) : ¬ l[insAt l x]? = some x := by rw [← hj, h]; simpa using hb
theorem ins_map {l : List Bs} {x : Bs} {j : Nat} (hj : j = insAt l x) : (l.take j).map str ++ [str x] ++ (l.drop j).map str = (insR l x).map str := by rw [hj]; simp [insR]
theorem good_n0 {x : Bs} (h : x.length = 0) : goodN x = false := good_n1 (List.eq_nil_of_length_eq_zero h)
theorem good_y2 {x : Bs} (h : ¬ x.length = 0) (h2 : x.length ≤ 16) : goodN x = true := good_y (fun e => h (by rw [e]; rfl)) h2
theorem rg_bad {acc r : List Bs} {x : Bs} (h : 16 ≤ acc.length ∨ goodN x = false ∨ acc[insAt acc x]? = some x) : refGo acc (x :: r) = none := by
  unfold refGo; rw [if_pos h]
theorem rg_ok {acc r : List Bs} {x : Bs} (h1 : ¬ 16 ≤ acc.length) (h2 : goodN x = true) (h3 : ¬ acc[insAt acc x]? = some x) : refGo acc (x :: r) = refGo (insR acc x) r := by
  rw [refGo, if_neg (by simp [h1, h2, h3])]

set_option maxRecDepth 100000 in
set_option maxHeartbeats 8000000 in
theorem refnew_call {ops : Array Oper} {l0 : List Oper} {Q : Exit → St → Prop} {tmps up : List AV} {gl : Nat → Option (List AV)} {own : List (Option (List AV))} {dst : Option Tmp} {x0 : Operand} {tys : Array TypeId} {ty : TypeId} {pos : String} {after : Array Edge} {names : List Bs}
    (hx0 : St.ev ⟨tmps, own, [], gl, none, up⟩ x0 = .sl none 1 (names.map str)) (hl : names.length ≤ 1000000) (hbu : (tmps ++ up).all (AV.bel own.length 0) = true) (hbo : OwnBel own own.length 0)
    (h0 : refGo [] names = none → ∀ o1 o2, AWPL E ops l0 Q (St.put ⟨tmps, own ++ [o1, o2], [], gl, none, up⟩ dst (.tup [.agg [.nilS, .nilS], bl false])))
    (h1 : ∀ s, refGo [] names = some s → ∀ o1 o2, AWPL E ops l0 Q (St.put ⟨tmps, own ++ [o1, o2, some (List.replicate s.length (i64 0))], [], gl, none, up⟩ dst (.tup [.agg [.sl none 1 (s.map str), .mu (own.length + 2) 1 0 s.length s.length], bl (decide (0 < (names.length : Int)))]))) :
    AWPL E ops (⟨dst, .call ⟨.value (.func 12), #[x0], tys⟩, ty, pos, after, none⟩ :: l0) Q ⟨tmps, own, [], gl, none, up⟩ := by
  refine AWPL.call (caps := []) (rs := [.cell 2 37, .tmp 3]) Try.func12 rfl Try.ntmps12 rfl (by kernel_rfl) rfl rfl ?_
  show AWP E _ _ ⟨([St.ev _ x0] ++ []) ++ List.replicate (96 - 1) (.v undef), own, [], gl, none, tmps ++ up⟩
  rw [hx0]
  have hB0 : ∀ (tm : List AV) (o2 : Option (List AV)), refGo [] names = none → tm[2]? = some (.ptr own.length 0 0) → tm[3]? = some (bl false) → AInPost E.P [.cell 2 37, .tmp 3] ⟨tmps, own, [], gl, none, up⟩ (fun s z => AWPL E ops l0 Q (s.put dst z)) .ret ⟨tm, own ++ [some [AV.agg [.nilS, .nilS]], o2], [], gl, none, tmps ++ up⟩ := by
    intro tm o2 hr h2 h3
    refine ⟨rfl, ?_⟩
    have g2 : tm.getD 2 .any = .ptr own.length 0 0 := by simp [List.getD_eq_getElem?_getD, h2]
    have g3 : tm.getD 3 .any = bl false := by simp [List.getD_eq_getElem?_getD, h3]
    simp only [go_sem, g2, g3, ow_get20]
    exact h0 hr _ _
  have hB1 : ∀ (tm : List AV) (s : List Bs) (o2 : Option (List AV)) (b : Bool), refGo [] names = some s → b = decide (0 < (names.length : Int)) → tm[2]? = some (.ptr own.length 0 0) → tm[3]? = some (bl b) → AInPost E.P [.cell 2 37, .tmp 3] ⟨tmps, own, [], gl, none, up⟩ (fun s z => AWPL E ops l0 Q (s.put dst z)) .ret ⟨tm, own ++ [some [AV.agg [.sl none 1 (s.map str), .mu (own.length + 2) 1 0 s.length s.length]], o2, some (List.replicate s.length (i64 0))], [], gl, none, tmps ++ up⟩ := by
    intro tm s o2 b hr hb h2 h3
    subst hb
    refine ⟨rfl, ?_⟩
    have g2 : tm.getD 2 .any = .ptr own.length 0 0 := by simp [List.getD_eq_getElem?_getD, h2]
    have g3 : tm.getD 3 .any = bl (decide (0 < (names.length : Int))) := by simp [List.getD_eq_getElem?_getD, h3]
    simp only [go_sem, g2, g3, ow_get30]
    exact h1 s hr _ _
  generalize AInPost E.P [.cell 2 37, .tmp 3] ⟨tmps, own, [], gl, none, up⟩ (fun s z => AWPL E ops l0 Q (s.put dst z)) = Q' at hB0 hB1 ⊢
  generalize tmps ++ up = up' at hbu hB0 hB1 ⊢
  clear h0 h1 hx0

  repeat' (first
    | refine AWP.seqk fun K hK => ?_
    | (
        refine AWP.here 5 13 18 rfl ?_
        obtain ⟨x, hx⟩ : ∃ x, names[i]? = some x := ⟨_, List.getElem?_eq_getElem (by omega)⟩
        rw [drop_cons hx] at h2
        have hx2 : (names.map str)[i]? = some (str x) := by rw [List.getElem?_map, hx]; rfl
        refine AWP.region ?_; simp only [go_sem, ow_app1, ow_app2, ow_len1, ow_len2, ow_get10, ow_get20, ow_get21, ow_get30, ow_get31, ow_get32, ow_set10, ow_set20, ow_set21, ow_set30, ow_set31, Go.Proofs.bytesLess_eq, hx, hx2, Option.map_some])
    | (
        refine AWP.here 8 32 17 rfl ?_
        refine AWP.regionO [0, 1, 2, 3, 4, 5, 6, 7, 8, 9, 10, 11, 12, 13, 14, 15, 16] [] (by kernel_rfl) (by kernel_rfl) rfl ?_; simp only [go_sem, ow_app1, ow_app2, ow_len1, ow_len2, ow_get10, ow_get20, ow_get21, ow_get30, ow_get31, ow_get32, ow_set10, ow_set20, ow_set21, ow_set30, ow_set31, Go.Proofs.bytesLess_eq, hx, hx2, Option.map_some])
    | (
        refine AWP.here 10 51 17 rfl ?_
        have hj : j = insAt acc x := by first | exact ins_stop (by assumption) (by assumption) (by assumption) | exact ins_end (by assumption) (by omega)
        refine AWP.regionO [0, 1, 2, 3, 4, 5, 6, 7, 8, 9, 10, 11, 12, 13, 14, 15, 16] [] (by kernel_rfl) (by kernel_rfl) rfl ?_; simp only [go_sem, ow_app1, ow_app2, ow_len1, ow_len2, ow_get10, ow_get20, ow_get21, ow_get30, ow_get31, ow_get32, ow_set10, ow_set20, ow_set21, ow_set30, ow_set31, Go.Proofs.bytesLess_eq, hx, hx2, Option.map_some])
    | (
        refine AWP.here 12 69 19 rfl ?_
        have hgo := h2.trans (rg_ok (by omega) (good_y2 (by omega) (by omega)) (by first | exact ins_no2 hj (by assumption) (by assumption) | exact ins_no1 hj (by omega)))
        refine AWP.regionAnyT (.take 1 (.take 2 (.take 3 (.take 4 (.take 6 (.take 7 (.take 8 (.take 9 (.take 12 (.take 13 (.take 14 (.take 15 (.fork (.alt 0 (.fork (.alt 5 (.take 10 (.take 11 (.take 16 (.take 17 (.take 18 .done))))) (.alt 10 (.take 5 (.take 11 (.take 16 (.take 17 (.take 18 .done))))) .ends))) (.alt 10 (.take 0 (.take 5 (.take 11 (.take 16 (.take 17 (.take 18 .done)))))) .ends))))))))))))))) [[], [], [1], [], [1, 2, 3], [0, 1, 2, 3, 4], [], [], [6, 7], [6, 7, 8], [6, 7, 8, 9], [0, 1, 2, 3, 4, 5, 6, 7, 8, 9, 10], [], [12], [], [12, 13, 14], [0, 1, 2, 3, 4, 5, 6, 7, 8, 9, 10, 11, 12, 13, 14, 15], [0, 1, 2, 3, 4, 5, 6, 7, 8, 9, 10, 11, 12, 13, 14, 15, 16], [0, 1, 2, 3, 4, 5, 6, 7, 8, 9, 10, 11, 12, 13, 14, 15, 16, 17]] [] (by kernel_rfl) (by kernel_rfl) ?_; simp only [go_sem, ow_app1, ow_app2, ow_len1, ow_len2, ow_get10, ow_get20, ow_get21, ow_get30, ow_get31, ow_get32, ow_set10, ow_set20, ow_set21, ow_set30, ow_set31, Go.Proofs.bytesLess_eq, hx, hx2, Option.map_some])
    | (
        refine AWP.here 4 11 3 rfl ?_
        refine AWP.forgetLeaf (own.length + 1) 0 _ ow_get21 rfl ?_
        rw [ins_map hj]
        simp only [go_sem, ow_app1, ow_app2, ow_len1, ow_len2, ow_get10, ow_get20, ow_get21, ow_get30, ow_get31, ow_get32, ow_set10, ow_set20, ow_set21, ow_set30, ow_set31, Go.Proofs.bytesLess_eq]
        refine AWP.region ?_; simp only [go_sem, ow_app1, ow_app2, ow_len1, ow_len2, ow_get10, ow_get20, ow_get21, ow_get30, ow_get31, ow_get32, ow_set10, ow_set20, ow_set21, ow_set30, ow_set31, Go.Proofs.bytesLess_eq])
    | (
        refine AWP.here 13 87 6 rfl ?_
        refine AWP.regionL ?_
        refine AWPL.at 6 3 rfl ?_
        simp only [go_sem, ow_app1, ow_app2, ow_len1, ow_len2, ow_get10, ow_get20, ow_get21, ow_get30, ow_get31, ow_get32, ow_set10, ow_set20, ow_set21, ow_set30, ow_set31, Go.Proofs.bytesLess_eq]
        refine ⟨⟨_, rfl⟩, ?_⟩
        refine AWPL.makeMu (k := 1) (n := 8) (m := acc.length) (el := i64 0) ap35 (by kernel_rfl) (by rfl) (by rfl) rfl (by omega) (by omega) (by omega) ?_
        simp only [go_sem, ow_app1, ow_app2, ow_len1, ow_len2, ow_get10, ow_get20, ow_get21, ow_get30, ow_get31, ow_get32, ow_set10, ow_set20, ow_set21, ow_set30, ow_set31, Go.Proofs.bytesLess_eq]
        refine AWPL.of ?_
        simp only [go_sem, ow_app1, ow_app2, ow_len1, ow_len2, ow_get10, ow_get20, ow_get21, ow_get30, ow_get31, ow_get32, ow_set10, ow_set20, ow_set21, ow_set30, ow_set31, Go.Proofs.bytesLess_eq])
    | (refine AWP.region ?_; simp only [go_sem, ow_app1, ow_app2, ow_len1, ow_len2, ow_get10, ow_get20, ow_get21, ow_get30, ow_get31, ow_get32, ow_set10, ow_set20, ow_set21, ow_set30, ow_set31, Go.Proofs.bytesLess_eq])
    | (refine AWP.here 8 32 17 rfl ?_; refine AWP.regionO [0, 1, 2, 3, 4, 5, 6, 7, 8, 9, 10, 11, 12, 13, 14, 15, 16] [] (by kernel_rfl) (by kernel_rfl) rfl ?_; simp only [go_sem, ow_app1, ow_app2, ow_len1, ow_len2, ow_get10, ow_get20, ow_get21, ow_get30, ow_get31, ow_get32, ow_set10, ow_set20, ow_set21, ow_set30, ow_set31, Go.Proofs.bytesLess_eq])
    | (refine AWP.here 10 51 17 rfl ?_; refine AWP.regionO [0, 1, 2, 3, 4, 5, 6, 7, 8, 9, 10, 11, 12, 13, 14, 15, 16] [] (by kernel_rfl) (by kernel_rfl) rfl ?_; simp only [go_sem, ow_app1, ow_app2, ow_len1, ow_len2, ow_get10, ow_get20, ow_get21, ow_get30, ow_get31, ow_get32, ow_set10, ow_set20, ow_set21, ow_set30, ow_set31, Go.Proofs.bytesLess_eq])
    | (refine AWP.here 12 69 19 rfl ?_; refine AWP.regionAnyT (.take 1 (.take 2 (.take 3 (.take 4 (.take 6 (.take 7 (.take 8 (.take 9 (.take 12 (.take 13 (.take 14 (.take 15 (.fork (.alt 0 (.fork (.alt 5 (.take 10 (.take 11 (.take 16 (.take 17 (.take 18 .done))))) (.alt 10 (.take 5 (.take 11 (.take 16 (.take 17 (.take 18 .done))))) .ends))) (.alt 10 (.take 0 (.take 5 (.take 11 (.take 16 (.take 17 (.take 18 .done)))))) .ends))))))))))))))) [[], [], [1], [], [1, 2, 3], [0, 1, 2, 3, 4], [], [], [6, 7], [6, 7, 8], [6, 7, 8, 9], [0, 1, 2, 3, 4, 5, 6, 7, 8, 9, 10], [], [12], [], [12, 13, 14], [0, 1, 2, 3, 4, 5, 6, 7, 8, 9, 10, 11, 12, 13, 14, 15], [0, 1, 2, 3, 4, 5, 6, 7, 8, 9, 10, 11, 12, 13, 14, 15, 16], [0, 1, 2, 3, 4, 5, 6, 7, 8, 9, 10, 11, 12, 13, 14, 15, 16, 17]] [] (by kernel_rfl) (by kernel_rfl) ?_; simp only [go_sem, ow_app1, ow_app2, ow_len1, ow_len2, ow_get10, ow_get20, ow_get21, ow_get30, ow_get31, ow_get32, ow_set10, ow_set20, ow_set21, ow_set30, ow_set31, Go.Proofs.bytesLess_eq])
    | (refine hK _ ?_; clear hK K)
    | refine AWP.block ?_
    | refine AWP.cond rfl (fun c => ?_) (fun c => ?_) <;> first | exact Bool.noConfusion c | (try simp only [dD] at c)
    | refine AWP.skip ?_
    | (refine AWP.exit ?_; simp only [go_sem, ow_app1, ow_app2, ow_len1, ow_len2, ow_get10, ow_get20, ow_get21, ow_get30, ow_get31, ow_get32, ow_set10, ow_set20, ow_set21, ow_set30, ow_set31, Go.Proofs.bytesLess_eq])
    | (refine AGuard.splitN (fun h => ?_) (fun h => ?_) <;> simp only [h, go_sem, ow_app1, ow_app2, ow_len1, ow_len2, ow_get10, ow_get20, ow_get21, ow_get30, ow_get31, ow_get32, ow_set10, ow_set20, ow_set21, ow_set30, ow_set31, Go.Proofs.bytesLess_eq] <;> (try simp only [dD] at h))
    | (refine AGuard.split (fun h => ?_) (fun h => ?_) <;> simp only [h, go_sem, ow_app1, ow_app2, ow_len1, ow_len2, ow_get10, ow_get20, ow_get21, ow_get30, ow_get31, ow_get32, ow_set10, ow_set20, ow_set21, ow_set30, ow_set31, Go.Proofs.bytesLess_eq] <;> (try simp only [dD] at h))
    | (refine AGet.haveM (by assumption) ?_; (try simp only [go_sem, ow_app1, ow_app2, ow_len1, ow_len2, ow_get10, ow_get20, ow_get21, ow_get30, ow_get31, ow_get32, ow_set10, ow_set20, ow_set21, ow_set30, ow_set31, Go.Proofs.bytesLess_eq]))
    | (refine AGet.have' (by assumption) ?_; (try simp only [go_sem, ow_app1, ow_app2, ow_len1, ow_len2, ow_get10, ow_get20, ow_get21, ow_get30, ow_get31, ow_get32, ow_set10, ow_set20, ow_set21, ow_set30, ow_set31, Go.Proofs.bytesLess_eq]))
    | ((first | refine AGet.nth ?_ (fun b hb => ?_) | refine AGet.nth1 ?_ (fun b hb => ?_) | with_reducible refine And.intro ?_ ?_); (focus (first | omega | assumption | exact List.length_pos_iff.2 (by assumption) | (simp only [List.length_append, List.length_cons, List.length_nil, List.length_map, List.length_take, List.length_drop] at *; omega) | (rw [wrap64_id (by omega) (by omega)]; omega) | (simp; done) | (simp [spare_len]; done) | (exact ⟨by omega, by omega⟩) | (rw [insR_len]; omega) | (simp only [List.length_take, List.length_drop]; omega))); (try simp only [hb, go_sem, ow_app1, ow_app2, ow_len1, ow_len2, ow_get10, ow_get20, ow_get21, ow_get30, ow_get31, ow_get32, ow_set10, ow_set20, ow_set21, ow_set30, ow_set31, Go.Proofs.bytesLess_eq]))
    | exact rfl
    | refine And.intro (a := ACall _ _ _ _ _ _ _ _) ?_ ?_
    | refine And.intro (a := AGet _ _) ?_ ?_
    | refine And.intro (a := AGuard _ _ _ _ _ _ _) ?_ ?_
    | (
        refine AWP.here 3 7 4 rfl ?_
        refine AWP.nilPlainLeaf (own.length + 1) 0 1 [.nilS, .nilS] ow_get21 rfl ?_
        simp only [go_sem, ow_app1, ow_app2, ow_len1, ow_len2, ow_get10, ow_get20, ow_get21, ow_get30, ow_get31, ow_get32, ow_set10, ow_set20, ow_set21, ow_set30, ow_set31, Go.Proofs.bytesLess_eq]
        have hbN : ∀ acc : List Bs, OwnBel (own ++ [some [AV.agg [.nilS, .nilS]], some [AV.agg [.sl none 1 (acc.map str), .nilS]]]) (own.length + 2) 0 := fun acc => (hbo.mono (by omega) (Nat.le_refl _)).app (OwnBel.cons (by rintro es ⟨rfl⟩; simp [AV.leaves, AV.bel, AV.bel2, AV.bel1]) (OwnBel.cons (by rintro es ⟨rfl⟩; simp [AV.leaves, AV.bel, AV.bel2, AV.bel1]) OwnBel.nil))
        have hbu1 := up_mono (no' := own.length + 2) (nt' := 0) (by omega) (Nat.le_refl _) hbu
        refine AWP.loopM (ι := Nat × List Bs) [3, 6, 7, 8, 9, 10, 11, 12, 13, 14, 15, 16, 17, 18, 19, 20, 21, 22, 23, 24, 25, 26, 27, 28, 29, 30, 31, 32, 33, 34, 35, 36, 37, 38, 39, 40, 41, 42, 43, 44, 45, 46, 47, 48, 49, 50, 51, 52, 53, 54, 55, 56, 57, 58, 59, 60, 61, 62, 63, 64, 65, 66, 67, 68, 69, 70, 71, 72, 73, 74, 75, 76, 77, 78, 79, 80, 81, 82, 83, 84, 85, 86] (fun ⟨i, acc⟩ => [(5, i64 i)]) (fun ⟨i, acc⟩ => own ++ [some [AV.agg [.nilS, .nilS]], some [AV.agg [.sl none 1 (acc.map str), .nilS]]]) (fun ⟨i, acc⟩ => ([] : List Nat)) (fun ⟨i, acc⟩ => i ≤ names.length ∧ refGo [] names = refGo acc (names.drop i) ∧ acc.length = i ∧ i ≤ 16) (fun ⟨i, acc⟩ => names.length - i) ((0, [])) ?_ ?_ ?_
        · (try simp only [go_sem]); (try simp only [ow_len1, ow_len2, ow_len3, ow_app1, ow_app2, ow_get10, ow_get20, ow_get21, ow_get30, ow_get31, ow_get32, ow_set10, ow_set20, ow_set21, ow_set30, ow_set31, List.length_nil]); (repeat' (first | assumption | exact OwnBel.wk (hbN []) | exact OwnBel.wk (hbN _) | exact wkK_self | exact .inr ⟨rfl, decide_eq_true (by omega)⟩ | exact .inr (decide_eq_true (by omega)) | refine And.intro ?_ ?_ | exact .inl rfl | exact .inr rfl | exact .inr ⟨rfl, rfl⟩ | trivial | exact .inr (oblA rfl) | exact .inr ⟨rfl, oblA rfl⟩ | exact .inr bel_strs | exact .inr ⟨rfl, bel_strs⟩ | exact .inr ⟨by simp, bel_strs⟩ | (simp; done) | exact .inr ⟨rfl, by simp⟩ | exact .inr ⟨by simp, by simp⟩)); done
        · exact ⟨by omega, by simp, rfl, by omega⟩
        rintro ⟨i, acc⟩ ⟨h1, h2, h3, h4⟩
        simp only [go_sem, ow_app1, ow_app2, ow_len1, ow_len2, ow_get10, ow_get20, ow_get21, ow_get30, ow_get31, ow_get32, ow_set10, ow_set20, ow_set21, ow_set30, ow_set31, Go.Proofs.bytesLess_eq])
    | (
        refine AWP.here 8 32 17 rfl ?_
        have hia := insAt_le acc x
        refine AWP.loopN (ι := Nat) [32, 33, 34, 35, 36, 37, 38, 39, 40, 41, 42, 43, 44, 45, 46, 47, 48, 49, 50] (fun (j : Nat) => [(6, i64 j)]) (fun (j : Nat) => j ≤ insAt acc x) (fun (j : Nat) => acc.length - j) (0) ?_ ?_ ?_
        · (try simp only [go_sem]); (try simp only [ow_len1, ow_len2, ow_len3, ow_app1, ow_app2, ow_get10, ow_get20, ow_get21, ow_get30, ow_get31, ow_get32, ow_set10, ow_set20, ow_set21, ow_set30, ow_set31, List.length_nil]); (repeat' (first | assumption | exact OwnBel.wk (hbN []) | exact OwnBel.wk (hbN _) | exact wkK_self | exact .inr ⟨rfl, decide_eq_true (by omega)⟩ | exact .inr (decide_eq_true (by omega)) | refine And.intro ?_ ?_ | exact .inl rfl | exact .inr rfl | exact .inr ⟨rfl, rfl⟩ | trivial | exact .inr (oblA rfl) | exact .inr ⟨rfl, oblA rfl⟩ | exact .inr bel_strs | exact .inr ⟨rfl, bel_strs⟩ | exact .inr ⟨by simp, bel_strs⟩ | (simp; done) | exact .inr ⟨rfl, by simp⟩ | exact .inr ⟨by simp, by simp⟩)); done
        · omega
        rintro j g1
        simp only [go_sem, ow_app1, ow_app2, ow_len1, ow_len2, ow_get10, ow_get20, ow_get21, ow_get30, ow_get31, ow_get32, ow_set10, ow_set20, ow_set21, ow_set30, ow_set31, Go.Proofs.bytesLess_eq])
    | (
        refine ⟨(i + 1, insR acc x), ?_, ?_, ?_⟩
        · (try simp only [go_sem]); (try rw [wrap64_id (by omega) (by omega)]); (try simp only [ow_len1, ow_len2, ow_len3, ow_app1, ow_app2, ow_get10, ow_get20, ow_get21, ow_get30, ow_get31, ow_get32, ow_set10, ow_set20, ow_set21, ow_set30, ow_set31, List.length_nil]); (repeat' (first | assumption | exact OwnBel.wk (hbN []) | exact OwnBel.wk (hbN _) | exact wkK_self | exact .inr ⟨rfl, decide_eq_true (by omega)⟩ | exact .inr (decide_eq_true (by omega)) | refine And.intro ?_ ?_ | exact .inl rfl | exact .inr rfl | exact .inr ⟨rfl, rfl⟩ | trivial | exact .inr (oblA rfl) | exact .inr ⟨rfl, oblA rfl⟩ | exact .inr bel_strs | exact .inr ⟨rfl, bel_strs⟩ | exact .inr ⟨by simp, bel_strs⟩ | (simp; done) | exact .inr ⟨rfl, by simp⟩ | exact .inr ⟨by simp, by simp⟩)); done
        · exact ⟨by omega, hgo, by rw [insR_len, h3], by omega⟩
        · (try simp only []); omega)
    | (
        refine ⟨j + 1, ?_, ?_, ?_⟩
        · (try simp only [go_sem]); (try rw [wrap64_id (by omega) (by omega)]); (try simp only [ow_len1, ow_len2, ow_len3, ow_app1, ow_app2, ow_get10, ow_get20, ow_get21, ow_get30, ow_get31, ow_get32, ow_set10, ow_set20, ow_set21, ow_set30, ow_set31, List.length_nil]); (repeat' (first | assumption | exact OwnBel.wk (hbN []) | exact OwnBel.wk (hbN _) | exact wkK_self | exact .inr ⟨rfl, decide_eq_true (by omega)⟩ | exact .inr (decide_eq_true (by omega)) | refine And.intro ?_ ?_ | exact .inl rfl | exact .inr rfl | exact .inr ⟨rfl, rfl⟩ | trivial | exact .inr (oblA rfl) | exact .inr ⟨rfl, oblA rfl⟩ | exact .inr bel_strs | exact .inr ⟨rfl, bel_strs⟩ | exact .inr ⟨by simp, bel_strs⟩ | (simp; done) | exact .inr ⟨rfl, by simp⟩ | exact .inr ⟨by simp, by simp⟩)); done
        · exact ins_step (by assumption) (by assumption) (by assumption)
        · (try simp only []); omega)
    | (
        refine AWP.ret ?_
        (try simp only [inb_ret, athen_ret])
        first
        | exact hB0 _ _ (by rw [h2]; exact rg_bad (by first | exact .inl (by omega) | exact .inr (.inl (by first | exact good_n0 (by omega) | exact good_n2 (by omega))) | exact .inr (.inr (ins_bad (by assumption) (by assumption) (by assumption) (by assumption))))) rfl rfl
        | exact hB1 _ _ _ _ (by rw [h2, drop_end (by omega)]; rfl) (by simp) rfl rfl)
    | (refine And.intro ?_ ?_)
    | refine AWP.fin (by assumption) ?_
    | fail)


end Go.Proofs.Ytceiiajacnihjaa
