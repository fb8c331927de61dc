import Derived.Test.YtlhdnenlgceeeaaQ16
set_option linter.unusedVariables false
set_option linter.unusedSimpArgs false
namespace Go.Proofs.Ytlhdnenlgceeeaa
open Go Go.Abs Go.RowKit Go.Bk

set_option maxHeartbeats 8000000 in
set_option maxRecDepth 8000 in
theorem r12come_c (bk : Bk) (x : Ex) (hx : exOk x) (ho : bk.orders.length ≤ 9223372036854775807) (hf : bk.fills.length ≤ 9223372036854775807) (hi : bk.ids.length ≤ 9223372036854775807) : ACalls E 57 [bkV bk, exV x] (fun r t => r = .tup [bkV (comeF bk x).1, i64 (comeF bk x).2] ∧ t = []) := by -- checkroll/checkrollref12.Come
  refine ACalls.of_awp (n := 55) (rs := [.cell 4 32, .tmp 5]) Try.func57 rfl Try.ntmps57 rfl ?_
  repeat' (first
    | refine AWP.seqk fun K hK => ?_
    | (
        refine AWP.here 3 17 9 rfl ?_
        have hrt := come_facts (bk := bk) (x := x) (by assumption) (by assumption)
        refine AWP.region ?_; simp only [go_sem])
    | (refine AWP.region ?_; simp only [go_sem])
    | (refine AWP.here 7 34 10 rfl ?_; refine AWP.regionAnyT (.take 1 (.take 2 (.take 4 (.take 5 (.fork (.alt 0 (.fork (.alt 3 (.take 6 (.take 7 (.take 8 (.take 9 .done)))) (.alt 6 (.take 3 (.take 7 (.take 8 (.take 9 .done)))) .ends))) (.alt 6 (.take 0 (.take 3 (.take 7 (.take 8 (.take 9 .done))))) .ends))))))) [[], [], [1], [0, 1, 2], [], [4], [4, 5], [0, 1, 2, 3, 4, 5, 6], [0, 1, 2, 3, 4, 5, 6, 7], [0, 1, 2, 3, 4, 5, 6, 7, 8]] [] (by kernel_rfl) (by kernel_rfl) ?_; simp only [go_sem])
    | (refine hK _ ?_; clear hK K)
    | refine AWP.block ?_
    | refine AWP.cond rfl (fun c => ?_) (fun c => ?_) <;> first | exact Bool.noConfusion c | (try simp only [dD] at c)
    | refine AWP.skip ?_
    | (refine AWP.exit ?_; simp only [go_sem])
    | (refine ACall.one (r12right_c bk ho hf hi) (by kernel_rfl) rfl ?_; simp only [go_sem])
    | (refine ACall.one (r5exec_c _ (by assumption)) (by kernel_rfl) rfl ?_; simp only [go_sem])
    | (refine ACall.one (seen_c bk.ids x.id (by omega)) (by kernel_rfl) rfl ?_; simp only [go_sem])
    | ((try simp only [ids_snoc]); refine ACall.one (r12apply_c ⟨bk.orders, bk.fills, bk.ids ++ [x.id], bk.clock, bk.bad⟩ x hrt.1 hrt.2.1 hrt.2.2.1 hrt.2.2.2.1) (by kernel_rfl) rfl ?_; simp only [go_sem])
    | (refine AGuard.splitN (fun h => ?_) (fun h => ?_) <;> simp only [h, go_sem] <;> (try simp only [dD] at h))
    | (refine AGuard.split (fun h => ?_) (fun h => ?_) <;> simp only [h, go_sem] <;> (try simp only [dD] at h))
    | (refine AGet.haveM (by assumption) ?_; (try simp only [go_sem]))
    | (refine AGet.have' (by assumption) ?_; (try simp only [go_sem]))
    | ((first | refine AGet.nth ?_ (fun b hb => ?_) | refine AGet.nth1 ?_ (fun b hb => ?_) | with_reducible refine And.intro ?_ ?_); (focus (first | omega | assumption | exact List.length_pos_iff.2 (by assumption) | (simp only [List.length_append, List.length_cons, List.length_nil, List.length_map, List.length_take, List.length_drop] at *; omega) | (rw [wrap64_id (by omega) (by omega)]; omega) | (simp; done) | (simp [spare_len]; done) | (exact ⟨by omega, by omega⟩))); (try simp only [hb, go_sem]))
    | exact rfl
    | refine And.intro (a := ACall _ _ _ _ _ _ _ _) ?_ ?_
    | refine And.intro (a := AGet _ _) ?_ ?_
    | refine And.intro (a := AGuard _ _ _ _ _ _ _) ?_ ?_
    | (
        refine AWP.ret ?_
        refine AEnd.is ?_; simp only [go_sem, out_v, out_s, out_n, v_int, v_bool, v_str] <;> (first
        | (rw [come_n (.inl (by assumption))]; simp; done)
        | (rw [come_n (.inr (by assumption))]; simp; done)
        | (rw [come_y (by assumption) (by assumption), take_c4 (.inl (by assumption))]; simp; done)
        | (rw [come_y (by assumption) (by assumption), take_c4 (.inr (by omega))]; simp; done)
        | (rw [come_y (by assumption) (by assumption), take_c2 (by omega) (by assumption)]; simp; done)
        | (rw [come_y (by assumption) (by assumption), take_c3 hrt.1 hrt.2.2.2.2 (by omega) (by assumption) (by assumption)]; simp; done)
        | (rw [come_y (by assumption) (by assumption), take_c1 hrt.1 hrt.2.2.2.2 (by omega) (by assumption) (by assumption)]; simp; done)
        | skip))
    | (refine And.intro ?_ ?_)
    | refine AWP.fin (by assumption) ?_)

set_option maxHeartbeats 4000000 in
set_option maxRecDepth 8000 in
theorem r12all_c (l : List Ex) (hl : l.length ≤ 9223372036854775807) (hx : ∀ x ∈ l, exOk x) : ACalls E 27 [exsV l] (fun r t => r = bkV (allF l) ∧ t = []) := by -- checkroll/checkrollref12.All
  refine ACalls.of_awp (n := 21) (rs := [.cell 2 32]) Try.func27 rfl Try.ntmps27 rfl ?_
  repeat' (first
    | refine AWP.seqk fun K hK => ?_
    | (
        refine AWP.here 5 12 10 rfl ?_
        obtain ⟨b, hb⟩ : ∃ b, l[i]? = some b := ⟨_, List.getElem?_eq_getElem (by omega)⟩
        refine AWP.regionO [0, 1, 2, 3, 4, 5, 6, 7, 8, 9] [] (by kernel_rfl) (by kernel_rfl) rfl ?_; simp only [go_sem])
    | (refine AWP.region ?_; simp only [go_sem])
    | (refine AWP.here 5 12 10 rfl ?_; refine AWP.regionO [0, 1, 2, 3, 4, 5, 6, 7, 8, 9] [] (by kernel_rfl) (by kernel_rfl) rfl ?_; simp only [go_sem])
    | (refine hK _ ?_; clear hK K)
    | refine AWP.block ?_
    | refine AWP.cond rfl (fun c => ?_) (fun c => ?_) <;> first | exact Bool.noConfusion c | (try simp only [dD] at c)
    | refine AWP.skip ?_
    | (refine AWP.exit ?_; simp only [go_sem])
    | (refine ACall.one (r12come_c k b (hx b (List.mem_of_getElem? hb)) (by omega) (by omega) (by omega)) (by kernel_rfl) rfl ?_; simp only [go_sem])
    | (refine AGet.haveM (by assumption) ?_; (try simp only [go_sem]))
    | (refine AGet.have' (by assumption) ?_; (try simp only [go_sem]))
    | ((first | refine AGet.nth ?_ (fun b hb => ?_) | refine AGet.nth1 ?_ (fun b hb => ?_) | with_reducible refine And.intro ?_ ?_); (focus (first | omega | assumption | exact List.length_pos_iff.2 (by assumption) | (simp only [List.length_append, List.length_cons, List.length_nil, List.length_map, List.length_take, List.length_drop] at *; omega) | (rw [wrap64_id (by omega) (by omega)]; omega) | (simp; done) | (simp [spare_len]; done) | (exact ⟨by omega, by omega⟩))); (try simp only [hb, go_sem]))
    | (
        refine AWP.here 3 5 4 rfl ?_
        refine AWP.nilPlainLeaf 1 0 8 _ rfl rfl ?_
        refine AWP.nilPlainLeaf 1 1 9 _ rfl rfl ?_
        refine AWP.nilPlainLeaf 1 2 1 _ rfl rfl ?_
        simp only [go_sem]
        refine AWP.loopM (ι := Nat × Bk) [5, 6, 7, 8, 9, 10, 11, 12, 13, 14, 15, 16, 17, 18, 19] (fun ⟨i, k⟩ => [(4, i64 i)]) (fun ⟨i, k⟩ => [some [.agg [.nilS, .nilS, .nilS, i64 0, i64 0]], some [.agg [odsV k.orders, dnsV k.fills, .sl none 1 (k.ids.map str), i64 k.clock, i64 k.bad]]]) (fun ⟨i, k⟩ => []) (fun ⟨i, k⟩ => i ≤ l.length ∧ k = allF (l.take i) ∧ rightBk k = true) (fun ⟨i, k⟩ => l.length - i) ((0, emptyB)) ?_ ?_ ?_
        · (try simp only [go_sem]); (repeat' (first | refine And.intro ?_ ?_ | exact .inl rfl | exact .inr rfl | exact .inr ⟨rfl, rfl⟩ | trivial | exact .inr (oblA rfl) | exact .inr ⟨rfl, oblA rfl⟩ | exact .inr bel_strs | exact .inr ⟨rfl, bel_strs⟩ | exact .inr ⟨by simp, bel_strs⟩ | (simp; done) | exact .inr ⟨rfl, by simp⟩ | exact .inr ⟨by simp, by simp⟩)); done
        · exact ⟨by simp, by simp; rfl, empty_right⟩
        rintro ⟨i, k⟩ ⟨h1, h2, h3⟩
        simp only [go_sem]
        have hk := (right_fx h3).2.1)
    | (
        refine ⟨(i + 1, (comeF k b).1), ?_, ⟨by show i + 1 ≤ l.length; omega, come_fold h3 hb h2, comeF_right h3⟩, by show l.length - (i + 1) < l.length - i; omega⟩
        (try simp only [go_sem]); (try rw [wrap64_id (by omega) (by omega)]); (repeat' (first | refine And.intro ?_ ?_ | exact .inl rfl | exact .inr rfl | exact .inr ⟨rfl, rfl⟩ | trivial | exact .inr (oblA rfl) | exact .inr ⟨rfl, oblA rfl⟩ | exact .inr bel_strs | exact .inr ⟨rfl, bel_strs⟩ | exact .inr ⟨by simp, bel_strs⟩ | (simp; done) | exact .inr ⟨rfl, by simp⟩ | exact .inr ⟨by simp, by simp⟩)); done)
    | (
        refine AWP.ret ?_
        refine AEnd.is ?_; simp only [go_sem, out_v, out_s, out_n, v_int, v_bool, v_str] <;> (first
        | (rw [h2, List.take_of_length_le (by omega)]; simp; done)
        | (rw [List.take_of_length_le (by omega)] at h2; subst h2; simp; done)
        | skip))
    | refine AWP.fin (by assumption) ?_)

set_option maxHeartbeats 4000000 in
set_option maxRecDepth 8000 in
theorem all_c (l : List Ex) (hl : l.length ≤ 9223372036854775807) (hx : ∀ x ∈ l, exOk x) : ACalls E 5 [exsV l] (fun r t => r = bl true ∧ t = []) := by -- checkroll/checkrolllaw12.BookAll
  refine ACalls.of_awp (n := 19) (rs := [.tmp 2]) Try.func5 rfl Try.ntmps5 rfl ?_
  repeat' (first
    | refine AWP.seqk fun K hK => ?_
    | (
        refine AWP.here 5 9 4 rfl ?_
        have hal := allF_len l
        have har := allF_right l
        refine AWP.region ?_; simp only [go_sem])
    | (refine AWP.region ?_; simp only [go_sem])
    | (refine AWP.here 6 11 9 rfl ?_; refine AWP.regionO [0, 1, 2, 3, 4, 5, 6, 7, 8] [] (by kernel_rfl) (by kernel_rfl) rfl ?_; simp only [go_sem])
    | (refine hK _ ?_; clear hK K)
    | refine AWP.block ?_
    | refine AWP.cond rfl (fun c => ?_) (fun c => ?_) <;> first | exact Bool.noConfusion c | (try simp only [dD] at c)
    | refine AWP.skip ?_
    | (refine AWP.exit ?_; simp only [go_sem])
    | (refine ACall.one (awake12_c) (by kernel_rfl) rfl ?_; simp only [go_sem])
    | (refine ACall.one (ball_c l (by omega)) (by kernel_rfl) rfl ?_; simp only [go_sem])
    | (refine ACall.one (r12all_c l hl hx) (by kernel_rfl) rfl ?_; simp only [go_sem])
    | (refine ACall.one (r12same_c (allF l) (allF l) (by omega) (by omega) (by omega)) (by kernel_rfl) rfl ?_; simp only [go_sem])
    | (refine ACall.one (bright_c (allF l) (by omega) (by omega) (by omega)) (by kernel_rfl) rfl ?_; simp only [go_sem])
    | (refine AGuard.splitN (fun h => ?_) (fun h => ?_) <;> simp only [h, go_sem] <;> (try simp only [dD] at h))
    | (refine AGuard.split (fun h => ?_) (fun h => ?_) <;> simp only [h, go_sem] <;> (try simp only [dD] at h))
    | (refine AGet.haveM (by assumption) ?_; (try simp only [go_sem]))
    | (refine AGet.have' (by assumption) ?_; (try simp only [go_sem]))
    | ((first | refine AGet.nth ?_ (fun b hb => ?_) | refine AGet.nth1 ?_ (fun b hb => ?_) | with_reducible refine And.intro ?_ ?_); (focus (first | omega | assumption | exact List.length_pos_iff.2 (by assumption) | (simp only [List.length_append, List.length_cons, List.length_nil, List.length_map, List.length_take, List.length_drop] at *; omega) | (rw [wrap64_id (by omega) (by omega)]; omega) | (simp; done) | (simp [spare_len]; done) | (exact ⟨by omega, by omega⟩))); (try simp only [hb, go_sem]))
    | (
        refine AWP.ret ?_
        refine AEnd.is ?_; simp only [go_sem, out_v, out_s, out_n, v_int, v_bool, v_str] <;> (first | (simp [*]; done) | skip))
    | refine AWP.fin (by assumption) ?_)


end Go.Proofs.Ytlhdnenlgceeeaa
