import Derived.Test.YtlhdnenlgceeeaaQ5
set_option linter.unusedVariables false
set_option linter.unusedSimpArgs false
namespace Go.Proofs.Ytlhdnenlgceeeaa
open Go Go.Abs Go.RowKit Go.Bk

set_option maxHeartbeats 8000000 in
set_option maxRecDepth 8000 in
theorem come_c (bk : Bk) (x : Ex) (ho : bk.orders.length ≤ 1000000) (hf : bk.fills.length ≤ 1000000) (hi : bk.ids.length ≤ 1000000) : ACalls E 28 [bkV bk, exV x] (fun r t => r = .tup [bkV (comeF bk x).1, i64 (comeF bk x).2] ∧ t = []) := by -- checkroll/book.Come
  refine ACalls.of_awp (n := 22) (rs := [.cell 4 32, .tmp 5]) Try.func28 rfl Try.ntmps28 rfl ?_
  repeat' (first
    | refine AWP.seqk fun K hK => ?_
    | (
        refine AWP.here 2 9 8 rfl ?_
        refine AWP.renum [2, 0, 5, 1] (by decide) rfl rfl ?_
        simp only [go_sem, dn_ren]
        refine AWP.region ?_; simp only [go_sem])
    | (
        refine AWP.here 3 17 3 rfl ?_
        refine AWP.publishLeaf 1 1 (jd := 2) (k := 9) (n := bk.fills.length) (cap := bk.fills.length + m) _ (rowV bk m) (by decide) rfl rfl rfl (by simp [rowV]) (by rw [row_take]; exact cl_dn _) ?_
        rw [row_take]
        simp only [go_sem]
        refine AWP.region ?_; simp only [go_sem])
    | (
        refine AWP.here 5 20 4 rfl ?_
        refine AWP.publishLeaf 1 1 (jd := 2) (k := 9) (n := b2.fills.length) (cap := b2.fills.length + m2) _ (rowV b2 m2) (by decide) rfl rfl rfl (by simp [rowV]) (by rw [row_take]; exact cl_dn _) ?_
        rw [row_take]
        simp only [go_sem]
        refine AWP.region ?_; simp only [go_sem])
    | (
        refine AWP.here 4 18 3 rfl ?_
        have hr := right_facts (by assumption)
        refine AWP.weaken (t := ⟨[.any, .any, .ptr 1 0 0, .ptr 3 0 0, .ptr 0 0 0, .any, .any, .any, .any, .any, .any, .any, .any, .any, .any, .any, .any, .any, .any, .any, .any, .any], [Z0, some [bookV bk m], some (rowV bk m), some [exV x]], [bk.ids.length], fun _ => none, none, []⟩) ⟨⟨.inl rfl, .inl rfl, .inr ⟨rfl, rfl⟩, .inr ⟨rfl, rfl⟩, .inr ⟨rfl, rfl⟩, .inl rfl, .inl rfl, .inl rfl, .inl rfl, .inl rfl, .inl rfl, .inl rfl, .inl rfl, .inl rfl, .inl rfl, .inl rfl, .inl rfl, .inl rfl, .inl rfl, .inl rfl, .inl rfl, .inl rfl, trivial⟩, wkO_bel own_bel1, ⟨rfl, trivial⟩, rfl, rfl, rfl, rfl⟩ ?_
        refine AWP.regionL ?_
        refine AWPL.at 3 1 rfl ?_
        simp only [go_sem]
        refine take_call (b := bk) (x := x) (m := m) rfl rfl (by assumption) hr.2.2 (by omega) (by omega) (by omega) (kpL_app (n := 0) (by decide) rfl rfl) ?_
        intro b2 e2 m2 hb2
        have hlen := takeF_grows bk x
        rw [hb2] at hlen
        refine AWPL.of ?_
        simp only [go_sem])
    | (refine AWP.here 1 7 3 rfl ?_; refine AWP.regionL ?_; refine AWPL.at 3 1 rfl ?_; simp only [go_sem])
    | (refine AWP.region ?_; simp only [go_sem])
    | (refine hK _ ?_; clear hK K)
    | refine AWP.block ?_
    | refine AWP.cond rfl (fun c => ?_) (fun c => ?_) <;> first | exact Bool.noConfusion c | (try simp only [dD] at c)
    | refine AWP.skip ?_
    | (refine AWP.exit ?_; simp only [go_sem])
    | (refine ACall.snapOne (bright_c bk (by omega) (by omega) (by omega)) (by kernel_rfl) rfl (.cons (.agg (.cons (.clean rfl) (.cons (.mu' rfl (by simp) (cl_dn _)) (.cons (.clean rfl) (.cons (.clean rfl) (.cons (.clean rfl) .nil)))))) .nil) ?_; simp only [go_sem])
    | (refine ACall.one (mexec_c _) (by kernel_rfl) rfl ?_; simp only [go_sem])
    | (refine ACall.one (oclone_p _ (by first | assumption | omega | (simp only [List.length_take]; omega))) (by kernel_rfl) rfl ?_; simp only [go_sem])
    | (refine ACall.take (dclone_c bk.fills (by omega)) (by kernel_rfl) rfl (.cons (.one (.clean rfl)) .nil) ?_; rintro r t ⟨rfl, rfl⟩; refine ⟨0, 9, _, rfl, by simp, pl_dn _, fun m => ?_⟩; simp only [go_sem, List.length_map])
    | (refine ACall.of (sclone_c bk.ids (by omega)) (by kernel_rfl) rfl ?_; rintro r t ⟨rfl, rfl⟩; simp only [go_sem])
    | (refine AWPL.call (rs := [.cell 2 32]) Try.func58 rfl Try.ntmps58 rfl (by kernel_rfl) rfl rfl ?_; simp only [go_sem])
    | (refine AGuard.splitN (fun h => ?_) (fun h => ?_) <;> simp only [h, go_sem] <;> (try simp only [dD] at h))
    | (refine AGuard.split (fun h => ?_) (fun h => ?_) <;> simp only [h, go_sem] <;> (try simp only [dD] at h))
    | (refine AGet.haveM (by assumption) ?_; (try simp only [go_sem]))
    | (refine AGet.have' (by assumption) ?_; (try simp only [go_sem]))
    | ((first | refine AGet.nth ?_ (fun b hb => ?_) | refine AGet.nth1 ?_ (fun b hb => ?_) | with_reducible refine And.intro ?_ ?_); (focus (first | omega | assumption | exact List.length_pos_iff.2 (by assumption) | (simp only [List.length_append, List.length_cons, List.length_nil, List.length_map, List.length_take, List.length_drop] at *; omega) | (rw [wrap64_id (by omega) (by omega)]; omega) | (simp; done) | (simp [spare_len]; done) | (exact ⟨by omega, by omega⟩))); (try simp only [hb, go_sem]))
    | (
        refine AWP.ret ?_
        refine AEnd.is ?_; simp only [go_sem, out_v, out_s, out_n, v_int, v_bool, v_str] <;> (first
        | (rw [come_no (.inl (by assumption))]; simp; done)
        | (rw [come_no (.inr (by assumption))]; simp; done)
        | (rw [come_yes (by assumption) (by assumption), hb2]; simp; done)
        | skip))
    | (refine AWP.ret ?_; refine AInPost.ret rfl ?_; simp only [go_sem])
    | (refine AWPL.of ?_; simp only [go_sem])
    | refine AWP.fin (by assumption) ?_)


end Go.Proofs.Ytlhdnenlgceeeaa
