import Derived.Test.YtobaignbahnjbaaDoorM2
set_option linter.unusedVariables false
set_option linter.unusedSimpArgs false
namespace Go.Proofs.YtobaignbahnjbaaDoor
open Go Go.Abs Go.RowKit Go.Bk Go.Msg

set_option maxHeartbeats 4000000 in
set_option maxRecDepth 8000 in
theorem r5right_c (m : Mg) (hm : mgOk m) : ACalls E 12 [mgV m] (fun r t => r = bl (rightR m) ∧ t = []) := by -- checkroll/checkrollref05.Right
  obtain ⟨ht, hx⟩ := hm
  refine ACalls.of_awp (n := 127) (rs := [.tmp 2]) Tryd.func12 rfl Tryd.ntmps12 rfl ?_
  repeat' (first
    | refine AWP.seqk fun K hK => ?_
    | (refine AWP.region ?_; simp only [go_sem])
    | (refine hK _ ?_; clear hK K)
    | refine AWP.block ?_
    | refine AWP.cond rfl (fun c => ?_) (fun c => ?_) <;> first | exact Bool.noConfusion c | (try simp only [dD] at c)
    | refine AWP.skip ?_
    | (refine AWP.exit ?_; simp only [go_sem])
    | (refine ACall.one (r5small_c _) (by kernel_rfl) rfl ?_; simp only [go_sem])
    | (refine ACall.one (r5time_c _) (by kernel_rfl) rfl ?_; simp only [go_sem])
    | (refine ACall.one (r5text_c _ (by assumption)) (by kernel_rfl) rfl ?_; simp only [go_sem])
    | (refine ACall.one (r5exec_c _ (by assumption)) (by kernel_rfl) rfl ?_; simp only [go_sem])
    | (refine AGuard.splitN (fun h => ?_) (fun h => ?_) <;> simp only [h, go_sem] <;> (try simp only [dD] at h))
    | (refine AGuard.split (fun h => ?_) (fun h => ?_) <;> simp only [h, go_sem] <;> (try simp only [dD] at h))
    | (refine AGet.haveM (by assumption) ?_; (try simp only [go_sem]))
    | (refine AGet.have' (by assumption) ?_; (try simp only [go_sem]))
    | ((first | refine AGet.nth ?_ (fun b hb => ?_) | refine AGet.nth1 ?_ (fun b hb => ?_) | with_reducible refine And.intro ?_ ?_); (focus (first | omega | assumption | exact List.length_pos_iff.2 (by assumption) | (simp only [List.length_append, List.length_cons, List.length_nil, List.length_map, List.length_take, List.length_drop] at *; omega) | (rw [wrap64_id (by omega) (by omega)]; omega) | (simp; done) | (simp [spare_len]; done) | (exact ⟨by omega, by omega⟩))); (try simp only [hb, go_sem]))
    | (
        refine AWP.ret ?_
        refine AEnd.is ?_; simp only [go_sem, out_v, out_s, out_n, v_int, v_bool, v_str] <;> (first | (clear hx ht; (try clear hK); obtain ⟨kind, seq, time, copy, a, b, gap, text, ⟨e1, e2, e3, e4, e5, e6, e7, e8, e9, e10⟩⟩ := m; simp_all [rightR, zeroX]; done) | (clear hx ht; (try clear hK); obtain ⟨kind, seq, time, copy, a, b, gap, text, ⟨e1, e2, e3, e4, e5, e6, e7, e8, e9, e10⟩⟩ := m; rw [Bool.eq_iff_iff]; simp_all [rightR, zeroX]; done) | (clear hx ht; (try clear hK); obtain ⟨kind, seq, time, copy, a, b, gap, text, ⟨e1, e2, e3, e4, e5, e6, e7, e8, e9, e10⟩⟩ := m; simp_all [rightR, zeroX]; omega) | (clear hx ht; (try clear hK); obtain ⟨kind, seq, time, copy, a, b, gap, text, ⟨e1, e2, e3, e4, e5, e6, e7, e8, e9, e10⟩⟩ := m; rw [Bool.eq_iff_iff]; simp_all [rightR, zeroX]; omega) | skip))
    | refine AWP.fin (by assumption) ?_
    | fail)


end Go.Proofs.YtobaignbahnjbaaDoor
