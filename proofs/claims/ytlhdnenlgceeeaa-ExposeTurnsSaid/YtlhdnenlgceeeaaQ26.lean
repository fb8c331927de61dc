import Derived.Test.YtlhdnenlgceeeaaQ25
set_option linter.unusedVariables false
set_option linter.unusedSimpArgs false
namespace Go.Proofs.Ytlhdnenlgceeeaa
open Go Go.Abs Go.RowKit Go.Bk
def aw13 : Bk := ⟨[], [⟨[97], [], [99], [115], true, 4, 5, 0, true⟩, ⟨[98], [], [99], [115], false, 1, 6, 0, true⟩], [[97], [98]], 0, 0⟩
theorem aw13_1 : (posF aw13 [99] [115]).qty = 3 := by decide +kernel
theorem aw13_2 : (posF aw13 [99] [115]).value = 14 := by decide +kernel

set_option maxHeartbeats 4000000 in
set_option maxRecDepth 8000 in
theorem awake13_c  : ACalls E 37 [] (fun r t => r = bl true ∧ t = []) := by -- checkroll/checkrolllaw13.awake
  refine ACalls.of_awp (n := 24) (rs := [.tmp 0]) Try.func37 rfl Try.ntmps37 rfl ?_
  repeat' (first
    | refine AWP.seqk fun K hK => ?_
    | (
        refine AWP.here 2 8 4 rfl ?_
        refine AWP.nilPlainLeaf 0 0 8 _ rfl rfl ?_
        simp only [go_sem, aw13_1, aw13_2]
        refine AWP.region ?_; simp only [go_sem, aw13_1, aw13_2])
    | (refine AWP.region ?_; simp only [go_sem, aw13_1, aw13_2])
    | (refine hK _ ?_; clear hK K)
    | refine AWP.block ?_
    | refine AWP.cond rfl (fun c => ?_) (fun c => ?_) <;> first | exact Bool.noConfusion c | (try simp only [dD] at c)
    | refine AWP.skip ?_
    | (refine AWP.exit ?_; simp only [go_sem, aw13_1, aw13_2])
    | (refine ACall.one (lof_c aw13 [99] [115] (by decide) (by decide) (by decide)) (by kernel_rfl) rfl ?_; simp only [go_sem, aw13_1, aw13_2])
    | (refine ACall.one (lall_c aw13 ([99], [115]) (by decide +kernel) rfl (by simp [aw13]) (by decide) (by decide)) (by kernel_rfl) rfl ?_; simp only [go_sem, aw13_1, aw13_2])
    | (refine AGuard.splitN (fun h => ?_) (fun h => ?_) <;> simp only [h, go_sem, aw13_1, aw13_2] <;> (try simp only [dD] at h))
    | (refine AGuard.split (fun h => ?_) (fun h => ?_) <;> simp only [h, go_sem, aw13_1, aw13_2] <;> (try simp only [dD] at h))
    | (refine AGet.haveM (by assumption) ?_; (try simp only [go_sem, aw13_1, aw13_2]))
    | (refine AGet.have' (by assumption) ?_; (try simp only [go_sem, aw13_1, aw13_2]))
    | ((first | refine AGet.nth ?_ (fun b hb => ?_) | refine AGet.nth1 ?_ (fun b hb => ?_) | with_reducible refine And.intro ?_ ?_); (focus (first | omega | assumption | exact List.length_pos_iff.2 (by assumption) | (simp only [List.length_append, List.length_cons, List.length_nil, List.length_map, List.length_take, List.length_drop] at *; omega) | (rw [wrap64_id (by omega) (by omega)]; omega) | (simp; done) | (simp [spare_len]; done) | (exact ⟨by omega, by omega⟩))); (try simp only [hb, go_sem, aw13_1, aw13_2]))
    | (
        refine AWP.ret ?_
        refine AEnd.is ?_; simp only [go_sem, out_v, out_s, out_n, v_int, v_bool, v_str] <;> (simp; done))
    | refine AWP.fin (by assumption) ?_)


end Go.Proofs.Ytlhdnenlgceeeaa
