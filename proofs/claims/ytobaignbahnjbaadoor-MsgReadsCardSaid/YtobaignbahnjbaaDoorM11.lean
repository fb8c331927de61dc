import Derived.Test.YtobaignbahnjbaaDoorM8
import Derived.Test.YtobaignbahnjbaaDoorM10
set_option linter.unusedVariables false
set_option linter.unusedSimpArgs false
namespace Go.Proofs.YtobaignbahnjbaaDoor
open Go Go.Abs Go.RowKit Go.Bk Go.Msg

set_option maxHeartbeats 4000000 in
set_option maxRecDepth 8000 in
theorem mreads5_c (bs : List UInt8) : ACalls E 4 [bytesV bs] (fun r t => r = bl true ∧ t = []) := by -- checkroll/checkrolllaw05.MsgReads
  refine ACalls.of_awp (n := 32) (rs := [.tmp 2]) Tryd.func4 rfl Tryd.ntmps4 rfl ?_
  repeat' (first
    | refine AWP.seqk fun K hK => ?_
    | (refine AWP.region ?_; simp only [go_sem, mg_eq2, read_same])
    | (refine hK _ ?_; clear hK K)
    | refine AWP.block ?_
    | refine AWP.cond rfl (fun c => ?_) (fun c => ?_) <;> first | exact Bool.noConfusion c | (try simp only [dD] at c)
    | refine AWP.skip ?_
    | (refine AWP.exit ?_; simp only [go_sem, mg_eq2, read_same])
    | (refine ACall.one (awake5_c ) (by kernel_rfl) rfl ?_; simp only [go_sem, mg_eq2, read_same])
    | (refine ACall.one (mread_c (bs.take 3000)) (by kernel_rfl) rfl ?_; simp only [go_sem, mg_eq2, read_same])
    | (refine ACall.one (mread_c _) (by kernel_rfl) rfl ?_; simp only [go_sem, mg_eq2, read_same])
    | (refine ACall.one (r5read_c _ (by simp; omega)) (by kernel_rfl) rfl ?_; simp only [go_sem, mg_eq2, read_same])
    | (refine AGuard.splitN (fun h => ?_) (fun h => ?_) <;> simp only [h, go_sem, mg_eq2, read_same] <;> (try simp only [dD] at h))
    | (refine AGuard.split (fun h => ?_) (fun h => ?_) <;> simp only [h, go_sem, mg_eq2, read_same] <;> (try simp only [dD] at h))
    | (refine AGet.haveM (by assumption) ?_; (try simp only [go_sem, mg_eq2, read_same]))
    | (refine AGet.have' (by assumption) ?_; (try simp only [go_sem, mg_eq2, read_same]))
    | ((first | refine AGet.nth ?_ (fun b hb => ?_) | refine AGet.nth1 ?_ (fun b hb => ?_) | with_reducible refine And.intro ?_ ?_); (focus (first | omega | assumption | exact List.length_pos_iff.2 (by assumption) | (simp only [List.length_append, List.length_cons, List.length_nil, List.length_map, List.length_take, List.length_drop] at *; omega) | (rw [wrap64_id (by omega) (by omega)]; omega) | (simp; done) | (simp [spare_len]; done) | (exact ⟨by omega, by omega⟩))); (try simp only [hb, go_sem, mg_eq2, read_same]))
    | (
        refine AWP.ret ?_
        refine AEnd.is ?_; simp only [go_sem, bytesV, out_v, out_s, out_n, v_int, v_bool, v_str] <;> (first | rfl | (simp; done) | skip))
    | refine AWP.fin (by assumption) ?_
    | fail)


end Go.Proofs.YtobaignbahnjbaaDoor
