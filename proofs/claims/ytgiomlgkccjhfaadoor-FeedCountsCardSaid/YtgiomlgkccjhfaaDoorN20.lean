/- The statements on frames: the first two. -/
import Derived.Test.YtgiomlgkccjhfaaDoorN19
set_option linter.unusedVariables false
set_option linter.unusedSimpArgs false
namespace Go.Proofs.YtgiomlgkccjhfaaDoor
open Go Go.Abs Go.RowKit Go.Fld Go.Shelf

def awb3 : Bs := [51, 53, 61, 48, 1]
def awf : Bs := [56, 61, 70, 73, 88, 46, 52, 46, 52, 1, 57, 61, 53, 1, 51, 53, 61, 48, 1, 49, 48, 61, 49, 54, 51, 1]
def awj : Bs := [120, 56, 61, 70]
theorem awb3L : [AV.v (.int .u8 51), .v (.int .u8 53), .v (.int .u8 61), .v (.int .u8 48), .v (.int .u8 1)] = awb3.map u8 := rfl
theorem awjL : [AV.v (.int .u8 120), .v (.int .u8 56), .v (.int .u8 61), .v (.int .u8 70)] = awj.map u8 := rfl
theorem awb3ne : (¬ awb3.map u8 = []) = True := by simp [awb3]
theorem awjne : (¬ awj.map u8 = []) = True := by simp [awj]
theorem awb3_len : awb3.length = 5 := rfl
theorem awf_len : awf.length = 26 := rfl
theorem awj_len : awj.length = 4 := rfl
theorem show5 : showF 5 = [53] := by rw [show_dig (by decide) (by decide)]; rfl
theorem aw3_parse : parseL awb3 = ([(35, [48])], 0) := by
  have h : encL [((35 : Int), ([48] : Bs))] ++ encL [] = awb3 := by simp only [encL, encF, show35]; rfl
  have := parse_put (a := [((35 : Int), ([48] : Bs))]) (b := []) (by decide) rfl (by decide) (by rw [h]; decide)
  rw [h] at this; exact this
theorem aw3_right : rightB awb3 = true := by unfold rightB; rw [aw3_parse]; decide
theorem aw3_put : putB awb3 = (awf, 0) := by
  rw [put_ok' (by decide) aw3_right]
  have : preB awb3 = [56, 61, 70, 73, 88, 46, 52, 46, 52, 1, 57, 61, 53, 1, 51, 53, 61, 48, 1] := by unfold preB; rw [show ((awb3.length : Nat) : Int) = 5 from rfl, show5]; rfl
  rw [this]
  have hs : sumF [56, 61, 70, 73, 88, 46, 52, 46, 52, 1, 57, 61, 53, 1, 51, 53, 61, 48, 1] = 163 := by decide
  rw [hs]; rfl
theorem aw3_ok : (putB awb3).2 = 0 := by rw [aw3_put]
theorem aw3_next : nextB (awf ++ [UInt8.ofNat 120]) = (1, awb3, 26) := by
  have := next_put aw3_ok [UInt8.ofNat 120]
  rw [aw3_put] at this; exact this
theorem awj_next : nextB awj = (2, [], 1) := next_junk (a := [120]) (m := [56, 61, 70]) (by decide) (by decide) (by decide)
theorem awf_cmp : (awf = [56, 61, 70, 73, 88, 46, 52, 46, 52, 1, 57, 61, 53, 1, 51, 53, 61, 48, 1, 49, 48, 61, 49, 54, 51, 1]) = True := eq_true rfl
theorem awb3_cmp : (awb3 = [51, 53, 61, 48, 1]) = True := eq_true rfl
set_option maxHeartbeats 2000000 in
set_option maxRecDepth 8000 in
theorem awake3_c  : ACalls E 29 [] (fun r t => r = bl true ∧ t = []) := by -- checkroll/checkrolllaw03.awake
  refine ACalls.of_awp (n := 60) (rs := [.tmp 0]) Tryd.func29 rfl Tryd.ntmps29 rfl ?_
  refine AWP.seqk fun K1 hK1 => ?_
  refine AWP.region ?_
  simp only [go_sem, ABytes_row, awb3L, awjL, awb3ne, awjne, awb3_len, awj_len, awf_len, aw3_put, aw3_next, awj_next, awf_cmp, awb3_cmp] -- region 0
  repeat' (first | (refine AGet.haveM (by assumption) ?_; (try simp only [go_sem, ABytes_row, awb3L, awjL, awb3ne, awjne, awb3_len, awj_len, awf_len, aw3_put, aw3_next, awj_next, awf_cmp, awb3_cmp])) | (refine AGet.have' (by assumption) ?_; (try simp only [go_sem, ABytes_row, awb3L, awjL, awb3ne, awjne, awb3_len, awj_len, awf_len, aw3_put, aw3_next, awj_next, awf_cmp, awb3_cmp])) | ((first | refine AGet.nth ?_ (fun b hb => ?_) | refine AGet.nth1 ?_ (fun b hb => ?_) | with_reducible refine And.intro ?_ ?_); (focus ((first | omega | exact List.length_pos_iff.2 (by assumption) | (simp only [List.length_append, List.length_cons, List.length_nil, List.length_map, List.length_take, List.length_drop] at *; omega) | (rw [wrap64_id (by omega) (by omega)]; omega) | (simp; done)))); (try simp only [hb, go_sem, ABytes_row, awb3L, awjL, awb3ne, awjne, awb3_len, awj_len, awf_len, aw3_put, aw3_next, awj_next, awf_cmp, awb3_cmp])))
  refine hK1 _ ?_; clear hK1 K1
  refine AWP.seqk fun K2 hK2 => ?_
  refine AWP.region ?_
  simp only [go_sem, ABytes_row, awb3L, awjL, awb3ne, awjne, awb3_len, awj_len, awf_len, aw3_put, aw3_next, awj_next, awf_cmp, awb3_cmp] -- region 1
  repeat' (first | (refine ACall.of (mput_c awb3) (by kernel_rfl) rfl ?_; rintro r t ⟨rfl, rfl⟩ <;> simp only [go_sem, ABytes_row, awb3L, awjL, awb3ne, awjne, awb3_len, awj_len, awf_len, aw3_put, aw3_next, awj_next, awf_cmp, awb3_cmp]) | (refine AGet.haveM (by assumption) ?_; (try simp only [go_sem, ABytes_row, awb3L, awjL, awb3ne, awjne, awb3_len, awj_len, awf_len, aw3_put, aw3_next, awj_next, awf_cmp, awb3_cmp])) | (refine AGet.have' (by assumption) ?_; (try simp only [go_sem, ABytes_row, awb3L, awjL, awb3ne, awjne, awb3_len, awj_len, awf_len, aw3_put, aw3_next, awj_next, awf_cmp, awb3_cmp])) | ((first | refine AGet.nth ?_ (fun b hb => ?_) | refine AGet.nth1 ?_ (fun b hb => ?_) | with_reducible refine And.intro ?_ ?_); (focus ((first | omega | exact List.length_pos_iff.2 (by assumption) | (simp only [List.length_append, List.length_cons, List.length_nil, List.length_map, List.length_take, List.length_drop] at *; omega) | (rw [wrap64_id (by omega) (by omega)]; omega) | (simp; done)))); (try simp only [hb, go_sem, ABytes_row, awb3L, awjL, awb3ne, awjne, awb3_len, awj_len, awf_len, aw3_put, aw3_next, awj_next, awf_cmp, awb3_cmp])))
  refine hK2 _ ?_; clear hK2 K2
  refine AWP.seqk fun K3 hK3 => ?_
  refine AWP.region ?_
  simp only [go_sem, ABytes_row, awb3L, awjL, awb3ne, awjne, awb3_len, awj_len, awf_len, aw3_put, aw3_next, awj_next, awf_cmp, awb3_cmp] -- region 2
  repeat' (first | (refine ACall.of (mnext_c (awf ++ [UInt8.ofNat 120]) (by decide)) (by kernel_rfl) rfl ?_; rintro r t ⟨rfl, rfl⟩ <;> simp only [go_sem, ABytes_row, awb3L, awjL, awb3ne, awjne, awb3_len, awj_len, awf_len, aw3_put, aw3_next, awj_next, awf_cmp, awb3_cmp]) | (refine ACall.of (mnext_c awj (by decide)) (by kernel_rfl) rfl ?_; rintro r t ⟨rfl, rfl⟩ <;> simp only [go_sem, ABytes_row, awb3L, awjL, awb3ne, awjne, awb3_len, awj_len, awf_len, aw3_put, aw3_next, awj_next, awf_cmp, awb3_cmp]) | (refine AGet.haveM (by assumption) ?_; (try simp only [go_sem, ABytes_row, awb3L, awjL, awb3ne, awjne, awb3_len, awj_len, awf_len, aw3_put, aw3_next, awj_next, awf_cmp, awb3_cmp])) | (refine AGet.have' (by assumption) ?_; (try simp only [go_sem, ABytes_row, awb3L, awjL, awb3ne, awjne, awb3_len, awj_len, awf_len, aw3_put, aw3_next, awj_next, awf_cmp, awb3_cmp])) | ((first | refine AGet.nth ?_ (fun b hb => ?_) | refine AGet.nth1 ?_ (fun b hb => ?_) | with_reducible refine And.intro ?_ ?_); (focus ((first | omega | exact List.length_pos_iff.2 (by assumption) | (simp only [List.length_append, List.length_cons, List.length_nil, List.length_map, List.length_take, List.length_drop] at *; omega) | (rw [wrap64_id (by omega) (by omega)]; omega) | (simp; done)))); (try simp only [hb, go_sem, ABytes_row, awb3L, awjL, awb3ne, awjne, awb3_len, awj_len, awf_len, aw3_put, aw3_next, awj_next, awf_cmp, awb3_cmp])))
  refine hK3 _ ?_; clear hK3 K3
  refine AWP.seqk fun K4 hK4 => ?_
  refine AWP.region ?_
  simp only [go_sem, ABytes_row, awb3L, awjL, awb3ne, awjne, awb3_len, awj_len, awf_len, aw3_put, aw3_next, awj_next, awf_cmp, awb3_cmp] -- region 3
  repeat' (first | (refine ACall.of (mnext_c (awf ++ [UInt8.ofNat 120]) (by decide)) (by kernel_rfl) rfl ?_; rintro r t ⟨rfl, rfl⟩ <;> simp only [go_sem, ABytes_row, awb3L, awjL, awb3ne, awjne, awb3_len, awj_len, awf_len, aw3_put, aw3_next, awj_next, awf_cmp, awb3_cmp]) | (refine ACall.of (mnext_c awj (by decide)) (by kernel_rfl) rfl ?_; rintro r t ⟨rfl, rfl⟩ <;> simp only [go_sem, ABytes_row, awb3L, awjL, awb3ne, awjne, awb3_len, awj_len, awf_len, aw3_put, aw3_next, awj_next, awf_cmp, awb3_cmp]) | (refine AGet.haveM (by assumption) ?_; (try simp only [go_sem, ABytes_row, awb3L, awjL, awb3ne, awjne, awb3_len, awj_len, awf_len, aw3_put, aw3_next, awj_next, awf_cmp, awb3_cmp])) | (refine AGet.have' (by assumption) ?_; (try simp only [go_sem, ABytes_row, awb3L, awjL, awb3ne, awjne, awb3_len, awj_len, awf_len, aw3_put, aw3_next, awj_next, awf_cmp, awb3_cmp])) | ((first | refine AGet.nth ?_ (fun b hb => ?_) | refine AGet.nth1 ?_ (fun b hb => ?_) | with_reducible refine And.intro ?_ ?_); (focus ((first | omega | exact List.length_pos_iff.2 (by assumption) | (simp only [List.length_append, List.length_cons, List.length_nil, List.length_map, List.length_take, List.length_drop] at *; omega) | (rw [wrap64_id (by omega) (by omega)]; omega) | (simp; done)))); (try simp only [hb, go_sem, ABytes_row, awb3L, awjL, awb3ne, awjne, awb3_len, awj_len, awf_len, aw3_put, aw3_next, awj_next, awf_cmp, awb3_cmp])))
  refine hK4 _ ?_; clear hK4 K4
  refine AWP.seqk fun K5 hK5 => ?_
  refine AWP.region ?_
  simp only [go_sem, ABytes_row, awb3L, awjL, awb3ne, awjne, awb3_len, awj_len, awf_len, aw3_put, aw3_next, awj_next, awf_cmp, awb3_cmp] -- region 4
  repeat' (first | (refine AGuard.splitN (fun h => ?_) (fun h => ?_) <;> simp only [h, go_sem, ABytes_row, awb3L, awjL, awb3ne, awjne, awb3_len, awj_len, awf_len, aw3_put, aw3_next, awj_next, awf_cmp, awb3_cmp] <;> try simp only [dD] at h) | (refine AGuard.split (fun h => ?_) (fun h => ?_) <;> simp only [h, go_sem, ABytes_row, awb3L, awjL, awb3ne, awjne, awb3_len, awj_len, awf_len, aw3_put, aw3_next, awj_next, awf_cmp, awb3_cmp] <;> try simp only [dD] at h) | (refine AGet.haveM (by assumption) ?_; (try simp only [go_sem, ABytes_row, awb3L, awjL, awb3ne, awjne, awb3_len, awj_len, awf_len, aw3_put, aw3_next, awj_next, awf_cmp, awb3_cmp])) | (refine AGet.have' (by assumption) ?_; (try simp only [go_sem, ABytes_row, awb3L, awjL, awb3ne, awjne, awb3_len, awj_len, awf_len, aw3_put, aw3_next, awj_next, awf_cmp, awb3_cmp])) | ((first | refine AGet.nth ?_ (fun b hb => ?_) | refine AGet.nth1 ?_ (fun b hb => ?_) | with_reducible refine And.intro ?_ ?_); (focus ((first | omega | exact List.length_pos_iff.2 (by assumption) | (simp only [List.length_append, List.length_cons, List.length_nil, List.length_map, List.length_take, List.length_drop] at *; omega) | (rw [wrap64_id (by omega) (by omega)]; omega) | (simp; done)))); (try simp only [hb, go_sem, ABytes_row, awb3L, awjL, awb3ne, awjne, awb3_len, awj_len, awf_len, aw3_put, aw3_next, awj_next, awf_cmp, awb3_cmp])))
  all_goals (
    refine hK5 _ ?_; clear hK5 K5
    refine AWP.ret ?_
    try simp only [go_sem]
    exact ⟨[], .v _, rfl, rfl, rfl, rfl⟩)


set_option maxHeartbeats 2000000 in
theorem fr_right_c (bs : Bs) : ACalls E 7 [bytesV bs] (fun r t => r = bl true ∧ t = []) := by -- checkroll/checkrolllaw03.FrameRight
  refine ACalls.of_awp (n := 46) (rs := [.tmp 2]) Tryd.func7 rfl Tryd.ntmps7 rfl ?_
  refine AWP.seqk fun K1 hK1 => ?_
  refine AWP.region ?_
  simp only [go_sem] -- region 0
  repeat' (first | (refine AGet.haveM (by assumption) ?_; (try simp only [go_sem])) | (refine AGet.have' (by assumption) ?_; (try simp only [go_sem])) | ((first | refine AGet.nth ?_ (fun b hb => ?_) | refine AGet.nth1 ?_ (fun b hb => ?_) | with_reducible refine And.intro ?_ ?_); (focus ((first | omega | exact List.length_pos_iff.2 (by assumption) | (simp only [List.length_append, List.length_cons, List.length_nil, List.length_map, List.length_take, List.length_drop] at *; omega) | (rw [wrap64_id (by omega) (by omega)]; omega) | (simp; done)))); (try simp only [hb, go_sem])))
  refine hK1 _ ?_; clear hK1 K1
  refine AWP.seqk fun K2 hK2 => ?_
  refine AWP.seqk fun K3 hK3 => ?_
  refine AWP.region ?_
  simp only [go_sem] -- region 1
  repeat' (first | (refine ACall.one (awake3_c ) (by kernel_rfl) rfl ?_; simp only [go_sem]) | (refine AGet.haveM (by assumption) ?_; (try simp only [go_sem])) | (refine AGet.have' (by assumption) ?_; (try simp only [go_sem])) | ((first | refine AGet.nth ?_ (fun b hb => ?_) | refine AGet.nth1 ?_ (fun b hb => ?_) | with_reducible refine And.intro ?_ ?_); (focus ((first | omega | exact List.length_pos_iff.2 (by assumption) | (simp only [List.length_append, List.length_cons, List.length_nil, List.length_map, List.length_take, List.length_drop] at *; omega) | (rw [wrap64_id (by omega) (by omega)]; omega) | (simp; done)))); (try simp only [hb, go_sem])))
  refine hK3 _ ?_; clear hK3 K3
  refine AWP.cond rfl (fun c8 => ?_) (fun c8 => ?_)
  · first | exact Bool.noConfusion c8 | (
      try simp only [dD] at c8
      refine AWP.seqk fun K4 hK4 => ?_
      refine AWP.region ?_
      simp only [go_sem] -- region 2
      repeat' (first | (refine AGet.haveM (by assumption) ?_; (try simp only [go_sem])) | (refine AGet.have' (by assumption) ?_; (try simp only [go_sem])) | ((first | refine AGet.nth ?_ (fun b hb => ?_) | refine AGet.nth1 ?_ (fun b hb => ?_) | with_reducible refine And.intro ?_ ?_); (focus ((first | omega | exact List.length_pos_iff.2 (by assumption) | (simp only [List.length_append, List.length_cons, List.length_nil, List.length_map, List.length_take, List.length_drop] at *; omega) | (rw [wrap64_id (by omega) (by omega)]; omega) | (simp; done)))); (try simp only [hb, go_sem])))
      refine hK4 _ ?_; clear hK4 K4
      refine AWP.ret ?_
      try simp only [go_sem]
      clear hK2 K2
      exact ⟨[], .v _, rfl, rfl, rfl, rfl⟩)
  · first | exact Bool.noConfusion c8 | (
      try simp only [dD] at c8
      refine AWP.skip ?_
      refine hK2 _ ?_; clear hK2 K2
      refine AWP.seqk fun K5 hK5 => ?_
      refine AWP.seqk fun K6 hK6 => ?_
      refine AWP.region ?_
      simp only [go_sem] -- region 3
      repeat' (first | (refine AGet.haveM (by assumption) ?_; (try simp only [go_sem])) | (refine AGet.have' (by assumption) ?_; (try simp only [go_sem])) | ((first | refine AGet.nth ?_ (fun b hb => ?_) | refine AGet.nth1 ?_ (fun b hb => ?_) | with_reducible refine And.intro ?_ ?_); (focus ((first | omega | exact List.length_pos_iff.2 (by assumption) | (simp only [List.length_append, List.length_cons, List.length_nil, List.length_map, List.length_take, List.length_drop] at *; omega) | (rw [wrap64_id (by omega) (by omega)]; omega) | (simp; done)))); (try simp only [hb, go_sem])))
      refine hK6 _ ?_; clear hK6 K6
      refine AWP.cond rfl (fun c11 => ?_) (fun c11 => ?_)
      · first | exact Bool.noConfusion c11 | (
          try simp only [dD] at c11
          refine AWP.seqk fun K7 hK7 => ?_
          refine AWP.region ?_
          simp only [go_sem] -- region 4
          repeat' (first | (refine AGet.haveM (by assumption) ?_; (try simp only [go_sem])) | (refine AGet.have' (by assumption) ?_; (try simp only [go_sem])) | ((first | refine AGet.nth ?_ (fun b hb => ?_) | refine AGet.nth1 ?_ (fun b hb => ?_) | with_reducible refine And.intro ?_ ?_); (focus ((first | omega | exact List.length_pos_iff.2 (by assumption) | (simp only [List.length_append, List.length_cons, List.length_nil, List.length_map, List.length_take, List.length_drop] at *; omega) | (rw [wrap64_id (by omega) (by omega)]; omega) | (simp; done)))); (try simp only [hb, go_sem])))
          refine hK7 _ ?_; clear hK7 K7
          refine AWP.ret ?_
          try simp only [go_sem]
          clear hK5 K5
          exact ⟨[], .v _, rfl, rfl, rfl, rfl⟩)
      · first | exact Bool.noConfusion c11 | (
          try simp only [dD] at c11
          refine AWP.skip ?_
          refine hK5 _ ?_; clear hK5 K5
          refine AWP.seqk fun K8 hK8 => ?_
          refine AWP.region ?_
          simp only [go_sem] -- region 5
          repeat' (first | (refine ACall.of (mput_c _) (by kernel_rfl) rfl ?_; rintro r t ⟨rfl, rfl⟩ <;> simp only [go_sem]) | (refine AGet.haveM (by assumption) ?_; (try simp only [go_sem])) | (refine AGet.have' (by assumption) ?_; (try simp only [go_sem])) | ((first | refine AGet.nth ?_ (fun b hb => ?_) | refine AGet.nth1 ?_ (fun b hb => ?_) | with_reducible refine And.intro ?_ ?_); (focus ((first | omega | exact List.length_pos_iff.2 (by assumption) | (simp only [List.length_append, List.length_cons, List.length_nil, List.length_map, List.length_take, List.length_drop] at *; omega) | (rw [wrap64_id (by omega) (by omega)]; omega) | (simp; done)))); (try simp only [hb, go_sem])))
          refine hK8 _ ?_; clear hK8 K8
          refine AWP.seqk fun K9 hK9 => ?_
          refine AWP.region ?_
          simp only [go_sem] -- region 6
          repeat' (first | (refine ACall.of (r3put_c _) (by kernel_rfl) rfl ?_; rintro r t ⟨rfl, rfl⟩ <;> simp only [go_sem]) | (refine AGet.haveM (by assumption) ?_; (try simp only [go_sem])) | (refine AGet.have' (by assumption) ?_; (try simp only [go_sem])) | ((first | refine AGet.nth ?_ (fun b hb => ?_) | refine AGet.nth1 ?_ (fun b hb => ?_) | with_reducible refine And.intro ?_ ?_); (focus ((first | omega | exact List.length_pos_iff.2 (by assumption) | (simp only [List.length_append, List.length_cons, List.length_nil, List.length_map, List.length_take, List.length_drop] at *; omega) | (rw [wrap64_id (by omega) (by omega)]; omega) | (simp; done)))); (try simp only [hb, go_sem])))
          refine hK9 _ ?_; clear hK9 K9
          refine AWP.seqk fun K10 hK10 => ?_
          refine AWP.region ?_
          simp only [go_sem] -- region 7
          repeat' (first | (refine ACall.one (mright_c _) (by kernel_rfl) rfl ?_; simp only [go_sem]) | (refine ACall.one (r3right_c _) (by kernel_rfl) rfl ?_; simp only [go_sem]) | (refine ACall.one (msum_c _ (by omega)) (by kernel_rfl) rfl ?_; simp only [go_sem]) | (refine ACall.one (rsum_c _ (by omega)) (by kernel_rfl) rfl ?_; simp only [go_sem]) | (refine AGuard.splitN (fun h => ?_) (fun h => ?_) <;> simp only [h, go_sem] <;> try simp only [dD] at h) | (refine AGuard.split (fun h => ?_) (fun h => ?_) <;> simp only [h, go_sem] <;> try simp only [dD] at h) | (refine AGet.haveM (by assumption) ?_; (try simp only [go_sem])) | (refine AGet.have' (by assumption) ?_; (try simp only [go_sem])) | ((first | refine AGet.nth ?_ (fun b hb => ?_) | refine AGet.nth1 ?_ (fun b hb => ?_) | with_reducible refine And.intro ?_ ?_); (focus ((first | omega | exact List.length_pos_iff.2 (by assumption) | (simp only [List.length_append, List.length_cons, List.length_nil, List.length_map, List.length_take, List.length_drop] at *; omega) | (rw [wrap64_id (by omega) (by omega)]; omega) | (simp; done)))); (try simp only [hb, go_sem])))
          all_goals (
            refine hK10 _ ?_; clear hK10 K10
            refine AWP.ret ?_
            try simp only [go_sem]
            exact ⟨[], .v _, rfl, rfl, rfl, rfl⟩)))


set_option maxHeartbeats 2000000 in
theorem fr_next_c (bs : Bs) : ACalls E 8 [bytesV bs] (fun r t => r = bl true ∧ t = []) := by -- checkroll/checkrolllaw03.FrameNext
  refine ACalls.of_awp (n := 41) (rs := [.tmp 2]) Tryd.func8 rfl Tryd.ntmps8 rfl ?_
  refine AWP.seqk fun K1 hK1 => ?_
  refine AWP.region ?_
  simp only [go_sem] -- region 0
  repeat' (first | (refine AGet.haveM (by assumption) ?_; (try simp only [go_sem])) | (refine AGet.have' (by assumption) ?_; (try simp only [go_sem])) | ((first | refine AGet.nth ?_ (fun b hb => ?_) | refine AGet.nth1 ?_ (fun b hb => ?_) | with_reducible refine And.intro ?_ ?_); (focus ((first | omega | exact List.length_pos_iff.2 (by assumption) | (simp only [List.length_append, List.length_cons, List.length_nil, List.length_map, List.length_take, List.length_drop] at *; omega) | (rw [wrap64_id (by omega) (by omega)]; omega) | (simp; done)))); (try simp only [hb, go_sem])))
  refine hK1 _ ?_; clear hK1 K1
  refine AWP.seqk fun K2 hK2 => ?_
  refine AWP.seqk fun K3 hK3 => ?_
  refine AWP.region ?_
  simp only [go_sem] -- region 1
  repeat' (first | (refine ACall.one (awake3_c ) (by kernel_rfl) rfl ?_; simp only [go_sem]) | (refine AGet.haveM (by assumption) ?_; (try simp only [go_sem])) | (refine AGet.have' (by assumption) ?_; (try simp only [go_sem])) | ((first | refine AGet.nth ?_ (fun b hb => ?_) | refine AGet.nth1 ?_ (fun b hb => ?_) | with_reducible refine And.intro ?_ ?_); (focus ((first | omega | exact List.length_pos_iff.2 (by assumption) | (simp only [List.length_append, List.length_cons, List.length_nil, List.length_map, List.length_take, List.length_drop] at *; omega) | (rw [wrap64_id (by omega) (by omega)]; omega) | (simp; done)))); (try simp only [hb, go_sem])))
  refine hK3 _ ?_; clear hK3 K3
  refine AWP.cond rfl (fun c10 => ?_) (fun c10 => ?_)
  · first | exact Bool.noConfusion c10 | (
      try simp only [dD] at c10
      refine AWP.seqk fun K4 hK4 => ?_
      refine AWP.region ?_
      simp only [go_sem] -- region 2
      repeat' (first | (refine AGet.haveM (by assumption) ?_; (try simp only [go_sem])) | (refine AGet.have' (by assumption) ?_; (try simp only [go_sem])) | ((first | refine AGet.nth ?_ (fun b hb => ?_) | refine AGet.nth1 ?_ (fun b hb => ?_) | with_reducible refine And.intro ?_ ?_); (focus ((first | omega | exact List.length_pos_iff.2 (by assumption) | (simp only [List.length_append, List.length_cons, List.length_nil, List.length_map, List.length_take, List.length_drop] at *; omega) | (rw [wrap64_id (by omega) (by omega)]; omega) | (simp; done)))); (try simp only [hb, go_sem])))
      refine hK4 _ ?_; clear hK4 K4
      refine AWP.ret ?_
      try simp only [go_sem]
      clear hK2 K2
      exact ⟨[], .v _, rfl, rfl, rfl, rfl⟩)
  · first | exact Bool.noConfusion c10 | (
      try simp only [dD] at c10
      refine AWP.skip ?_
      refine hK2 _ ?_; clear hK2 K2
      refine AWP.seqk fun K5 hK5 => ?_
      refine AWP.seqk fun K6 hK6 => ?_
      refine AWP.region ?_
      simp only [go_sem] -- region 3
      repeat' (first | (refine AGet.haveM (by assumption) ?_; (try simp only [go_sem])) | (refine AGet.have' (by assumption) ?_; (try simp only [go_sem])) | ((first | refine AGet.nth ?_ (fun b hb => ?_) | refine AGet.nth1 ?_ (fun b hb => ?_) | with_reducible refine And.intro ?_ ?_); (focus ((first | omega | exact List.length_pos_iff.2 (by assumption) | (simp only [List.length_append, List.length_cons, List.length_nil, List.length_map, List.length_take, List.length_drop] at *; omega) | (rw [wrap64_id (by omega) (by omega)]; omega) | (simp; done)))); (try simp only [hb, go_sem])))
      refine hK6 _ ?_; clear hK6 K6
      refine AWP.cond rfl (fun c13 => ?_) (fun c13 => ?_)
      · first | exact Bool.noConfusion c13 | (
          try simp only [dD] at c13
          refine AWP.seqk fun K7 hK7 => ?_
          refine AWP.region ?_
          simp only [go_sem] -- region 4
          repeat' (first | (refine AGet.haveM (by assumption) ?_; (try simp only [go_sem])) | (refine AGet.have' (by assumption) ?_; (try simp only [go_sem])) | ((first | refine AGet.nth ?_ (fun b hb => ?_) | refine AGet.nth1 ?_ (fun b hb => ?_) | with_reducible refine And.intro ?_ ?_); (focus ((first | omega | exact List.length_pos_iff.2 (by assumption) | (simp only [List.length_append, List.length_cons, List.length_nil, List.length_map, List.length_take, List.length_drop] at *; omega) | (rw [wrap64_id (by omega) (by omega)]; omega) | (simp; done)))); (try simp only [hb, go_sem])))
          refine hK7 _ ?_; clear hK7 K7
          refine AWP.ret ?_
          try simp only [go_sem]
          clear hK5 K5
          exact ⟨[], .v _, rfl, rfl, rfl, rfl⟩)
      · first | exact Bool.noConfusion c13 | (
          try simp only [dD] at c13
          refine AWP.skip ?_
          refine hK5 _ ?_; clear hK5 K5
          refine AWP.seqk fun K8 hK8 => ?_
          refine AWP.region ?_
          simp only [go_sem] -- region 5
          repeat' (first | (refine ACall.of (mnext_c _ (by omega)) (by kernel_rfl) rfl ?_; rintro r t ⟨rfl, rfl⟩ <;> simp only [go_sem]) | (refine AGet.haveM (by assumption) ?_; (try simp only [go_sem])) | (refine AGet.have' (by assumption) ?_; (try simp only [go_sem])) | ((first | refine AGet.nth ?_ (fun b hb => ?_) | refine AGet.nth1 ?_ (fun b hb => ?_) | with_reducible refine And.intro ?_ ?_); (focus ((first | omega | exact List.length_pos_iff.2 (by assumption) | (simp only [List.length_append, List.length_cons, List.length_nil, List.length_map, List.length_take, List.length_drop] at *; omega) | (rw [wrap64_id (by omega) (by omega)]; omega) | (simp; done)))); (try simp only [hb, go_sem])))
          refine hK8 _ ?_; clear hK8 K8
          refine AWP.seqk fun K9 hK9 => ?_
          refine AWP.region ?_
          simp only [go_sem] -- region 6
          repeat' (first | (refine ACall.one (r3next_c _ (by omega)) (by kernel_rfl) rfl ?_; simp only [go_sem]) | (refine AGet.haveM (by assumption) ?_; (try simp only [go_sem])) | (refine AGet.have' (by assumption) ?_; (try simp only [go_sem])) | ((first | refine AGet.nth ?_ (fun b hb => ?_) | refine AGet.nth1 ?_ (fun b hb => ?_) | with_reducible refine And.intro ?_ ?_); (focus ((first | omega | exact List.length_pos_iff.2 (by assumption) | (simp only [List.length_append, List.length_cons, List.length_nil, List.length_map, List.length_take, List.length_drop] at *; omega) | (rw [wrap64_id (by omega) (by omega)]; omega) | (simp; done)))); (try simp only [hb, go_sem])))
          refine hK9 _ ?_; clear hK9 K9
          refine AWP.seqk fun K10 hK10 => ?_
          refine AWP.region ?_
          simp only [go_sem] -- region 7
          repeat' (first | (refine AGuard.splitN (fun h => ?_) (fun h => ?_) <;> simp only [h, go_sem] <;> try simp only [dD] at h) | (refine AGuard.split (fun h => ?_) (fun h => ?_) <;> simp only [h, go_sem] <;> try simp only [dD] at h) | (refine AGet.haveM (by assumption) ?_; (try simp only [go_sem])) | (refine AGet.have' (by assumption) ?_; (try simp only [go_sem])) | ((first | refine AGet.nth ?_ (fun b hb => ?_) | refine AGet.nth1 ?_ (fun b hb => ?_) | with_reducible refine And.intro ?_ ?_); (focus ((first | omega | exact List.length_pos_iff.2 (by assumption) | (simp only [List.length_append, List.length_cons, List.length_nil, List.length_map, List.length_take, List.length_drop] at *; omega) | (rw [wrap64_id (by omega) (by omega)]; omega) | (simp; done)))); (try simp only [hb, go_sem])))
          all_goals (
            refine hK10 _ ?_; clear hK10 K10
            refine AWP.ret ?_
            try simp only [go_sem]
            exact ⟨[], .v _, rfl, rfl, rfl, rfl⟩)))


end Go.Proofs.YtgiomlgkccjhfaaDoor
