import Derived.Test.YtgiomlgkccjhfaaDoorN11
namespace Go.Proofs.YtgiomlgkccjhfaaDoor
open Go Go.Abs Go.RowKit Go.Fld
set_option linter.unusedVariables false
set_option linter.unusedSimpArgs false

set_option maxHeartbeats 4000000 in
set_option maxRecDepth 8000 in
theorem cuts_c (l : List Fld.Fd) (c : Int) (hc0 : 0 ≤ c) (hc1 : c < 65536) (hl0 : l.length ≤ 9223372036854775807) : ACalls E 6 [fldsV l, .v (.int .u16 c)] (fun r t => r = bl true ∧ t = []) := by -- checkroll/checkrolllaw02.FieldCuts
  refine ACalls.of_awp (n := 83) (rs := [.tmp 4]) Tryd.func6 rfl Tryd.ntmps6 rfl ?_
  refine AWP.seqk fun K1 hK1 => ?_
  refine AWP.region ?_
  simp only [go_sem] -- region 0
  repeat' (first | (refine AGet.haveM (by assumption) ?_; (try simp only [go_sem])) | (refine AGet.have' (by assumption) ?_; (try simp only [go_sem])) | (refine AGet.nth (by (first | omega | exact List.length_pos_iff.2 (by assumption) | (simp only [List.length_append, List.length_cons, List.length_nil, List.length_map, List.length_take, List.length_drop] at *; omega) | (rw [wrap64_id (by omega) (by omega)]; omega) | (simp; done))) (fun b hb => ?_); (try simp only [hb, go_sem])) | (refine AGet.nth1 (by (first | omega | exact List.length_pos_iff.2 (by assumption) | (simp only [List.length_append, List.length_cons, List.length_nil, List.length_map, List.length_take, List.length_drop] at *; omega) | (rw [wrap64_id (by omega) (by omega)]; omega) | (simp; done))) (fun b hb => ?_); (try simp only [hb, go_sem])) | ((with_reducible refine And.intro ?_ ?_); focus ((first | omega | exact List.length_pos_iff.2 (by assumption) | (simp only [List.length_append, List.length_cons, List.length_nil, List.length_map, List.length_take, List.length_drop] at *; omega) | (rw [wrap64_id (by omega) (by omega)]; omega) | (simp; done)))))
  refine hK1 _ ?_; clear hK1 K1
  refine AWP.seqk fun K2 hK2 => ?_
  refine AWP.seqk fun K3 hK3 => ?_
  refine AWP.region ?_
  simp only [go_sem] -- region 1
  repeat' (first | (refine ACall.one (awake2_c ) (by kernel_rfl) rfl ?_; simp only [go_sem]) | (refine AGet.haveM (by assumption) ?_; (try simp only [go_sem])) | (refine AGet.have' (by assumption) ?_; (try simp only [go_sem])) | (refine AGet.nth (by (first | omega | exact List.length_pos_iff.2 (by assumption) | (simp only [List.length_append, List.length_cons, List.length_nil, List.length_map, List.length_take, List.length_drop] at *; omega) | (rw [wrap64_id (by omega) (by omega)]; omega) | (simp; done))) (fun b hb => ?_); (try simp only [hb, go_sem])) | (refine AGet.nth1 (by (first | omega | exact List.length_pos_iff.2 (by assumption) | (simp only [List.length_append, List.length_cons, List.length_nil, List.length_map, List.length_take, List.length_drop] at *; omega) | (rw [wrap64_id (by omega) (by omega)]; omega) | (simp; done))) (fun b hb => ?_); (try simp only [hb, go_sem])) | ((with_reducible refine And.intro ?_ ?_); focus ((first | omega | exact List.length_pos_iff.2 (by assumption) | (simp only [List.length_append, List.length_cons, List.length_nil, List.length_map, List.length_take, List.length_drop] at *; omega) | (rw [wrap64_id (by omega) (by omega)]; omega) | (simp; done)))))
  refine hK3 _ ?_; clear hK3 K3
  refine AWP.cond rfl (fun c13 => ?_) (fun c13 => ?_)
  · first | exact Bool.noConfusion c13 | (
      try simp only [decide_eq_true_eq, decide_eq_false_iff_not, Bool.not_eq_true', Bool.not_eq_false', Bool.or_eq_true, Bool.and_eq_true, Bool.or_eq_false_iff, Bool.and_eq_false_imp, Bool.not_true, Bool.not_false, Bool.true_eq_false, Bool.false_eq_true, ne_eq] at c13
      refine AWP.seqk fun K4 hK4 => ?_
      refine AWP.region ?_
      simp only [go_sem] -- region 2
      repeat' (first | (refine AGet.haveM (by assumption) ?_; (try simp only [go_sem])) | (refine AGet.have' (by assumption) ?_; (try simp only [go_sem])) | (refine AGet.nth (by (first | omega | exact List.length_pos_iff.2 (by assumption) | (simp only [List.length_append, List.length_cons, List.length_nil, List.length_map, List.length_take, List.length_drop] at *; omega) | (rw [wrap64_id (by omega) (by omega)]; omega) | (simp; done))) (fun b hb => ?_); (try simp only [hb, go_sem])) | (refine AGet.nth1 (by (first | omega | exact List.length_pos_iff.2 (by assumption) | (simp only [List.length_append, List.length_cons, List.length_nil, List.length_map, List.length_take, List.length_drop] at *; omega) | (rw [wrap64_id (by omega) (by omega)]; omega) | (simp; done))) (fun b hb => ?_); (try simp only [hb, go_sem])) | ((with_reducible refine And.intro ?_ ?_); focus ((first | omega | exact List.length_pos_iff.2 (by assumption) | (simp only [List.length_append, List.length_cons, List.length_nil, List.length_map, List.length_take, List.length_drop] at *; omega) | (rw [wrap64_id (by omega) (by omega)]; omega) | (simp; done)))))
      refine hK4 _ ?_; clear hK4 K4
      refine AWP.ret ?_
      simp only [go_sem]
      clear hK2 K2
      first
      | exact ⟨[], .v _, rfl, rfl, by rw [put_fail (by assumption)]; rfl, rfl⟩
      | exact ⟨[], .v _, rfl, rfl, rfl, rfl⟩
      | skip)
  · first | exact Bool.noConfusion c13 | (
      try simp only [decide_eq_true_eq, decide_eq_false_iff_not, Bool.not_eq_true', Bool.not_eq_false', Bool.or_eq_true, Bool.and_eq_true, Bool.or_eq_false_iff, Bool.and_eq_false_imp, Bool.not_true, Bool.not_false, Bool.true_eq_false, Bool.false_eq_true, ne_eq] at c13
      refine AWP.skip ?_
      refine hK2 _ ?_; clear hK2 K2
      refine AWP.seqk fun K5 hK5 => ?_
      refine AWP.seqk fun K6 hK6 => ?_
      refine AWP.region ?_
      simp only [go_sem] -- region 3
      repeat' (first | (refine ACall.one (r2short_c _ (by omega)) (by kernel_rfl) rfl ?_; simp only [go_sem]) | (refine AGuard.splitN (fun h => ?_) (fun h => ?_) <;> simp only [h, go_sem] <;> try simp only [decide_eq_true_eq, decide_eq_false_iff_not, Bool.not_eq_true', Bool.not_eq_false', Bool.or_eq_true, Bool.and_eq_true, Bool.or_eq_false_iff, Bool.and_eq_false_imp, Bool.not_true, Bool.not_false, Bool.true_eq_false, Bool.false_eq_true, ne_eq] at h) | (refine AGuard.split (fun h => ?_) (fun h => ?_) <;> simp only [h, go_sem] <;> try simp only [decide_eq_true_eq, decide_eq_false_iff_not, Bool.not_eq_true', Bool.not_eq_false', Bool.or_eq_true, Bool.and_eq_true, Bool.or_eq_false_iff, Bool.and_eq_false_imp, Bool.not_true, Bool.not_false, Bool.true_eq_false, Bool.false_eq_true, ne_eq] at h) | (refine AGet.haveM (by assumption) ?_; (try simp only [go_sem])) | (refine AGet.have' (by assumption) ?_; (try simp only [go_sem])) | (refine AGet.nth (by (first | omega | exact List.length_pos_iff.2 (by assumption) | (simp only [List.length_append, List.length_cons, List.length_nil, List.length_map, List.length_take, List.length_drop] at *; omega) | (rw [wrap64_id (by omega) (by omega)]; omega) | (simp; done))) (fun b hb => ?_); (try simp only [hb, go_sem])) | (refine AGet.nth1 (by (first | omega | exact List.length_pos_iff.2 (by assumption) | (simp only [List.length_append, List.length_cons, List.length_nil, List.length_map, List.length_take, List.length_drop] at *; omega) | (rw [wrap64_id (by omega) (by omega)]; omega) | (simp; done))) (fun b hb => ?_); (try simp only [hb, go_sem])) | ((with_reducible refine And.intro ?_ ?_); focus ((first | omega | exact List.length_pos_iff.2 (by assumption) | (simp only [List.length_append, List.length_cons, List.length_nil, List.length_map, List.length_take, List.length_drop] at *; omega) | (rw [wrap64_id (by omega) (by omega)]; omega) | (simp; done)))))
      all_goals (
        refine hK6 _ ?_; clear hK6 K6
        refine AWP.cond rfl (fun c21 => ?_) (fun c21 => ?_)
        · first | exact Bool.noConfusion c21 | (
            try simp only [decide_eq_true_eq, decide_eq_false_iff_not, Bool.not_eq_true', Bool.not_eq_false', Bool.or_eq_true, Bool.and_eq_true, Bool.or_eq_false_iff, Bool.and_eq_false_imp, Bool.not_true, Bool.not_false, Bool.true_eq_false, Bool.false_eq_true, ne_eq] at c21
            refine AWP.seqk fun K7 hK7 => ?_
            refine AWP.region ?_
            simp only [go_sem] -- region 4
            repeat' (first | (refine AGet.haveM (by assumption) ?_; (try simp only [go_sem])) | (refine AGet.have' (by assumption) ?_; (try simp only [go_sem])) | (refine AGet.nth (by (first | omega | exact List.length_pos_iff.2 (by assumption) | (simp only [List.length_append, List.length_cons, List.length_nil, List.length_map, List.length_take, List.length_drop] at *; omega) | (rw [wrap64_id (by omega) (by omega)]; omega) | (simp; done))) (fun b hb => ?_); (try simp only [hb, go_sem])) | (refine AGet.nth1 (by (first | omega | exact List.length_pos_iff.2 (by assumption) | (simp only [List.length_append, List.length_cons, List.length_nil, List.length_map, List.length_take, List.length_drop] at *; omega) | (rw [wrap64_id (by omega) (by omega)]; omega) | (simp; done))) (fun b hb => ?_); (try simp only [hb, go_sem])) | ((with_reducible refine And.intro ?_ ?_); focus ((first | omega | exact List.length_pos_iff.2 (by assumption) | (simp only [List.length_append, List.length_cons, List.length_nil, List.length_map, List.length_take, List.length_drop] at *; omega) | (rw [wrap64_id (by omega) (by omega)]; omega) | (simp; done)))))
            refine hK7 _ ?_; clear hK7 K7
            refine AWP.ret ?_
            simp only [go_sem]
            clear hK5 K5
            first
            | exact ⟨[], .v _, rfl, rfl, by rw [put_fail (by assumption)]; rfl, rfl⟩
            | exact ⟨[], .v _, rfl, rfl, rfl, rfl⟩
            | skip)
        · first | exact Bool.noConfusion c21 | (
            try simp only [decide_eq_true_eq, decide_eq_false_iff_not, Bool.not_eq_true', Bool.not_eq_false', Bool.or_eq_true, Bool.and_eq_true, Bool.or_eq_false_iff, Bool.and_eq_false_imp, Bool.not_true, Bool.not_false, Bool.true_eq_false, Bool.false_eq_true, ne_eq] at c21
            refine AWP.skip ?_
            refine hK5 _ ?_; clear hK5 K5
            refine AWP.seqk fun K8 hK8 => ?_
            refine AWP.region ?_
            simp only [go_sem] -- region 5
            repeat' (first | (refine ACall.of (fput_c _) (by kernel_rfl) rfl ?_; rintro r t ⟨rfl, rfl⟩ <;> simp only [go_sem]) | (refine AGet.haveM (by assumption) ?_; (try simp only [go_sem])) | (refine AGet.have' (by assumption) ?_; (try simp only [go_sem])) | (refine AGet.nth (by (first | omega | exact List.length_pos_iff.2 (by assumption) | (simp only [List.length_append, List.length_cons, List.length_nil, List.length_map, List.length_take, List.length_drop] at *; omega) | (rw [wrap64_id (by omega) (by omega)]; omega) | (simp; done))) (fun b hb => ?_); (try simp only [hb, go_sem])) | (refine AGet.nth1 (by (first | omega | exact List.length_pos_iff.2 (by assumption) | (simp only [List.length_append, List.length_cons, List.length_nil, List.length_map, List.length_take, List.length_drop] at *; omega) | (rw [wrap64_id (by omega) (by omega)]; omega) | (simp; done))) (fun b hb => ?_); (try simp only [hb, go_sem])) | ((with_reducible refine And.intro ?_ ?_); focus ((first | omega | exact List.length_pos_iff.2 (by assumption) | (simp only [List.length_append, List.length_cons, List.length_nil, List.length_map, List.length_take, List.length_drop] at *; omega) | (rw [wrap64_id (by omega) (by omega)]; omega) | (simp; done)))))
            refine hK8 _ ?_; clear hK8 K8
            refine AWP.seqk fun K9 hK9 => ?_
            refine AWP.seqk fun K10 hK10 => ?_
            refine AWP.region ?_
            simp only [go_sem] -- region 6
            repeat' (first | (refine AGet.haveM (by assumption) ?_; (try simp only [go_sem])) | (refine AGet.have' (by assumption) ?_; (try simp only [go_sem])) | (refine AGet.nth (by (first | omega | exact List.length_pos_iff.2 (by assumption) | (simp only [List.length_append, List.length_cons, List.length_nil, List.length_map, List.length_take, List.length_drop] at *; omega) | (rw [wrap64_id (by omega) (by omega)]; omega) | (simp; done))) (fun b hb => ?_); (try simp only [hb, go_sem])) | (refine AGet.nth1 (by (first | omega | exact List.length_pos_iff.2 (by assumption) | (simp only [List.length_append, List.length_cons, List.length_nil, List.length_map, List.length_take, List.length_drop] at *; omega) | (rw [wrap64_id (by omega) (by omega)]; omega) | (simp; done))) (fun b hb => ?_); (try simp only [hb, go_sem])) | ((with_reducible refine And.intro ?_ ?_); focus ((first | omega | exact List.length_pos_iff.2 (by assumption) | (simp only [List.length_append, List.length_cons, List.length_nil, List.length_map, List.length_take, List.length_drop] at *; omega) | (rw [wrap64_id (by omega) (by omega)]; omega) | (simp; done)))))
            refine hK10 _ ?_; clear hK10 K10
            refine AWP.cond rfl (fun c28 => ?_) (fun c28 => ?_)
            · first | exact Bool.noConfusion c28 | (
                try simp only [decide_eq_true_eq, decide_eq_false_iff_not, Bool.not_eq_true', Bool.not_eq_false', Bool.or_eq_true, Bool.and_eq_true, Bool.or_eq_false_iff, Bool.and_eq_false_imp, Bool.not_true, Bool.not_false, Bool.true_eq_false, Bool.false_eq_true, ne_eq] at c28
                refine AWP.seqk fun K11 hK11 => ?_
                refine AWP.region ?_
                simp only [go_sem] -- region 7
                repeat' (first | (refine AGet.haveM (by assumption) ?_; (try simp only [go_sem])) | (refine AGet.have' (by assumption) ?_; (try simp only [go_sem])) | (refine AGet.nth (by (first | omega | exact List.length_pos_iff.2 (by assumption) | (simp only [List.length_append, List.length_cons, List.length_nil, List.length_map, List.length_take, List.length_drop] at *; omega) | (rw [wrap64_id (by omega) (by omega)]; omega) | (simp; done))) (fun b hb => ?_); (try simp only [hb, go_sem])) | (refine AGet.nth1 (by (first | omega | exact List.length_pos_iff.2 (by assumption) | (simp only [List.length_append, List.length_cons, List.length_nil, List.length_map, List.length_take, List.length_drop] at *; omega) | (rw [wrap64_id (by omega) (by omega)]; omega) | (simp; done))) (fun b hb => ?_); (try simp only [hb, go_sem])) | ((with_reducible refine And.intro ?_ ?_); focus ((first | omega | exact List.length_pos_iff.2 (by assumption) | (simp only [List.length_append, List.length_cons, List.length_nil, List.length_map, List.length_take, List.length_drop] at *; omega) | (rw [wrap64_id (by omega) (by omega)]; omega) | (simp; done)))))
                refine hK11 _ ?_; clear hK11 K11
                refine AWP.ret ?_
                simp only [go_sem]
                clear hK9 K9
                first
                | exact ⟨[], .v _, rfl, rfl, by rw [put_fail (by assumption)]; rfl, rfl⟩
                | exact ⟨[], .v _, rfl, rfl, rfl, rfl⟩
                | skip)
            · first | exact Bool.noConfusion c28 | (
                try simp only [decide_eq_true_eq, decide_eq_false_iff_not, Bool.not_eq_true', Bool.not_eq_false', Bool.or_eq_true, Bool.and_eq_true, Bool.or_eq_false_iff, Bool.and_eq_false_imp, Bool.not_true, Bool.not_false, Bool.true_eq_false, Bool.false_eq_true, ne_eq] at c28
                refine AWP.skip ?_
                refine hK9 _ ?_; clear hK9 K9
                refine AWP.seqk fun K12 hK12 => ?_
                have hlen := put_len l
                refine AWP.region ?_
                simp only [go_sem] -- region 8
                repeat' (first | (refine AGet.haveM (by assumption) ?_; (try simp only [go_sem])) | (refine AGet.have' (by assumption) ?_; (try simp only [go_sem])) | (refine AGet.nth (by (first | omega | exact List.length_pos_iff.2 (by assumption) | (simp only [List.length_append, List.length_cons, List.length_nil, List.length_map, List.length_take, List.length_drop] at *; omega) | (rw [wrap64_id (by omega) (by omega)]; omega) | (simp; done))) (fun b hb => ?_); (try simp only [hb, go_sem])) | (refine AGet.nth1 (by (first | omega | exact List.length_pos_iff.2 (by assumption) | (simp only [List.length_append, List.length_cons, List.length_nil, List.length_map, List.length_take, List.length_drop] at *; omega) | (rw [wrap64_id (by omega) (by omega)]; omega) | (simp; done))) (fun b hb => ?_); (try simp only [hb, go_sem])) | ((with_reducible refine And.intro ?_ ?_); focus ((first | omega | exact List.length_pos_iff.2 (by assumption) | (simp only [List.length_append, List.length_cons, List.length_nil, List.length_map, List.length_take, List.length_drop] at *; omega) | (rw [wrap64_id (by omega) (by omega)]; omega) | (simp; done)))))
                obtain ⟨q, hq, hqle⟩ := mod_q hc0 hc1 hlen
                rw [hq]
                refine hK12 _ ?_; clear hK12 K12
                refine AWP.seqk fun K13 hK13 => ?_
                refine AWP.region ?_
                simp only [go_sem] -- region 9
                repeat' (first | (refine ACall.of (fparse_c _) (by kernel_rfl) rfl ?_; rintro r t ⟨rfl, rfl⟩ <;> simp only [go_sem]) | (refine AGet.haveM (by assumption) ?_; (try simp only [go_sem])) | (refine AGet.have' (by assumption) ?_; (try simp only [go_sem])) | (refine AGet.nth (by (first | omega | exact List.length_pos_iff.2 (by assumption) | (simp only [List.length_append, List.length_cons, List.length_nil, List.length_map, List.length_take, List.length_drop] at *; omega) | (rw [wrap64_id (by omega) (by omega)]; omega) | (simp; done))) (fun b hb => ?_); (try simp only [hb, go_sem])) | (refine AGet.nth1 (by (first | omega | exact List.length_pos_iff.2 (by assumption) | (simp only [List.length_append, List.length_cons, List.length_nil, List.length_map, List.length_take, List.length_drop] at *; omega) | (rw [wrap64_id (by omega) (by omega)]; omega) | (simp; done))) (fun b hb => ?_); (try simp only [hb, go_sem])) | ((with_reducible refine And.intro ?_ ?_); focus ((first | omega | exact List.length_pos_iff.2 (by assumption) | (simp only [List.length_append, List.length_cons, List.length_nil, List.length_map, List.length_take, List.length_drop] at *; omega) | (rw [wrap64_id (by omega) (by omega)]; omega) | (simp; done)))))
                refine hK13 _ ?_; clear hK13 K13
                refine AWP.seqk fun K14 hK14 => ?_
                refine AWP.region ?_
                simp only [go_sem] -- region 10
                repeat' (first | (refine AGet.haveM (by assumption) ?_; (try simp only [go_sem])) | (refine AGet.have' (by assumption) ?_; (try simp only [go_sem])) | (refine AGet.nth (by (first | omega | exact List.length_pos_iff.2 (by assumption) | (simp only [List.length_append, List.length_cons, List.length_nil, List.length_map, List.length_take, List.length_drop] at *; omega) | (rw [wrap64_id (by omega) (by omega)]; omega) | (simp; done))) (fun b hb => ?_); (try simp only [hb, go_sem])) | (refine AGet.nth1 (by (first | omega | exact List.length_pos_iff.2 (by assumption) | (simp only [List.length_append, List.length_cons, List.length_nil, List.length_map, List.length_take, List.length_drop] at *; omega) | (rw [wrap64_id (by omega) (by omega)]; omega) | (simp; done))) (fun b hb => ?_); (try simp only [hb, go_sem])) | ((with_reducible refine And.intro ?_ ?_); focus ((first | omega | exact List.length_pos_iff.2 (by assumption) | (simp only [List.length_append, List.length_cons, List.length_nil, List.length_map, List.length_take, List.length_drop] at *; omega) | (rw [wrap64_id (by omega) (by omega)]; omega) | (simp; done)))))
                refine hK14 _ ?_; clear hK14 K14
                refine AWP.seqk fun K15 hK15 => ?_
                refine AWP.seqk fun K16 hK16 => ?_
                refine AWP.region ?_
                simp only [go_sem] -- region 11
                repeat' (first | (refine AGet.haveM (by assumption) ?_; (try simp only [go_sem])) | (refine AGet.have' (by assumption) ?_; (try simp only [go_sem])) | (refine AGet.nth (by (first | omega | exact List.length_pos_iff.2 (by assumption) | (simp only [List.length_append, List.length_cons, List.length_nil, List.length_map, List.length_take, List.length_drop] at *; omega) | (rw [wrap64_id (by omega) (by omega)]; omega) | (simp; done))) (fun b hb => ?_); (try simp only [hb, go_sem])) | (refine AGet.nth1 (by (first | omega | exact List.length_pos_iff.2 (by assumption) | (simp only [List.length_append, List.length_cons, List.length_nil, List.length_map, List.length_take, List.length_drop] at *; omega) | (rw [wrap64_id (by omega) (by omega)]; omega) | (simp; done))) (fun b hb => ?_); (try simp only [hb, go_sem])) | ((with_reducible refine And.intro ?_ ?_); focus ((first | omega | exact List.length_pos_iff.2 (by assumption) | (simp only [List.length_append, List.length_cons, List.length_nil, List.length_map, List.length_take, List.length_drop] at *; omega) | (rw [wrap64_id (by omega) (by omega)]; omega) | (simp; done)))))
                refine hK16 _ ?_; clear hK16 K16
                refine AWP.block ?_ -- 0
                refine AWP.loopO (ι := Nat) [45, 46, 47, 48, 49, 50, 51, 52, 53, 54, 55, 56] (fun (i : Nat) => [(10, i64 ((((putF l).1.take q).take i).count 1 : Nat)), (11, i64 i)]) (fun (i : Nat) => []) (fun (i : Nat) => [(putF l).1.length, (parseL ((putF l).1.take q)).1.length]) (fun (i : Nat) => i ≤ q) (fun (i : Nat) => q - i) (0) ?_ ?_ ?_
                · (try simp only [go_sem]); try (simp; done)
                · omega
                rintro i h1
                simp only [go_sem]
                refine AWP.seqk fun K17 hK17 => ?_
                refine AWP.seqk fun K18 hK18 => ?_
                refine AWP.region ?_
                simp only [go_sem] -- region 12
                repeat' (first | (refine AGet.haveM (by assumption) ?_; (try simp only [go_sem])) | (refine AGet.have' (by assumption) ?_; (try simp only [go_sem])) | (refine AGet.nth (by (first | omega | exact List.length_pos_iff.2 (by assumption) | (simp only [List.length_append, List.length_cons, List.length_nil, List.length_map, List.length_take, List.length_drop] at *; omega) | (rw [wrap64_id (by omega) (by omega)]; omega) | (simp; done))) (fun b hb => ?_); (try simp only [hb, go_sem])) | (refine AGet.nth1 (by (first | omega | exact List.length_pos_iff.2 (by assumption) | (simp only [List.length_append, List.length_cons, List.length_nil, List.length_map, List.length_take, List.length_drop] at *; omega) | (rw [wrap64_id (by omega) (by omega)]; omega) | (simp; done))) (fun b hb => ?_); (try simp only [hb, go_sem])) | ((with_reducible refine And.intro ?_ ?_); focus ((first | omega | exact List.length_pos_iff.2 (by assumption) | (simp only [List.length_append, List.length_cons, List.length_nil, List.length_map, List.length_take, List.length_drop] at *; omega) | (rw [wrap64_id (by omega) (by omega)]; omega) | (simp; done)))))
                refine hK18 _ ?_; clear hK18 K18
                refine AWP.cond rfl (fun c47 => ?_) (fun c47 => ?_)
                · first | exact Bool.noConfusion c47 | (
                    try simp only [decide_eq_true_eq, decide_eq_false_iff_not, Bool.not_eq_true', Bool.not_eq_false', Bool.or_eq_true, Bool.and_eq_true, Bool.or_eq_false_iff, Bool.and_eq_false_imp, Bool.not_true, Bool.not_false, Bool.true_eq_false, Bool.false_eq_true, ne_eq] at c47
                    refine AWP.skip ?_
                    refine hK17 _ ?_; clear hK17 K17
                    refine AWP.seqk fun K19 hK19 => ?_
                    refine AWP.block ?_ -- 1
                    refine AWP.seqk fun K20 hK20 => ?_
                    refine AWP.region ?_
                    simp only [go_sem] -- region 14
                    repeat' (first | (refine AGet.haveM (by assumption) ?_; (try simp only [go_sem])) | (refine AGet.have' (by assumption) ?_; (try simp only [go_sem])) | (refine AGet.nth (by (first | omega | exact List.length_pos_iff.2 (by assumption) | (simp only [List.length_append, List.length_cons, List.length_nil, List.length_map, List.length_take, List.length_drop] at *; omega) | (rw [wrap64_id (by omega) (by omega)]; omega) | (simp; done))) (fun b hb => ?_); (try simp only [hb, go_sem])) | (refine AGet.nth1 (by (first | omega | exact List.length_pos_iff.2 (by assumption) | (simp only [List.length_append, List.length_cons, List.length_nil, List.length_map, List.length_take, List.length_drop] at *; omega) | (rw [wrap64_id (by omega) (by omega)]; omega) | (simp; done))) (fun b hb => ?_); (try simp only [hb, go_sem])) | ((with_reducible refine And.intro ?_ ?_); focus ((first | omega | exact List.length_pos_iff.2 (by assumption) | (simp only [List.length_append, List.length_cons, List.length_nil, List.length_map, List.length_take, List.length_drop] at *; omega) | (rw [wrap64_id (by omega) (by omega)]; omega) | (simp; done)))))
                    refine hK20 _ ?_; clear hK20 K20
                    refine AWP.cond rfl (fun c54 => ?_) (fun c54 => ?_)
                    · first | exact Bool.noConfusion c54 | (
                        try simp only [decide_eq_true_eq, decide_eq_false_iff_not, Bool.not_eq_true', Bool.not_eq_false', Bool.or_eq_true, Bool.and_eq_true, Bool.or_eq_false_iff, Bool.and_eq_false_imp, Bool.not_true, Bool.not_false, Bool.true_eq_false, Bool.false_eq_true, ne_eq] at c54
                        refine AWP.region ?_
                        simp only [go_sem] -- region 15
                        repeat' (first | (refine AGet.haveM (by assumption) ?_; (try simp only [go_sem])) | (refine AGet.have' (by assumption) ?_; (try simp only [go_sem])) | (refine AGet.nth (by (first | omega | exact List.length_pos_iff.2 (by assumption) | (simp only [List.length_append, List.length_cons, List.length_nil, List.length_map, List.length_take, List.length_drop] at *; omega) | (rw [wrap64_id (by omega) (by omega)]; omega) | (simp; done))) (fun b hb => ?_); (try simp only [hb, go_sem])) | (refine AGet.nth1 (by (first | omega | exact List.length_pos_iff.2 (by assumption) | (simp only [List.length_append, List.length_cons, List.length_nil, List.length_map, List.length_take, List.length_drop] at *; omega) | (rw [wrap64_id (by omega) (by omega)]; omega) | (simp; done))) (fun b hb => ?_); (try simp only [hb, go_sem])) | ((with_reducible refine And.intro ?_ ?_); focus ((first | omega | exact List.length_pos_iff.2 (by assumption) | (simp only [List.length_append, List.length_cons, List.length_nil, List.length_map, List.length_take, List.length_drop] at *; omega) | (rw [wrap64_id (by omega) (by omega)]; omega) | (simp; done)))))
                        refine hK19 _ ?_; clear hK19 K19
                        refine AWP.region ?_
                        simp only [go_sem] -- region 13
                        repeat' (first | (refine AGet.haveM (by assumption) ?_; (try simp only [go_sem])) | (refine AGet.have' (by assumption) ?_; (try simp only [go_sem])) | (refine AGet.nth (by (first | omega | exact List.length_pos_iff.2 (by assumption) | (simp only [List.length_append, List.length_cons, List.length_nil, List.length_map, List.length_take, List.length_drop] at *; omega) | (rw [wrap64_id (by omega) (by omega)]; omega) | (simp; done))) (fun b hb => ?_); (try simp only [hb, go_sem])) | (refine AGet.nth1 (by (first | omega | exact List.length_pos_iff.2 (by assumption) | (simp only [List.length_append, List.length_cons, List.length_nil, List.length_map, List.length_take, List.length_drop] at *; omega) | (rw [wrap64_id (by omega) (by omega)]; omega) | (simp; done))) (fun b hb => ?_); (try simp only [hb, go_sem])) | ((with_reducible refine And.intro ?_ ?_); focus ((first | omega | exact List.length_pos_iff.2 (by assumption) | (simp only [List.length_append, List.length_cons, List.length_nil, List.length_map, List.length_take, List.length_drop] at *; omega) | (rw [wrap64_id (by omega) (by omega)]; omega) | (simp; done)))))
                        clear hK15 K15
                        refine ⟨i + 1, ?_, ?_, ?_⟩
                        · have hx : ((putF l).1.take q)[i]? = some b := by rw [List.getElem?_take, if_pos (by omega)]; exact hb
                          rw [wrap64_id (x := (i : Int) + 1) (by omega) (by omega)]
                          first
                          | (rw [count_next1 hx (by assumption), wrap64_id (by have := List.count_le_length (a := (1 : UInt8)) (l := ((putF l).1.take q).take i); simp only [List.length_take] at this; omega) (by have := List.count_le_length (a := (1 : UInt8)) (l := ((putF l).1.take q).take i); simp only [List.length_take] at this; omega)]; simp; done)
                          | (rw [count_next2 hx (by assumption)]; simp; done)
                        · omega
                        · omega)
                    · first | exact Bool.noConfusion c54 | (
                        try simp only [decide_eq_true_eq, decide_eq_false_iff_not, Bool.not_eq_true', Bool.not_eq_false', Bool.or_eq_true, Bool.and_eq_true, Bool.or_eq_false_iff, Bool.and_eq_false_imp, Bool.not_true, Bool.not_false, Bool.true_eq_false, Bool.false_eq_true, ne_eq] at c54
                        refine AWP.skip ?_
                        refine hK19 _ ?_; clear hK19 K19
                        refine AWP.region ?_
                        simp only [go_sem] -- region 13
                        repeat' (first | (refine AGet.haveM (by assumption) ?_; (try simp only [go_sem])) | (refine AGet.have' (by assumption) ?_; (try simp only [go_sem])) | (refine AGet.nth (by (first | omega | exact List.length_pos_iff.2 (by assumption) | (simp only [List.length_append, List.length_cons, List.length_nil, List.length_map, List.length_take, List.length_drop] at *; omega) | (rw [wrap64_id (by omega) (by omega)]; omega) | (simp; done))) (fun b hb => ?_); (try simp only [hb, go_sem])) | (refine AGet.nth1 (by (first | omega | exact List.length_pos_iff.2 (by assumption) | (simp only [List.length_append, List.length_cons, List.length_nil, List.length_map, List.length_take, List.length_drop] at *; omega) | (rw [wrap64_id (by omega) (by omega)]; omega) | (simp; done))) (fun b hb => ?_); (try simp only [hb, go_sem])) | ((with_reducible refine And.intro ?_ ?_); focus ((first | omega | exact List.length_pos_iff.2 (by assumption) | (simp only [List.length_append, List.length_cons, List.length_nil, List.length_map, List.length_take, List.length_drop] at *; omega) | (rw [wrap64_id (by omega) (by omega)]; omega) | (simp; done)))))
                        clear hK15 K15
                        refine ⟨i + 1, ?_, ?_, ?_⟩
                        · have hx : ((putF l).1.take q)[i]? = some b := by rw [List.getElem?_take, if_pos (by omega)]; exact hb
                          rw [wrap64_id (x := (i : Int) + 1) (by omega) (by omega)]
                          first
                          | (rw [count_next1 hx (by assumption), wrap64_id (by have := List.count_le_length (a := (1 : UInt8)) (l := ((putF l).1.take q).take i); simp only [List.length_take] at this; omega) (by have := List.count_le_length (a := (1 : UInt8)) (l := ((putF l).1.take q).take i); simp only [List.length_take] at this; omega)]; simp; done)
                          | (rw [count_next2 hx (by assumption)]; simp; done)
                        · omega
                        · omega))
                · first | exact Bool.noConfusion c47 | (
                    try simp only [decide_eq_true_eq, decide_eq_false_iff_not, Bool.not_eq_true', Bool.not_eq_false', Bool.or_eq_true, Bool.and_eq_true, Bool.or_eq_false_iff, Bool.and_eq_false_imp, Bool.not_true, Bool.not_false, Bool.true_eq_false, Bool.false_eq_true, ne_eq] at c47
                    refine AWP.exit ?_
                    simp only [go_sem]
                    clear hK17 K17
                    refine hK15 _ ?_; clear hK15 K15
                    refine AWP.seqk fun K21 hK21 => ?_
                    refine AWP.seqk fun K22 hK22 => ?_
                    rw [List.take_of_length_le (l := (putF l).1.take q) (i := i) (by rw [List.length_take]; omega)]
                    have hcut := cuts (by assumption) (by assumption) hqle
                    refine AWP.region ?_
                    simp only [go_sem] -- region 16
                    repeat' (first | (refine AGuard.splitN (fun h => ?_) (fun h => ?_) <;> simp only [h, go_sem] <;> try simp only [decide_eq_true_eq, decide_eq_false_iff_not, Bool.not_eq_true', Bool.not_eq_false', Bool.or_eq_true, Bool.and_eq_true, Bool.or_eq_false_iff, Bool.and_eq_false_imp, Bool.not_true, Bool.not_false, Bool.true_eq_false, Bool.false_eq_true, ne_eq] at h) | (refine AGuard.split (fun h => ?_) (fun h => ?_) <;> simp only [h, go_sem] <;> try simp only [decide_eq_true_eq, decide_eq_false_iff_not, Bool.not_eq_true', Bool.not_eq_false', Bool.or_eq_true, Bool.and_eq_true, Bool.or_eq_false_iff, Bool.and_eq_false_imp, Bool.not_true, Bool.not_false, Bool.true_eq_false, Bool.false_eq_true, ne_eq] at h) | (refine AGet.haveM (by assumption) ?_; (try simp only [go_sem])) | (refine AGet.have' (by assumption) ?_; (try simp only [go_sem])) | (refine AGet.nth (by (first | omega | exact List.length_pos_iff.2 (by assumption) | (simp only [List.length_append, List.length_cons, List.length_nil, List.length_map, List.length_take, List.length_drop] at *; omega) | (rw [wrap64_id (by omega) (by omega)]; omega) | (simp; done))) (fun b hb => ?_); (try simp only [hb, go_sem])) | (refine AGet.nth1 (by (first | omega | exact List.length_pos_iff.2 (by assumption) | (simp only [List.length_append, List.length_cons, List.length_nil, List.length_map, List.length_take, List.length_drop] at *; omega) | (rw [wrap64_id (by omega) (by omega)]; omega) | (simp; done))) (fun b hb => ?_); (try simp only [hb, go_sem])) | ((with_reducible refine And.intro ?_ ?_); focus ((first | omega | exact List.length_pos_iff.2 (by assumption) | (simp only [List.length_append, List.length_cons, List.length_nil, List.length_map, List.length_take, List.length_drop] at *; omega) | (rw [wrap64_id (by omega) (by omega)]; omega) | (simp; done)))))
                    all_goals (
                      refine hK22 _ ?_; clear hK22 K22
                      refine AWP.cond rfl (fun c66 => ?_) (fun c66 => ?_)
                      · first | exact Bool.noConfusion c66 | (
                          try simp only [decide_eq_true_eq, decide_eq_false_iff_not, Bool.not_eq_true', Bool.not_eq_false', Bool.or_eq_true, Bool.and_eq_true, Bool.or_eq_false_iff, Bool.and_eq_false_imp, Bool.not_true, Bool.not_false, Bool.true_eq_false, Bool.false_eq_true, ne_eq] at c66
                          refine AWP.seqk fun K23 hK23 => ?_
                          have hb2 : (putF l).1[q - 1]? = some b := by rw [wrap64_id (by omega) (by omega)] at hb; rw [← hb]; congr 1; omega
                          have hp := hcut.2 ⟨by omega, _, hb2, c66⟩
                          simp only [hp]
                          refine AWP.region ?_
                          simp only [go_sem] -- region 17
                          repeat' (first | (refine AGuard.splitN (fun h => ?_) (fun h => ?_) <;> simp only [h, go_sem] <;> try simp only [decide_eq_true_eq, decide_eq_false_iff_not, Bool.not_eq_true', Bool.not_eq_false', Bool.or_eq_true, Bool.and_eq_true, Bool.or_eq_false_iff, Bool.and_eq_false_imp, Bool.not_true, Bool.not_false, Bool.true_eq_false, Bool.false_eq_true, ne_eq] at h) | (refine AGuard.split (fun h => ?_) (fun h => ?_) <;> simp only [h, go_sem] <;> try simp only [decide_eq_true_eq, decide_eq_false_iff_not, Bool.not_eq_true', Bool.not_eq_false', Bool.or_eq_true, Bool.and_eq_true, Bool.or_eq_false_iff, Bool.and_eq_false_imp, Bool.not_true, Bool.not_false, Bool.true_eq_false, Bool.false_eq_true, ne_eq] at h) | (refine AGet.haveM (by assumption) ?_; (try simp only [go_sem])) | (refine AGet.have' (by assumption) ?_; (try simp only [go_sem])) | (refine AGet.nth (by (first | omega | exact List.length_pos_iff.2 (by assumption) | (simp only [List.length_append, List.length_cons, List.length_nil, List.length_map, List.length_take, List.length_drop] at *; omega) | (rw [wrap64_id (by omega) (by omega)]; omega) | (simp; done))) (fun b hb => ?_); (try simp only [hb, go_sem])) | (refine AGet.nth1 (by (first | omega | exact List.length_pos_iff.2 (by assumption) | (simp only [List.length_append, List.length_cons, List.length_nil, List.length_map, List.length_take, List.length_drop] at *; omega) | (rw [wrap64_id (by omega) (by omega)]; omega) | (simp; done))) (fun b hb => ?_); (try simp only [hb, go_sem])) | ((with_reducible refine And.intro ?_ ?_); focus ((first | omega | exact List.length_pos_iff.2 (by assumption) | (simp only [List.length_append, List.length_cons, List.length_nil, List.length_map, List.length_take, List.length_drop] at *; omega) | (rw [wrap64_id (by omega) (by omega)]; omega) | (simp; done)))))
                          all_goals (
                            refine hK23 _ ?_; clear hK23 K23
                            refine AWP.ret ?_
                            simp only [go_sem]
                            clear hK21 K21
                            first
                            | exact ⟨[], .v _, rfl, rfl, by rw [put_fail (by assumption)]; rfl, rfl⟩
                            | exact ⟨[], .v _, rfl, rfl, rfl, rfl⟩
                            | skip))
                      · first | exact Bool.noConfusion c66 | (
                          try simp only [decide_eq_true_eq, decide_eq_false_iff_not, Bool.not_eq_true', Bool.not_eq_false', Bool.or_eq_true, Bool.and_eq_true, Bool.or_eq_false_iff, Bool.and_eq_false_imp, Bool.not_true, Bool.not_false, Bool.true_eq_false, Bool.false_eq_true, ne_eq] at c66
                          refine AWP.skip ?_
                          refine hK21 _ ?_; clear hK21 K21
                          refine AWP.seqk fun K24 hK24 => ?_
                          have hp := hcut.1 (by first | exact .inl (by omega) | exact .inr ⟨b, by rw [wrap64_id (by omega) (by omega)] at hb; rw [← hb]; congr 1; omega, c66⟩)
                          have hw := hp.2
                          simp only [hp.1]
                          refine AWP.region ?_
                          simp only [go_sem] -- region 18
                          repeat' (first | (refine ACall.one (r2same_c _ _ (by first | omega | exact Nat.le_trans (parseL_len _) (by decide) | (simp only [List.length_append, List.length_take]; omega))) (by kernel_rfl) rfl ?_; simp only [go_sem]) | (refine AGuard.splitN (fun h => ?_) (fun h => ?_) <;> simp only [h, go_sem] <;> try simp only [decide_eq_true_eq, decide_eq_false_iff_not, Bool.not_eq_true', Bool.not_eq_false', Bool.or_eq_true, Bool.and_eq_true, Bool.or_eq_false_iff, Bool.and_eq_false_imp, Bool.not_true, Bool.not_false, Bool.true_eq_false, Bool.false_eq_true, ne_eq] at h) | (refine AGuard.split (fun h => ?_) (fun h => ?_) <;> simp only [h, go_sem] <;> try simp only [decide_eq_true_eq, decide_eq_false_iff_not, Bool.not_eq_true', Bool.not_eq_false', Bool.or_eq_true, Bool.and_eq_true, Bool.or_eq_false_iff, Bool.and_eq_false_imp, Bool.not_true, Bool.not_false, Bool.true_eq_false, Bool.false_eq_true, ne_eq] at h) | (refine AGet.haveM (by assumption) ?_; (try simp only [go_sem])) | (refine AGet.have' (by assumption) ?_; (try simp only [go_sem])) | (refine AGet.nth (by (first | omega | exact List.length_pos_iff.2 (by assumption) | (simp only [List.length_append, List.length_cons, List.length_nil, List.length_map, List.length_take, List.length_drop] at *; omega) | (rw [wrap64_id (by omega) (by omega)]; omega) | (simp; done))) (fun b hb => ?_); (try simp only [hb, go_sem])) | (refine AGet.nth1 (by (first | omega | exact List.length_pos_iff.2 (by assumption) | (simp only [List.length_append, List.length_cons, List.length_nil, List.length_map, List.length_take, List.length_drop] at *; omega) | (rw [wrap64_id (by omega) (by omega)]; omega) | (simp; done))) (fun b hb => ?_); (try simp only [hb, go_sem])) | ((with_reducible refine And.intro ?_ ?_); focus ((first | omega | exact List.length_pos_iff.2 (by assumption) | (simp only [List.length_append, List.length_cons, List.length_nil, List.length_map, List.length_take, List.length_drop] at *; omega) | (rw [wrap64_id (by omega) (by omega)]; omega) | (simp; done)))))
                          all_goals (
                            refine hK24 _ ?_; clear hK24 K24
                            refine AWP.ret ?_
                            simp only [go_sem]
                            first
                            | exact ⟨[], .v _, rfl, rfl, by rw [put_fail (by assumption)]; rfl, rfl⟩
                            | exact ⟨[], .v _, rfl, rfl, rfl, rfl⟩
                            | skip))))))))


end Go.Proofs.YtgiomlgkccjhfaaDoor
