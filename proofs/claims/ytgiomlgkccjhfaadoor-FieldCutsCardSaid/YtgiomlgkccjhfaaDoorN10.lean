import Derived.Test.YtgiomlgkccjhfaaDoorN9
namespace Go.Proofs.YtgiomlgkccjhfaaDoor
open Go Go.Abs Go.RowKit Go.Fld
set_option linter.unusedVariables false
set_option linter.unusedSimpArgs false

set_option maxHeartbeats 4000000 in
set_option maxRecDepth 8000 in
theorem right_c (l : List Fld.Fd) (tag : Int) (hl : ∀ f ∈ l, f.2.length ≤ 9223372036854775807) (hl0 : l.length ≤ 9223372036854775807) : ACalls E 3 [fldsV l, i64 tag] (fun r t => r = bl true ∧ t = []) := by -- checkroll/checkrolllaw02.FieldRight
  refine ACalls.of_awp (n := 116) (rs := [.tmp 4]) Tryd.func3 rfl Tryd.ntmps3 rfl ?_
  refine AWP.seqk fun K1 hK1 => ?_
  refine AWP.region ?_
  simp only [go_sem] -- region 0
  repeat' (first | (refine AGet.haveM (by assumption) ?_; (try simp only [go_sem])) | (refine AGet.have' (by assumption) ?_; (try simp only [go_sem])) | (refine AGet.nth (by (first | omega | exact List.length_pos_iff.2 (by assumption) | (simp only [List.length_append, List.length_cons, List.length_nil, List.length_map, List.length_take, List.length_drop] at *; omega) | (rw [wrap64_id (by omega) (by omega)]; omega) | (simp; done))) (fun b hb => ?_); (try simp only [hb, go_sem])) | (refine AGet.nth1 (by (first | omega | exact List.length_pos_iff.2 (by assumption) | (simp only [List.length_append, List.length_cons, List.length_nil, List.length_map, List.length_take, List.length_drop] at *; omega) | (rw [wrap64_id (by omega) (by omega)]; omega) | (simp; done))) (fun b hb => ?_); (try simp only [hb, go_sem])) | ((with_reducible refine And.intro ?_ ?_); focus ((first | omega | exact List.length_pos_iff.2 (by assumption) | (simp only [List.length_append, List.length_cons, List.length_nil, List.length_map, List.length_take, List.length_drop] at *; omega) | (rw [wrap64_id (by omega) (by omega)]; omega) | (simp; done)))))
  refine hK1 _ ?_; clear hK1 K1
  refine AWP.seqk fun K2 hK2 => ?_
  refine AWP.seqk fun K3 hK3 => ?_
  refine AWP.region ?_
  simp only [go_sem] -- region 1
  repeat' (first | (refine ACall.one (awake2_c ) (by kernel_rfl) rfl ?_; simp only [go_sem]) | (refine AGet.haveM (by assumption) ?_; (try simp only [go_sem])) | (refine AGet.have' (by assumption) ?_; (try simp only [go_sem])) | (refine AGet.nth (by (first | omega | exact List.length_pos_iff.2 (by assumption) | (simp only [List.length_append, List.length_cons, List.length_nil, List.length_map, List.length_take, List.length_drop] at *; omega) | (rw [wrap64_id (by omega) (by omega)]; omega) | (simp; done))) (fun b hb => ?_); (try simp only [hb, go_sem])) | (refine AGet.nth1 (by (first | omega | exact List.length_pos_iff.2 (by assumption) | (simp only [List.length_append, List.length_cons, List.length_nil, List.length_map, List.length_take, List.length_drop] at *; omega) | (rw [wrap64_id (by omega) (by omega)]; omega) | (simp; done))) (fun b hb => ?_); (try simp only [hb, go_sem])) | ((with_reducible refine And.intro ?_ ?_); focus ((first | omega | exact List.length_pos_iff.2 (by assumption) | (simp only [List.length_append, List.length_cons, List.length_nil, List.length_map, List.length_take, List.length_drop] at *; omega) | (rw [wrap64_id (by omega) (by omega)]; omega) | (simp; done)))))
  refine hK3 _ ?_; clear hK3 K3
  refine AWP.cond rfl (fun c19 => ?_) (fun c19 => ?_)
  · first | exact Bool.noConfusion c19 | (
      try simp only [decide_eq_true_eq, decide_eq_false_iff_not, Bool.not_eq_true', Bool.not_eq_false', Bool.or_eq_true, Bool.and_eq_true, Bool.or_eq_false_iff, Bool.and_eq_false_imp, Bool.not_true, Bool.not_false, Bool.true_eq_false, Bool.false_eq_true, ne_eq] at c19
      refine AWP.seqk fun K4 hK4 => ?_
      refine AWP.region ?_
      simp only [go_sem] -- region 2
      repeat' (first | (refine AGet.haveM (by assumption) ?_; (try simp only [go_sem])) | (refine AGet.have' (by assumption) ?_; (try simp only [go_sem])) | (refine AGet.nth (by (first | omega | exact List.length_pos_iff.2 (by assumption) | (simp only [List.length_append, List.length_cons, List.length_nil, List.length_map, List.length_take, List.length_drop] at *; omega) | (rw [wrap64_id (by omega) (by omega)]; omega) | (simp; done))) (fun b hb => ?_); (try simp only [hb, go_sem])) | (refine AGet.nth1 (by (first | omega | exact List.length_pos_iff.2 (by assumption) | (simp only [List.length_append, List.length_cons, List.length_nil, List.length_map, List.length_take, List.length_drop] at *; omega) | (rw [wrap64_id (by omega) (by omega)]; omega) | (simp; done))) (fun b hb => ?_); (try simp only [hb, go_sem])) | ((with_reducible refine And.intro ?_ ?_); focus ((first | omega | exact List.length_pos_iff.2 (by assumption) | (simp only [List.length_append, List.length_cons, List.length_nil, List.length_map, List.length_take, List.length_drop] at *; omega) | (rw [wrap64_id (by omega) (by omega)]; omega) | (simp; done)))))
      refine hK4 _ ?_; clear hK4 K4
      refine AWP.ret ?_
      simp only [go_sem]
      clear hK2 K2
      first
      | exact ⟨[], .v _, rfl, rfl, rfl, rfl⟩
      | (exfalso; simp_all; done))
  · first | exact Bool.noConfusion c19 | (
      try simp only [decide_eq_true_eq, decide_eq_false_iff_not, Bool.not_eq_true', Bool.not_eq_false', Bool.or_eq_true, Bool.and_eq_true, Bool.or_eq_false_iff, Bool.and_eq_false_imp, Bool.not_true, Bool.not_false, Bool.true_eq_false, Bool.false_eq_true, ne_eq] at c19
      refine AWP.skip ?_
      refine hK2 _ ?_; clear hK2 K2
      refine AWP.seqk fun K5 hK5 => ?_
      refine AWP.seqk fun K6 hK6 => ?_
      refine AWP.region ?_
      simp only [go_sem] -- region 3
      repeat' (first | (refine ACall.one (r2short_c _ (by omega)) (by kernel_rfl) rfl ?_; simp only [go_sem]) | (refine AGet.haveM (by assumption) ?_; (try simp only [go_sem])) | (refine AGet.have' (by assumption) ?_; (try simp only [go_sem])) | (refine AGet.nth (by (first | omega | exact List.length_pos_iff.2 (by assumption) | (simp only [List.length_append, List.length_cons, List.length_nil, List.length_map, List.length_take, List.length_drop] at *; omega) | (rw [wrap64_id (by omega) (by omega)]; omega) | (simp; done))) (fun b hb => ?_); (try simp only [hb, go_sem])) | (refine AGet.nth1 (by (first | omega | exact List.length_pos_iff.2 (by assumption) | (simp only [List.length_append, List.length_cons, List.length_nil, List.length_map, List.length_take, List.length_drop] at *; omega) | (rw [wrap64_id (by omega) (by omega)]; omega) | (simp; done))) (fun b hb => ?_); (try simp only [hb, go_sem])) | ((with_reducible refine And.intro ?_ ?_); focus ((first | omega | exact List.length_pos_iff.2 (by assumption) | (simp only [List.length_append, List.length_cons, List.length_nil, List.length_map, List.length_take, List.length_drop] at *; omega) | (rw [wrap64_id (by omega) (by omega)]; omega) | (simp; done)))))
      refine hK6 _ ?_; clear hK6 K6
      refine AWP.cond rfl (fun c22 => ?_) (fun c22 => ?_)
      · first | exact Bool.noConfusion c22 | (
          try simp only [decide_eq_true_eq, decide_eq_false_iff_not, Bool.not_eq_true', Bool.not_eq_false', Bool.or_eq_true, Bool.and_eq_true, Bool.or_eq_false_iff, Bool.and_eq_false_imp, Bool.not_true, Bool.not_false, Bool.true_eq_false, Bool.false_eq_true, ne_eq] at c22
          refine AWP.seqk fun K7 hK7 => ?_
          refine AWP.region ?_
          simp only [go_sem] -- region 4
          repeat' (first | (refine AGet.haveM (by assumption) ?_; (try simp only [go_sem])) | (refine AGet.have' (by assumption) ?_; (try simp only [go_sem])) | (refine AGet.nth (by (first | omega | exact List.length_pos_iff.2 (by assumption) | (simp only [List.length_append, List.length_cons, List.length_nil, List.length_map, List.length_take, List.length_drop] at *; omega) | (rw [wrap64_id (by omega) (by omega)]; omega) | (simp; done))) (fun b hb => ?_); (try simp only [hb, go_sem])) | (refine AGet.nth1 (by (first | omega | exact List.length_pos_iff.2 (by assumption) | (simp only [List.length_append, List.length_cons, List.length_nil, List.length_map, List.length_take, List.length_drop] at *; omega) | (rw [wrap64_id (by omega) (by omega)]; omega) | (simp; done))) (fun b hb => ?_); (try simp only [hb, go_sem])) | ((with_reducible refine And.intro ?_ ?_); focus ((first | omega | exact List.length_pos_iff.2 (by assumption) | (simp only [List.length_append, List.length_cons, List.length_nil, List.length_map, List.length_take, List.length_drop] at *; omega) | (rw [wrap64_id (by omega) (by omega)]; omega) | (simp; done)))))
          refine hK7 _ ?_; clear hK7 K7
          refine AWP.ret ?_
          simp only [go_sem]
          clear hK5 K5
          first
          | exact ⟨[], .v _, rfl, rfl, rfl, rfl⟩
          | (exfalso; simp_all; done))
      · first | exact Bool.noConfusion c22 | (
          try simp only [decide_eq_true_eq, decide_eq_false_iff_not, Bool.not_eq_true', Bool.not_eq_false', Bool.or_eq_true, Bool.and_eq_true, Bool.or_eq_false_iff, Bool.and_eq_false_imp, Bool.not_true, Bool.not_false, Bool.true_eq_false, Bool.false_eq_true, ne_eq] at c22
          refine AWP.skip ?_
          refine hK5 _ ?_; clear hK5 K5
          refine AWP.seqk fun K8 hK8 => ?_
          refine AWP.region ?_
          simp only [go_sem] -- region 5
          repeat' (first | (refine ACall.of (fput_c _) (by kernel_rfl) rfl ?_; rintro r t ⟨rfl, rfl⟩ <;> simp only [go_sem]) | (refine AGet.haveM (by assumption) ?_; (try simp only [go_sem])) | (refine AGet.have' (by assumption) ?_; (try simp only [go_sem])) | (refine AGet.nth (by (first | omega | exact List.length_pos_iff.2 (by assumption) | (simp only [List.length_append, List.length_cons, List.length_nil, List.length_map, List.length_take, List.length_drop] at *; omega) | (rw [wrap64_id (by omega) (by omega)]; omega) | (simp; done))) (fun b hb => ?_); (try simp only [hb, go_sem])) | (refine AGet.nth1 (by (first | omega | exact List.length_pos_iff.2 (by assumption) | (simp only [List.length_append, List.length_cons, List.length_nil, List.length_map, List.length_take, List.length_drop] at *; omega) | (rw [wrap64_id (by omega) (by omega)]; omega) | (simp; done))) (fun b hb => ?_); (try simp only [hb, go_sem])) | ((with_reducible refine And.intro ?_ ?_); focus ((first | omega | exact List.length_pos_iff.2 (by assumption) | (simp only [List.length_append, List.length_cons, List.length_nil, List.length_map, List.length_take, List.length_drop] at *; omega) | (rw [wrap64_id (by omega) (by omega)]; omega) | (simp; done)))))
          refine hK8 _ ?_; clear hK8 K8
          refine AWP.seqk fun K9 hK9 => ?_
          refine AWP.region ?_
          simp only [go_sem] -- region 6
          repeat' (first | (refine ACall.of (r2put_c _ hl) (by kernel_rfl) rfl ?_; rintro r t ⟨rfl, rfl⟩ <;> simp only [go_sem]) | (refine AGet.haveM (by assumption) ?_; (try simp only [go_sem])) | (refine AGet.have' (by assumption) ?_; (try simp only [go_sem])) | (refine AGet.nth (by (first | omega | exact List.length_pos_iff.2 (by assumption) | (simp only [List.length_append, List.length_cons, List.length_nil, List.length_map, List.length_take, List.length_drop] at *; omega) | (rw [wrap64_id (by omega) (by omega)]; omega) | (simp; done))) (fun b hb => ?_); (try simp only [hb, go_sem])) | (refine AGet.nth1 (by (first | omega | exact List.length_pos_iff.2 (by assumption) | (simp only [List.length_append, List.length_cons, List.length_nil, List.length_map, List.length_take, List.length_drop] at *; omega) | (rw [wrap64_id (by omega) (by omega)]; omega) | (simp; done))) (fun b hb => ?_); (try simp only [hb, go_sem])) | ((with_reducible refine And.intro ?_ ?_); focus ((first | omega | exact List.length_pos_iff.2 (by assumption) | (simp only [List.length_append, List.length_cons, List.length_nil, List.length_map, List.length_take, List.length_drop] at *; omega) | (rw [wrap64_id (by omega) (by omega)]; omega) | (simp; done)))))
          refine hK9 _ ?_; clear hK9 K9
          refine AWP.seqk fun K10 hK10 => ?_
          refine AWP.region ?_
          simp only [go_sem] -- region 7
          repeat' (first | (refine ACall.one (fget_c _ _ (by omega)) (by kernel_rfl) rfl ?_; simp only [go_sem]) | (refine AGet.haveM (by assumption) ?_; (try simp only [go_sem])) | (refine AGet.have' (by assumption) ?_; (try simp only [go_sem])) | (refine AGet.nth (by (first | omega | exact List.length_pos_iff.2 (by assumption) | (simp only [List.length_append, List.length_cons, List.length_nil, List.length_map, List.length_take, List.length_drop] at *; omega) | (rw [wrap64_id (by omega) (by omega)]; omega) | (simp; done))) (fun b hb => ?_); (try simp only [hb, go_sem])) | (refine AGet.nth1 (by (first | omega | exact List.length_pos_iff.2 (by assumption) | (simp only [List.length_append, List.length_cons, List.length_nil, List.length_map, List.length_take, List.length_drop] at *; omega) | (rw [wrap64_id (by omega) (by omega)]; omega) | (simp; done))) (fun b hb => ?_); (try simp only [hb, go_sem])) | ((with_reducible refine And.intro ?_ ?_); focus ((first | omega | exact List.length_pos_iff.2 (by assumption) | (simp only [List.length_append, List.length_cons, List.length_nil, List.length_map, List.length_take, List.length_drop] at *; omega) | (rw [wrap64_id (by omega) (by omega)]; omega) | (simp; done)))))
          refine hK10 _ ?_; clear hK10 K10
          refine AWP.seqk fun K11 hK11 => ?_
          refine AWP.region ?_
          simp only [go_sem] -- region 8
          repeat' (first | (refine ACall.one (r2get_c _ _ (by omega)) (by kernel_rfl) rfl ?_; simp only [go_sem]) | (refine AGet.haveM (by assumption) ?_; (try simp only [go_sem])) | (refine AGet.have' (by assumption) ?_; (try simp only [go_sem])) | (refine AGet.nth (by (first | omega | exact List.length_pos_iff.2 (by assumption) | (simp only [List.length_append, List.length_cons, List.length_nil, List.length_map, List.length_take, List.length_drop] at *; omega) | (rw [wrap64_id (by omega) (by omega)]; omega) | (simp; done))) (fun b hb => ?_); (try simp only [hb, go_sem])) | (refine AGet.nth1 (by (first | omega | exact List.length_pos_iff.2 (by assumption) | (simp only [List.length_append, List.length_cons, List.length_nil, List.length_map, List.length_take, List.length_drop] at *; omega) | (rw [wrap64_id (by omega) (by omega)]; omega) | (simp; done))) (fun b hb => ?_); (try simp only [hb, go_sem])) | ((with_reducible refine And.intro ?_ ?_); focus ((first | omega | exact List.length_pos_iff.2 (by assumption) | (simp only [List.length_append, List.length_cons, List.length_nil, List.length_map, List.length_take, List.length_drop] at *; omega) | (rw [wrap64_id (by omega) (by omega)]; omega) | (simp; done)))))
          refine hK11 _ ?_; clear hK11 K11
          refine AWP.seqk fun K12 hK12 => ?_
          refine AWP.region ?_
          simp only [go_sem] -- region 9
          repeat' (first | (refine ACall.one (fnum_c _ _ (by omega)) (by kernel_rfl) rfl ?_; simp only [go_sem]) | (refine AGet.haveM (by assumption) ?_; (try simp only [go_sem])) | (refine AGet.have' (by assumption) ?_; (try simp only [go_sem])) | (refine AGet.nth (by (first | omega | exact List.length_pos_iff.2 (by assumption) | (simp only [List.length_append, List.length_cons, List.length_nil, List.length_map, List.length_take, List.length_drop] at *; omega) | (rw [wrap64_id (by omega) (by omega)]; omega) | (simp; done))) (fun b hb => ?_); (try simp only [hb, go_sem])) | (refine AGet.nth1 (by (first | omega | exact List.length_pos_iff.2 (by assumption) | (simp only [List.length_append, List.length_cons, List.length_nil, List.length_map, List.length_take, List.length_drop] at *; omega) | (rw [wrap64_id (by omega) (by omega)]; omega) | (simp; done))) (fun b hb => ?_); (try simp only [hb, go_sem])) | ((with_reducible refine And.intro ?_ ?_); focus ((first | omega | exact List.length_pos_iff.2 (by assumption) | (simp only [List.length_append, List.length_cons, List.length_nil, List.length_map, List.length_take, List.length_drop] at *; omega) | (rw [wrap64_id (by omega) (by omega)]; omega) | (simp; done)))))
          refine hK12 _ ?_; clear hK12 K12
          refine AWP.seqk fun K13 hK13 => ?_
          refine AWP.region ?_
          simp only [go_sem] -- region 10
          repeat' (first | (refine ACall.one (r1parse_c _) (by kernel_rfl) rfl ?_; simp only [go_sem]) | (refine AGet.haveM (by assumption) ?_; (try simp only [go_sem])) | (refine AGet.have' (by assumption) ?_; (try simp only [go_sem])) | (refine AGet.nth (by (first | omega | exact List.length_pos_iff.2 (by assumption) | (simp only [List.length_append, List.length_cons, List.length_nil, List.length_map, List.length_take, List.length_drop] at *; omega) | (rw [wrap64_id (by omega) (by omega)]; omega) | (simp; done))) (fun b hb => ?_); (try simp only [hb, go_sem])) | (refine AGet.nth1 (by (first | omega | exact List.length_pos_iff.2 (by assumption) | (simp only [List.length_append, List.length_cons, List.length_nil, List.length_map, List.length_take, List.length_drop] at *; omega) | (rw [wrap64_id (by omega) (by omega)]; omega) | (simp; done))) (fun b hb => ?_); (try simp only [hb, go_sem])) | ((with_reducible refine And.intro ?_ ?_); focus ((first | omega | exact List.length_pos_iff.2 (by assumption) | (simp only [List.length_append, List.length_cons, List.length_nil, List.length_map, List.length_take, List.length_drop] at *; omega) | (rw [wrap64_id (by omega) (by omega)]; omega) | (simp; done)))))
          refine hK13 _ ?_; clear hK13 K13
          refine AWP.seqJ (ι := Unit) [4, 56, 57, 58, 59, 60, 61, 62, 63, 64, 65, 66, 67, 68, 69, 70, 71, 72, 73, 74, 75, 76, 77, 78] (fun (c : Unit) => []) (fun (c : Unit) => []) (fun (c : Unit) => [(putF l).1.length, (putF l).1.length]) (fun (c : Unit) => True) ?_ ?_
          · refine AWP.seqk fun K14 hK14 => ?_
            rcases num_cases l tag with ⟨e1, e2, e3⟩ | ⟨e1, e2, e3⟩ | ⟨e1, e2, e3⟩ <;> simp only [e1, e2, e3]
            all_goals (
              refine AWP.region ?_
              simp only [go_sem] -- region 11
              repeat' (first | (refine AGuard.splitN (fun h => ?_) (fun h => ?_) <;> simp only [h, go_sem] <;> try simp only [decide_eq_true_eq, decide_eq_false_iff_not, Bool.not_eq_true', Bool.not_eq_false', Bool.or_eq_true, Bool.and_eq_true, Bool.or_eq_false_iff, Bool.and_eq_false_imp, Bool.not_true, Bool.not_false, Bool.true_eq_false, Bool.false_eq_true, ne_eq] at h) | (refine AGuard.split (fun h => ?_) (fun h => ?_) <;> simp only [h, go_sem] <;> try simp only [decide_eq_true_eq, decide_eq_false_iff_not, Bool.not_eq_true', Bool.not_eq_false', Bool.or_eq_true, Bool.and_eq_true, Bool.or_eq_false_iff, Bool.and_eq_false_imp, Bool.not_true, Bool.not_false, Bool.true_eq_false, Bool.false_eq_true, ne_eq] at h) | (refine AGet.haveM (by assumption) ?_; (try simp only [go_sem])) | (refine AGet.have' (by assumption) ?_; (try simp only [go_sem])) | (refine AGet.nth (by (first | omega | exact List.length_pos_iff.2 (by assumption) | (simp only [List.length_append, List.length_cons, List.length_nil, List.length_map, List.length_take, List.length_drop] at *; omega) | (rw [wrap64_id (by omega) (by omega)]; omega) | (simp; done))) (fun b hb => ?_); (try simp only [hb, go_sem])) | (refine AGet.nth1 (by (first | omega | exact List.length_pos_iff.2 (by assumption) | (simp only [List.length_append, List.length_cons, List.length_nil, List.length_map, List.length_take, List.length_drop] at *; omega) | (rw [wrap64_id (by omega) (by omega)]; omega) | (simp; done))) (fun b hb => ?_); (try simp only [hb, go_sem])) | ((with_reducible refine And.intro ?_ ?_); focus ((first | omega | exact List.length_pos_iff.2 (by assumption) | (simp only [List.length_append, List.length_cons, List.length_nil, List.length_map, List.length_take, List.length_drop] at *; omega) | (rw [wrap64_id (by omega) (by omega)]; omega) | (simp; done)))))
              all_goals (
                refine hK14 _ ?_; clear hK14 K14
                refine AWP.cond rfl (fun c78 => ?_) (fun c78 => ?_)
                · first | exact Bool.noConfusion c78 | (
                    try simp only [decide_eq_true_eq, decide_eq_false_iff_not, Bool.not_eq_true', Bool.not_eq_false', Bool.or_eq_true, Bool.and_eq_true, Bool.or_eq_false_iff, Bool.and_eq_false_imp, Bool.not_true, Bool.not_false, Bool.true_eq_false, Bool.false_eq_true, ne_eq] at c78
                    refine AWP.seqk fun K15 hK15 => ?_
                    refine AWP.region ?_
                    simp only [go_sem] -- region 12
                    repeat' (first | (refine AGet.haveM (by assumption) ?_; (try simp only [go_sem])) | (refine AGet.have' (by assumption) ?_; (try simp only [go_sem])) | (refine AGet.nth (by (first | omega | exact List.length_pos_iff.2 (by assumption) | (simp only [List.length_append, List.length_cons, List.length_nil, List.length_map, List.length_take, List.length_drop] at *; omega) | (rw [wrap64_id (by omega) (by omega)]; omega) | (simp; done))) (fun b hb => ?_); (try simp only [hb, go_sem])) | (refine AGet.nth1 (by (first | omega | exact List.length_pos_iff.2 (by assumption) | (simp only [List.length_append, List.length_cons, List.length_nil, List.length_map, List.length_take, List.length_drop] at *; omega) | (rw [wrap64_id (by omega) (by omega)]; omega) | (simp; done))) (fun b hb => ?_); (try simp only [hb, go_sem])) | ((with_reducible refine And.intro ?_ ?_); focus ((first | omega | exact List.length_pos_iff.2 (by assumption) | (simp only [List.length_append, List.length_cons, List.length_nil, List.length_map, List.length_take, List.length_drop] at *; omega) | (rw [wrap64_id (by omega) (by omega)]; omega) | (simp; done)))))
                    refine hK15 _ ?_; clear hK15 K15
                    refine AWP.ret ?_
                    simp only [go_sem]
                    first
                    | exact ⟨[], .v _, rfl, rfl, rfl, rfl⟩
                    | (exfalso; simp_all; done))
                · first | exact Bool.noConfusion c78 | (
                    try simp only [decide_eq_true_eq, decide_eq_false_iff_not, Bool.not_eq_true', Bool.not_eq_false', Bool.or_eq_true, Bool.and_eq_true, Bool.or_eq_false_iff, Bool.and_eq_false_imp, Bool.not_true, Bool.not_false, Bool.true_eq_false, Bool.false_eq_true, ne_eq] at c78
                    refine AWP.skip ?_
                    refine ⟨(), trivial, ?_⟩
                    (try simp only [go_sem]); simp [e1, e2, e3]; done)))
          rintro c -
          simp only [go_sem]
          refine AWP.seqk fun K16 hK16 => ?_
          refine AWP.seqk fun K17 hK17 => ?_
          refine AWP.region ?_
          simp only [go_sem] -- region 13
          repeat' (first | (refine AGet.haveM (by assumption) ?_; (try simp only [go_sem])) | (refine AGet.have' (by assumption) ?_; (try simp only [go_sem])) | (refine AGet.nth (by (first | omega | exact List.length_pos_iff.2 (by assumption) | (simp only [List.length_append, List.length_cons, List.length_nil, List.length_map, List.length_take, List.length_drop] at *; omega) | (rw [wrap64_id (by omega) (by omega)]; omega) | (simp; done))) (fun b hb => ?_); (try simp only [hb, go_sem])) | (refine AGet.nth1 (by (first | omega | exact List.length_pos_iff.2 (by assumption) | (simp only [List.length_append, List.length_cons, List.length_nil, List.length_map, List.length_take, List.length_drop] at *; omega) | (rw [wrap64_id (by omega) (by omega)]; omega) | (simp; done))) (fun b hb => ?_); (try simp only [hb, go_sem])) | ((with_reducible refine And.intro ?_ ?_); focus ((first | omega | exact List.length_pos_iff.2 (by assumption) | (simp only [List.length_append, List.length_cons, List.length_nil, List.length_map, List.length_take, List.length_drop] at *; omega) | (rw [wrap64_id (by omega) (by omega)]; omega) | (simp; done)))))
          refine hK17 _ ?_; clear hK17 K17
          refine AWP.block ?_ -- 0
          refine AWP.loopO (ι := Nat) [4, 79, 80, 81, 82, 83, 84, 85, 86, 87, 88, 89, 90, 91, 92, 93, 94, 95] (fun (i : Nat) => [(17, i64 i)]) (fun (i : Nat) => []) (fun (i : Nat) => [(putF l).1.length, (putF l).1.length]) (fun (i : Nat) => i ≤ l.length) (fun (i : Nat) => l.length - i) (0) ?_ ?_ ?_
          · (try simp only [go_sem]); try (simp; done)
          · omega
          rintro i h1
          simp only [go_sem]
          refine AWP.seqk fun K18 hK18 => ?_
          refine AWP.seqk fun K19 hK19 => ?_
          refine AWP.region ?_
          simp only [go_sem] -- region 14
          repeat' (first | (refine AGet.haveM (by assumption) ?_; (try simp only [go_sem])) | (refine AGet.have' (by assumption) ?_; (try simp only [go_sem])) | (refine AGet.nth (by (first | omega | exact List.length_pos_iff.2 (by assumption) | (simp only [List.length_append, List.length_cons, List.length_nil, List.length_map, List.length_take, List.length_drop] at *; omega) | (rw [wrap64_id (by omega) (by omega)]; omega) | (simp; done))) (fun b hb => ?_); (try simp only [hb, go_sem])) | (refine AGet.nth1 (by (first | omega | exact List.length_pos_iff.2 (by assumption) | (simp only [List.length_append, List.length_cons, List.length_nil, List.length_map, List.length_take, List.length_drop] at *; omega) | (rw [wrap64_id (by omega) (by omega)]; omega) | (simp; done))) (fun b hb => ?_); (try simp only [hb, go_sem])) | ((with_reducible refine And.intro ?_ ?_); focus ((first | omega | exact List.length_pos_iff.2 (by assumption) | (simp only [List.length_append, List.length_cons, List.length_nil, List.length_map, List.length_take, List.length_drop] at *; omega) | (rw [wrap64_id (by omega) (by omega)]; omega) | (simp; done)))))
          refine hK19 _ ?_; clear hK19 K19
          refine AWP.cond rfl (fun c82 => ?_) (fun c82 => ?_)
          · first | exact Bool.noConfusion c82 | (
              try simp only [decide_eq_true_eq, decide_eq_false_iff_not, Bool.not_eq_true', Bool.not_eq_false', Bool.or_eq_true, Bool.and_eq_true, Bool.or_eq_false_iff, Bool.and_eq_false_imp, Bool.not_true, Bool.not_false, Bool.true_eq_false, Bool.false_eq_true, ne_eq] at c82
              refine AWP.skip ?_
              refine hK18 _ ?_; clear hK18 K18
              refine AWP.seqk fun K20 hK20 => ?_
              refine AWP.block ?_ -- 1
              refine AWP.seqk fun K21 hK21 => ?_
              refine AWP.regionAs [0, 1, 2, 3, 5, 6, 7, 8, 4, 9, 10] [[], [], [0, 1], [0, 1, 2], [0, 1, 2, 3], [], [], [5, 6], [5, 6, 7], [0, 1, 2, 3, 4, 5, 6, 7, 8], [0, 1, 2, 3, 4, 5, 6, 7, 8, 9]] [] (by kernel_rfl) (by kernel_rfl) (by decide) rfl ?_
              simp only [go_sem] -- region 16
              repeat' (first | (refine ACall.one (fright_c (_, _)) (by kernel_rfl) rfl ?_; simp only [go_sem]) | (refine ACall.one (r2right_c (_, _) (by first | exact hl _ (List.mem_of_getElem? hb) | (simp only [List.length_drop, List.length_take]; omega))) (by kernel_rfl) rfl ?_; simp only [go_sem]) | (refine AGet.haveM (by assumption) ?_; (try simp only [go_sem])) | (refine AGet.have' (by assumption) ?_; (try simp only [go_sem])) | (refine AGet.nth (by (first | omega | exact List.length_pos_iff.2 (by assumption) | (simp only [List.length_append, List.length_cons, List.length_nil, List.length_map, List.length_take, List.length_drop] at *; omega) | (rw [wrap64_id (by omega) (by omega)]; omega) | (simp; done))) (fun b hb => ?_); (try simp only [hb, go_sem])) | (refine AGet.nth1 (by (first | omega | exact List.length_pos_iff.2 (by assumption) | (simp only [List.length_append, List.length_cons, List.length_nil, List.length_map, List.length_take, List.length_drop] at *; omega) | (rw [wrap64_id (by omega) (by omega)]; omega) | (simp; done))) (fun b hb => ?_); (try simp only [hb, go_sem])) | ((with_reducible refine And.intro ?_ ?_); focus ((first | omega | exact List.length_pos_iff.2 (by assumption) | (simp only [List.length_append, List.length_cons, List.length_nil, List.length_map, List.length_take, List.length_drop] at *; omega) | (rw [wrap64_id (by omega) (by omega)]; omega) | (simp; done)))))
              refine hK21 _ ?_; clear hK21 K21
              refine AWP.cond rfl (fun c95 => ?_) (fun c95 => ?_)
              · first | exact Bool.noConfusion c95 | (
                  try simp only [decide_eq_true_eq, decide_eq_false_iff_not, Bool.not_eq_true', Bool.not_eq_false', Bool.or_eq_true, Bool.and_eq_true, Bool.or_eq_false_iff, Bool.and_eq_false_imp, Bool.not_true, Bool.not_false, Bool.true_eq_false, Bool.false_eq_true, ne_eq] at c95
                  refine AWP.seqk fun K22 hK22 => ?_
                  refine AWP.region ?_
                  simp only [go_sem] -- region 17
                  repeat' (first | (refine AGet.haveM (by assumption) ?_; (try simp only [go_sem])) | (refine AGet.have' (by assumption) ?_; (try simp only [go_sem])) | (refine AGet.nth (by (first | omega | exact List.length_pos_iff.2 (by assumption) | (simp only [List.length_append, List.length_cons, List.length_nil, List.length_map, List.length_take, List.length_drop] at *; omega) | (rw [wrap64_id (by omega) (by omega)]; omega) | (simp; done))) (fun b hb => ?_); (try simp only [hb, go_sem])) | (refine AGet.nth1 (by (first | omega | exact List.length_pos_iff.2 (by assumption) | (simp only [List.length_append, List.length_cons, List.length_nil, List.length_map, List.length_take, List.length_drop] at *; omega) | (rw [wrap64_id (by omega) (by omega)]; omega) | (simp; done))) (fun b hb => ?_); (try simp only [hb, go_sem])) | ((with_reducible refine And.intro ?_ ?_); focus ((first | omega | exact List.length_pos_iff.2 (by assumption) | (simp only [List.length_append, List.length_cons, List.length_nil, List.length_map, List.length_take, List.length_drop] at *; omega) | (rw [wrap64_id (by omega) (by omega)]; omega) | (simp; done)))))
                  refine hK22 _ ?_; clear hK22 K22
                  refine AWP.ret ?_
                  simp only [go_sem]
                  clear hK20 K20 hK16 K16
                  first
                  | exact ⟨[], .v _, rfl, rfl, rfl, rfl⟩
                  | (exfalso; simp_all; done))
              · first | exact Bool.noConfusion c95 | (
                  try simp only [decide_eq_true_eq, decide_eq_false_iff_not, Bool.not_eq_true', Bool.not_eq_false', Bool.or_eq_true, Bool.and_eq_true, Bool.or_eq_false_iff, Bool.and_eq_false_imp, Bool.not_true, Bool.not_false, Bool.true_eq_false, Bool.false_eq_true, ne_eq] at c95
                  refine AWP.skip ?_
                  refine hK20 _ ?_; clear hK20 K20
                  refine AWP.region ?_
                  simp only [go_sem] -- region 15
                  repeat' (first | (refine AGet.haveM (by assumption) ?_; (try simp only [go_sem])) | (refine AGet.have' (by assumption) ?_; (try simp only [go_sem])) | (refine AGet.nth (by (first | omega | exact List.length_pos_iff.2 (by assumption) | (simp only [List.length_append, List.length_cons, List.length_nil, List.length_map, List.length_take, List.length_drop] at *; omega) | (rw [wrap64_id (by omega) (by omega)]; omega) | (simp; done))) (fun b hb => ?_); (try simp only [hb, go_sem])) | (refine AGet.nth1 (by (first | omega | exact List.length_pos_iff.2 (by assumption) | (simp only [List.length_append, List.length_cons, List.length_nil, List.length_map, List.length_take, List.length_drop] at *; omega) | (rw [wrap64_id (by omega) (by omega)]; omega) | (simp; done))) (fun b hb => ?_); (try simp only [hb, go_sem])) | ((with_reducible refine And.intro ?_ ?_); focus ((first | omega | exact List.length_pos_iff.2 (by assumption) | (simp only [List.length_append, List.length_cons, List.length_nil, List.length_map, List.length_take, List.length_drop] at *; omega) | (rw [wrap64_id (by omega) (by omega)]; omega) | (simp; done)))))
                  clear hK16 K16
                  refine ⟨i + 1, ?_, ?_, ?_⟩
                  · (try simp only [go_sem]); (try rw [wrap64_id (by omega) (by omega)]); simp
                  · omega
                  · omega))
          · first | exact Bool.noConfusion c82 | (
              try simp only [decide_eq_true_eq, decide_eq_false_iff_not, Bool.not_eq_true', Bool.not_eq_false', Bool.or_eq_true, Bool.and_eq_true, Bool.or_eq_false_iff, Bool.and_eq_false_imp, Bool.not_true, Bool.not_false, Bool.true_eq_false, Bool.false_eq_true, ne_eq] at c82
              refine AWP.exit ?_
              simp only [go_sem]
              clear hK18 K18
              refine hK16 _ ?_; clear hK16 K16
              refine AWP.seqk fun K23 hK23 => ?_
              refine AWP.region ?_
              simp only [go_sem] -- region 18
              repeat' (first | (refine AGuard.splitN (fun h => ?_) (fun h => ?_) <;> simp only [h, go_sem] <;> try simp only [decide_eq_true_eq, decide_eq_false_iff_not, Bool.not_eq_true', Bool.not_eq_false', Bool.or_eq_true, Bool.and_eq_true, Bool.or_eq_false_iff, Bool.and_eq_false_imp, Bool.not_true, Bool.not_false, Bool.true_eq_false, Bool.false_eq_true, ne_eq] at h) | (refine AGuard.split (fun h => ?_) (fun h => ?_) <;> simp only [h, go_sem] <;> try simp only [decide_eq_true_eq, decide_eq_false_iff_not, Bool.not_eq_true', Bool.not_eq_false', Bool.or_eq_true, Bool.and_eq_true, Bool.or_eq_false_iff, Bool.and_eq_false_imp, Bool.not_true, Bool.not_false, Bool.true_eq_false, Bool.false_eq_true, ne_eq] at h) | (refine AGet.haveM (by assumption) ?_; (try simp only [go_sem])) | (refine AGet.have' (by assumption) ?_; (try simp only [go_sem])) | (refine AGet.nth (by (first | omega | exact List.length_pos_iff.2 (by assumption) | (simp only [List.length_append, List.length_cons, List.length_nil, List.length_map, List.length_take, List.length_drop] at *; omega) | (rw [wrap64_id (by omega) (by omega)]; omega) | (simp; done))) (fun b hb => ?_); (try simp only [hb, go_sem])) | (refine AGet.nth1 (by (first | omega | exact List.length_pos_iff.2 (by assumption) | (simp only [List.length_append, List.length_cons, List.length_nil, List.length_map, List.length_take, List.length_drop] at *; omega) | (rw [wrap64_id (by omega) (by omega)]; omega) | (simp; done))) (fun b hb => ?_); (try simp only [hb, go_sem])) | ((with_reducible refine And.intro ?_ ?_); focus ((first | omega | exact List.length_pos_iff.2 (by assumption) | (simp only [List.length_append, List.length_cons, List.length_nil, List.length_map, List.length_take, List.length_drop] at *; omega) | (rw [wrap64_id (by omega) (by omega)]; omega) | (simp; done)))))
              all_goals (
                refine hK23 _ ?_; clear hK23 K23
                refine AWP.ret ?_
                simp only [go_sem]
                first
                | exact ⟨[], .v _, rfl, rfl, rfl, rfl⟩
                | (exfalso; simp_all; done)))))


end Go.Proofs.YtgiomlgkccjhfaaDoor
