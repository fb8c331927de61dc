import Derived.Test.YtgiomlgkccjhfaaDoorN10
namespace Go.Proofs.YtgiomlgkccjhfaaDoor
open Go Go.Abs Go.RowKit Go.Fld
set_option linter.unusedVariables false
set_option linter.unusedSimpArgs false

set_option maxHeartbeats 4000000 in
set_option maxRecDepth 8000 in
theorem back_c (a b : List Fld.Fd) (c : Bs) (ha0 : a.length ≤ 9223372036854775807) (hb0 : b.length ≤ 9223372036854775807) : ACalls E 5 [fldsV a, fldsV b, bytesV c] (fun r t => r = bl true ∧ t = []) := by -- checkroll/checkrolllaw02.FieldBack
  refine ACalls.of_awp (n := 103) (rs := [.tmp 6]) Tryd.func5 rfl Tryd.ntmps5 rfl ?_
  refine AWP.seqk fun K1 hK1 => ?_
  refine AWP.region ?_
  simp only [go_sem] -- region 0
  repeat' (first | (refine AGet.haveM (by assumption) ?_; (try simp only [go_sem])) | (refine AGet.have' (by assumption) ?_; (try simp only [go_sem])) | (refine AGet.nth (by (first | omega | exact List.length_pos_iff.2 (by assumption) | (simp only [List.length_append, List.length_cons, List.length_nil, List.length_map, List.length_take, List.length_drop] at *; omega) | (rw [wrap64_id (by omega) (by omega)]; omega) | (simp; done))) (fun b hb => ?_); (try simp only [hb, go_sem])) | (refine AGet.nth1 (by (first | omega | exact List.length_pos_iff.2 (by assumption) | (simp only [List.length_append, List.length_cons, List.length_nil, List.length_map, List.length_take, List.length_drop] at *; omega) | (rw [wrap64_id (by omega) (by omega)]; omega) | (simp; done))) (fun b hb => ?_); (try simp only [hb, go_sem])) | ((with_reducible refine And.intro ?_ ?_); focus ((first | omega | exact List.length_pos_iff.2 (by assumption) | (simp only [List.length_append, List.length_cons, List.length_nil, List.length_map, List.length_take, List.length_drop] at *; omega) | (rw [wrap64_id (by omega) (by omega)]; omega) | (simp; done)))))
  refine hK1 _ ?_; clear hK1 K1
  refine AWP.seqk fun K2 hK2 => ?_
  refine AWP.seqk fun K3 hK3 => ?_
  refine AWP.region ?_
  simp only [go_sem] -- region 1
  repeat' (first | (refine ACall.one (awake2_c ) (by kernel_rfl) rfl ?_; simp only [go_sem]) | (refine AGet.haveM (by assumption) ?_; (try simp only [go_sem])) | (refine AGet.have' (by assumption) ?_; (try simp only [go_sem])) | (refine AGet.nth (by (first | omega | exact List.length_pos_iff.2 (by assumption) | (simp only [List.length_append, List.length_cons, List.length_nil, List.length_map, List.length_take, List.length_drop] at *; omega) | (rw [wrap64_id (by omega) (by omega)]; omega) | (simp; done))) (fun b hb => ?_); (try simp only [hb, go_sem])) | (refine AGet.nth1 (by (first | omega | exact List.length_pos_iff.2 (by assumption) | (simp only [List.length_append, List.length_cons, List.length_nil, List.length_map, List.length_take, List.length_drop] at *; omega) | (rw [wrap64_id (by omega) (by omega)]; omega) | (simp; done))) (fun b hb => ?_); (try simp only [hb, go_sem])) | ((with_reducible refine And.intro ?_ ?_); focus ((first | omega | exact List.length_pos_iff.2 (by assumption) | (simp only [List.length_append, List.length_cons, List.length_nil, List.length_map, List.length_take, List.length_drop] at *; omega) | (rw [wrap64_id (by omega) (by omega)]; omega) | (simp; done)))))
  refine hK3 _ ?_; clear hK3 K3
  refine AWP.cond rfl (fun c18 => ?_) (fun c18 => ?_)
  · first | exact Bool.noConfusion c18 | (
      try simp only [decide_eq_true_eq, decide_eq_false_iff_not, Bool.not_eq_true', Bool.not_eq_false', Bool.or_eq_true, Bool.and_eq_true, Bool.or_eq_false_iff, Bool.and_eq_false_imp, Bool.not_true, Bool.not_false, Bool.true_eq_false, Bool.false_eq_true, ne_eq] at c18
      refine AWP.seqk fun K4 hK4 => ?_
      refine AWP.region ?_
      simp only [go_sem] -- region 2
      repeat' (first | (refine AGet.haveM (by assumption) ?_; (try simp only [go_sem])) | (refine AGet.have' (by assumption) ?_; (try simp only [go_sem])) | (refine AGet.nth (by (first | omega | exact List.length_pos_iff.2 (by assumption) | (simp only [List.length_append, List.length_cons, List.length_nil, List.length_map, List.length_take, List.length_drop] at *; omega) | (rw [wrap64_id (by omega) (by omega)]; omega) | (simp; done))) (fun b hb => ?_); (try simp only [hb, go_sem])) | (refine AGet.nth1 (by (first | omega | exact List.length_pos_iff.2 (by assumption) | (simp only [List.length_append, List.length_cons, List.length_nil, List.length_map, List.length_take, List.length_drop] at *; omega) | (rw [wrap64_id (by omega) (by omega)]; omega) | (simp; done))) (fun b hb => ?_); (try simp only [hb, go_sem])) | ((with_reducible refine And.intro ?_ ?_); focus ((first | omega | exact List.length_pos_iff.2 (by assumption) | (simp only [List.length_append, List.length_cons, List.length_nil, List.length_map, List.length_take, List.length_drop] at *; omega) | (rw [wrap64_id (by omega) (by omega)]; omega) | (simp; done)))))
      refine hK4 _ ?_; clear hK4 K4
      refine AWP.ret ?_
      simp only [go_sem]
      clear hK2 K2
      first
      | exact ⟨[], .v _, rfl, rfl, rfl, rfl⟩
      | exact ⟨[], .v _, rfl, rfl, by rw [parse_len0 c85]; rfl, rfl⟩
      | (simp only [eq_self]; exact ⟨[], .v _, rfl, rfl, rfl, rfl⟩)
      | skip)
  · first | exact Bool.noConfusion c18 | (
      try simp only [decide_eq_true_eq, decide_eq_false_iff_not, Bool.not_eq_true', Bool.not_eq_false', Bool.or_eq_true, Bool.and_eq_true, Bool.or_eq_false_iff, Bool.and_eq_false_imp, Bool.not_true, Bool.not_false, Bool.true_eq_false, Bool.false_eq_true, ne_eq] at c18
      refine AWP.skip ?_
      refine hK2 _ ?_; clear hK2 K2
      refine AWP.seqk fun K5 hK5 => ?_
      refine AWP.seqk fun K6 hK6 => ?_
      refine AWP.region ?_
      simp only [go_sem] -- region 3
      repeat' (first | (refine ACall.one (r2short_c _ (by omega)) (by kernel_rfl) rfl ?_; simp only [go_sem]) | (refine AGuard.splitN (fun h => ?_) (fun h => ?_) <;> simp only [h, go_sem] <;> try simp only [decide_eq_true_eq, decide_eq_false_iff_not, Bool.not_eq_true', Bool.not_eq_false', Bool.or_eq_true, Bool.and_eq_true, Bool.or_eq_false_iff, Bool.and_eq_false_imp, Bool.not_true, Bool.not_false, Bool.true_eq_false, Bool.false_eq_true, ne_eq] at h) | (refine AGuard.split (fun h => ?_) (fun h => ?_) <;> simp only [h, go_sem] <;> try simp only [decide_eq_true_eq, decide_eq_false_iff_not, Bool.not_eq_true', Bool.not_eq_false', Bool.or_eq_true, Bool.and_eq_true, Bool.or_eq_false_iff, Bool.and_eq_false_imp, Bool.not_true, Bool.not_false, Bool.true_eq_false, Bool.false_eq_true, ne_eq] at h) | (refine AGet.haveM (by assumption) ?_; (try simp only [go_sem])) | (refine AGet.have' (by assumption) ?_; (try simp only [go_sem])) | (refine AGet.nth (by (first | omega | exact List.length_pos_iff.2 (by assumption) | (simp only [List.length_append, List.length_cons, List.length_nil, List.length_map, List.length_take, List.length_drop] at *; omega) | (rw [wrap64_id (by omega) (by omega)]; omega) | (simp; done))) (fun b hb => ?_); (try simp only [hb, go_sem])) | (refine AGet.nth1 (by (first | omega | exact List.length_pos_iff.2 (by assumption) | (simp only [List.length_append, List.length_cons, List.length_nil, List.length_map, List.length_take, List.length_drop] at *; omega) | (rw [wrap64_id (by omega) (by omega)]; omega) | (simp; done))) (fun b hb => ?_); (try simp only [hb, go_sem])) | ((with_reducible refine And.intro ?_ ?_); focus ((first | omega | exact List.length_pos_iff.2 (by assumption) | (simp only [List.length_append, List.length_cons, List.length_nil, List.length_map, List.length_take, List.length_drop] at *; omega) | (rw [wrap64_id (by omega) (by omega)]; omega) | (simp; done)))))
      all_goals (
        refine hK6 _ ?_; clear hK6 K6
        refine AWP.cond rfl (fun c36 => ?_) (fun c36 => ?_)
        · first | exact Bool.noConfusion c36 | (
            try simp only [decide_eq_true_eq, decide_eq_false_iff_not, Bool.not_eq_true', Bool.not_eq_false', Bool.or_eq_true, Bool.and_eq_true, Bool.or_eq_false_iff, Bool.and_eq_false_imp, Bool.not_true, Bool.not_false, Bool.true_eq_false, Bool.false_eq_true, ne_eq] at c36
            refine AWP.seqk fun K7 hK7 => ?_
            refine AWP.region ?_
            simp only [go_sem] -- region 4
            repeat' (first | (refine AGet.haveM (by assumption) ?_; (try simp only [go_sem])) | (refine AGet.have' (by assumption) ?_; (try simp only [go_sem])) | (refine AGet.nth (by (first | omega | exact List.length_pos_iff.2 (by assumption) | (simp only [List.length_append, List.length_cons, List.length_nil, List.length_map, List.length_take, List.length_drop] at *; omega) | (rw [wrap64_id (by omega) (by omega)]; omega) | (simp; done))) (fun b hb => ?_); (try simp only [hb, go_sem])) | (refine AGet.nth1 (by (first | omega | exact List.length_pos_iff.2 (by assumption) | (simp only [List.length_append, List.length_cons, List.length_nil, List.length_map, List.length_take, List.length_drop] at *; omega) | (rw [wrap64_id (by omega) (by omega)]; omega) | (simp; done))) (fun b hb => ?_); (try simp only [hb, go_sem])) | ((with_reducible refine And.intro ?_ ?_); focus ((first | omega | exact List.length_pos_iff.2 (by assumption) | (simp only [List.length_append, List.length_cons, List.length_nil, List.length_map, List.length_take, List.length_drop] at *; omega) | (rw [wrap64_id (by omega) (by omega)]; omega) | (simp; done)))))
            refine hK7 _ ?_; clear hK7 K7
            refine AWP.ret ?_
            simp only [go_sem]
            clear hK5 K5
            first
            | exact ⟨[], .v _, rfl, rfl, rfl, rfl⟩
            | exact ⟨[], .v _, rfl, rfl, by rw [parse_len0 c85]; rfl, rfl⟩
            | (simp only [eq_self]; exact ⟨[], .v _, rfl, rfl, rfl, rfl⟩)
            | skip)
        · first | exact Bool.noConfusion c36 | (
            try simp only [decide_eq_true_eq, decide_eq_false_iff_not, Bool.not_eq_true', Bool.not_eq_false', Bool.or_eq_true, Bool.and_eq_true, Bool.or_eq_false_iff, Bool.and_eq_false_imp, Bool.not_true, Bool.not_false, Bool.true_eq_false, Bool.false_eq_true, ne_eq] at c36
            refine AWP.skip ?_
            refine hK5 _ ?_; clear hK5 K5
            refine AWP.seqk fun K8 hK8 => ?_
            refine AWP.region ?_
            simp only [go_sem] -- region 5
            repeat' (first | (refine ACall.of (fput_c _) (by kernel_rfl) rfl ?_; rintro r t ⟨rfl, rfl⟩ <;> simp only [go_sem]) | (refine AGet.haveM (by assumption) ?_; (try simp only [go_sem])) | (refine AGet.have' (by assumption) ?_; (try simp only [go_sem])) | (refine AGet.nth (by (first | omega | exact List.length_pos_iff.2 (by assumption) | (simp only [List.length_append, List.length_cons, List.length_nil, List.length_map, List.length_take, List.length_drop] at *; omega) | (rw [wrap64_id (by omega) (by omega)]; omega) | (simp; done))) (fun b hb => ?_); (try simp only [hb, go_sem])) | (refine AGet.nth1 (by (first | omega | exact List.length_pos_iff.2 (by assumption) | (simp only [List.length_append, List.length_cons, List.length_nil, List.length_map, List.length_take, List.length_drop] at *; omega) | (rw [wrap64_id (by omega) (by omega)]; omega) | (simp; done))) (fun b hb => ?_); (try simp only [hb, go_sem])) | ((with_reducible refine And.intro ?_ ?_); focus ((first | omega | exact List.length_pos_iff.2 (by assumption) | (simp only [List.length_append, List.length_cons, List.length_nil, List.length_map, List.length_take, List.length_drop] at *; omega) | (rw [wrap64_id (by omega) (by omega)]; omega) | (simp; done)))))
            refine hK8 _ ?_; clear hK8 K8
            refine AWP.seqk fun K9 hK9 => ?_
            refine AWP.region ?_
            simp only [go_sem] -- region 6
            repeat' (first | (refine ACall.of (fput_c _) (by kernel_rfl) rfl ?_; rintro r t ⟨rfl, rfl⟩ <;> simp only [go_sem]) | (refine AGet.haveM (by assumption) ?_; (try simp only [go_sem])) | (refine AGet.have' (by assumption) ?_; (try simp only [go_sem])) | (refine AGet.nth (by (first | omega | exact List.length_pos_iff.2 (by assumption) | (simp only [List.length_append, List.length_cons, List.length_nil, List.length_map, List.length_take, List.length_drop] at *; omega) | (rw [wrap64_id (by omega) (by omega)]; omega) | (simp; done))) (fun b hb => ?_); (try simp only [hb, go_sem])) | (refine AGet.nth1 (by (first | omega | exact List.length_pos_iff.2 (by assumption) | (simp only [List.length_append, List.length_cons, List.length_nil, List.length_map, List.length_take, List.length_drop] at *; omega) | (rw [wrap64_id (by omega) (by omega)]; omega) | (simp; done))) (fun b hb => ?_); (try simp only [hb, go_sem])) | ((with_reducible refine And.intro ?_ ?_); focus ((first | omega | exact List.length_pos_iff.2 (by assumption) | (simp only [List.length_append, List.length_cons, List.length_nil, List.length_map, List.length_take, List.length_drop] at *; omega) | (rw [wrap64_id (by omega) (by omega)]; omega) | (simp; done)))))
            refine hK9 _ ?_; clear hK9 K9
            refine AWP.seqJ (ι := Unit) [6, 11, 12, 47, 48, 49, 50, 51, 52, 53, 54, 55, 56, 57, 58, 59, 60, 61, 62, 63, 64, 65, 66, 67, 68, 69, 70, 71, 72, 73] (fun (c : Unit) => []) (fun (c : Unit) => []) (fun (c : Unit) => [(putF a).1.length, (putF b).1.length]) (fun (c : Unit) => True) ?_ ?_
            · refine AWP.seqk fun K10 hK10 => ?_
              refine AWP.region ?_
              simp only [go_sem] -- region 7
              repeat' (first | (refine AGuard.splitN (fun h => ?_) (fun h => ?_) <;> simp only [h, go_sem] <;> try simp only [decide_eq_true_eq, decide_eq_false_iff_not, Bool.not_eq_true', Bool.not_eq_false', Bool.or_eq_true, Bool.and_eq_true, Bool.or_eq_false_iff, Bool.and_eq_false_imp, Bool.not_true, Bool.not_false, Bool.true_eq_false, Bool.false_eq_true, ne_eq] at h) | (refine AGuard.split (fun h => ?_) (fun h => ?_) <;> simp only [h, go_sem] <;> try simp only [decide_eq_true_eq, decide_eq_false_iff_not, Bool.not_eq_true', Bool.not_eq_false', Bool.or_eq_true, Bool.and_eq_true, Bool.or_eq_false_iff, Bool.and_eq_false_imp, Bool.not_true, Bool.not_false, Bool.true_eq_false, Bool.false_eq_true, ne_eq] at h) | (refine AGet.haveM (by assumption) ?_; (try simp only [go_sem])) | (refine AGet.have' (by assumption) ?_; (try simp only [go_sem])) | (refine AGet.nth (by (first | omega | exact List.length_pos_iff.2 (by assumption) | (simp only [List.length_append, List.length_cons, List.length_nil, List.length_map, List.length_take, List.length_drop] at *; omega) | (rw [wrap64_id (by omega) (by omega)]; omega) | (simp; done))) (fun b hb => ?_); (try simp only [hb, go_sem])) | (refine AGet.nth1 (by (first | omega | exact List.length_pos_iff.2 (by assumption) | (simp only [List.length_append, List.length_cons, List.length_nil, List.length_map, List.length_take, List.length_drop] at *; omega) | (rw [wrap64_id (by omega) (by omega)]; omega) | (simp; done))) (fun b hb => ?_); (try simp only [hb, go_sem])) | ((with_reducible refine And.intro ?_ ?_); focus ((first | omega | exact List.length_pos_iff.2 (by assumption) | (simp only [List.length_append, List.length_cons, List.length_nil, List.length_map, List.length_take, List.length_drop] at *; omega) | (rw [wrap64_id (by omega) (by omega)]; omega) | (simp; done)))))
              all_goals (
                refine hK10 _ ?_; clear hK10 K10
                refine AWP.cond rfl (fun c52 => ?_) (fun c52 => ?_)
                · first | exact Bool.noConfusion c52 | (
                    try simp only [decide_eq_true_eq, decide_eq_false_iff_not, Bool.not_eq_true', Bool.not_eq_false', Bool.or_eq_true, Bool.and_eq_true, Bool.or_eq_false_iff, Bool.and_eq_false_imp, Bool.not_true, Bool.not_false, Bool.true_eq_false, Bool.false_eq_true, ne_eq] at c52
                    refine AWP.seqk fun K11 hK11 => ?_
                    have hla := put_len a
                    have hlb := put_len b
                    refine AWP.region ?_
                    simp only [go_sem] -- region 8
                    repeat' (first | (refine ACall.of (fparse_c _) (by kernel_rfl) rfl ?_; rintro r t ⟨rfl, rfl⟩ <;> simp only [go_sem]) | (refine AGet.haveM (by assumption) ?_; (try simp only [go_sem])) | (refine AGet.have' (by assumption) ?_; (try simp only [go_sem])) | (refine AGet.nth (by (first | omega | exact List.length_pos_iff.2 (by assumption) | (simp only [List.length_append, List.length_cons, List.length_nil, List.length_map, List.length_take, List.length_drop] at *; omega) | (rw [wrap64_id (by omega) (by omega)]; omega) | (simp; done))) (fun b hb => ?_); (try simp only [hb, go_sem])) | (refine AGet.nth1 (by (first | omega | exact List.length_pos_iff.2 (by assumption) | (simp only [List.length_append, List.length_cons, List.length_nil, List.length_map, List.length_take, List.length_drop] at *; omega) | (rw [wrap64_id (by omega) (by omega)]; omega) | (simp; done))) (fun b hb => ?_); (try simp only [hb, go_sem])) | ((with_reducible refine And.intro ?_ ?_); focus ((first | omega | exact List.length_pos_iff.2 (by assumption) | (simp only [List.length_append, List.length_cons, List.length_nil, List.length_map, List.length_take, List.length_drop] at *; omega) | (rw [wrap64_id (by omega) (by omega)]; omega) | (simp; done)))))
                    refine hK11 _ ?_; clear hK11 K11
                    refine AWP.seqk fun K12 hK12 => ?_
                    have hp := back1 (a := a) (b := b) (by assumption) (by assumption) (by assumption) (by assumption)
                    simp only [hp]
                    refine AWP.region ?_
                    simp only [go_sem] -- region 9
                    repeat' (first | (refine ACall.one (r2same_c _ _ (by first | omega | exact Nat.le_trans (parseL_len _) (by decide) | (simp only [List.length_append, List.length_take]; omega))) (by kernel_rfl) rfl ?_; simp only [go_sem]) | (refine AGuard.splitN (fun h => ?_) (fun h => ?_) <;> simp only [h, go_sem] <;> try simp only [decide_eq_true_eq, decide_eq_false_iff_not, Bool.not_eq_true', Bool.not_eq_false', Bool.or_eq_true, Bool.and_eq_true, Bool.or_eq_false_iff, Bool.and_eq_false_imp, Bool.not_true, Bool.not_false, Bool.true_eq_false, Bool.false_eq_true, ne_eq] at h) | (refine AGuard.split (fun h => ?_) (fun h => ?_) <;> simp only [h, go_sem] <;> try simp only [decide_eq_true_eq, decide_eq_false_iff_not, Bool.not_eq_true', Bool.not_eq_false', Bool.or_eq_true, Bool.and_eq_true, Bool.or_eq_false_iff, Bool.and_eq_false_imp, Bool.not_true, Bool.not_false, Bool.true_eq_false, Bool.false_eq_true, ne_eq] at h) | (refine AGet.haveM (by assumption) ?_; (try simp only [go_sem])) | (refine AGet.have' (by assumption) ?_; (try simp only [go_sem])) | (refine AGet.nth (by (first | omega | exact List.length_pos_iff.2 (by assumption) | (simp only [List.length_append, List.length_cons, List.length_nil, List.length_map, List.length_take, List.length_drop] at *; omega) | (rw [wrap64_id (by omega) (by omega)]; omega) | (simp; done))) (fun b hb => ?_); (try simp only [hb, go_sem])) | (refine AGet.nth1 (by (first | omega | exact List.length_pos_iff.2 (by assumption) | (simp only [List.length_append, List.length_cons, List.length_nil, List.length_map, List.length_take, List.length_drop] at *; omega) | (rw [wrap64_id (by omega) (by omega)]; omega) | (simp; done))) (fun b hb => ?_); (try simp only [hb, go_sem])) | ((with_reducible refine And.intro ?_ ?_); focus ((first | omega | exact List.length_pos_iff.2 (by assumption) | (simp only [List.length_append, List.length_cons, List.length_nil, List.length_map, List.length_take, List.length_drop] at *; omega) | (rw [wrap64_id (by omega) (by omega)]; omega) | (simp; done)))))
                    all_goals (
                      refine hK12 _ ?_; clear hK12 K12
                      refine AWP.cond rfl (fun c73 => ?_) (fun c73 => ?_)
                      · first | exact Bool.noConfusion c73 | (
                          try simp only [decide_eq_true_eq, decide_eq_false_iff_not, Bool.not_eq_true', Bool.not_eq_false', Bool.or_eq_true, Bool.and_eq_true, Bool.or_eq_false_iff, Bool.and_eq_false_imp, Bool.not_true, Bool.not_false, Bool.true_eq_false, Bool.false_eq_true, ne_eq] at c73
                          refine AWP.seqk fun K13 hK13 => ?_
                          refine AWP.region ?_
                          simp only [go_sem] -- region 10
                          repeat' (first | (refine AGet.haveM (by assumption) ?_; (try simp only [go_sem])) | (refine AGet.have' (by assumption) ?_; (try simp only [go_sem])) | (refine AGet.nth (by (first | omega | exact List.length_pos_iff.2 (by assumption) | (simp only [List.length_append, List.length_cons, List.length_nil, List.length_map, List.length_take, List.length_drop] at *; omega) | (rw [wrap64_id (by omega) (by omega)]; omega) | (simp; done))) (fun b hb => ?_); (try simp only [hb, go_sem])) | (refine AGet.nth1 (by (first | omega | exact List.length_pos_iff.2 (by assumption) | (simp only [List.length_append, List.length_cons, List.length_nil, List.length_map, List.length_take, List.length_drop] at *; omega) | (rw [wrap64_id (by omega) (by omega)]; omega) | (simp; done))) (fun b hb => ?_); (try simp only [hb, go_sem])) | ((with_reducible refine And.intro ?_ ?_); focus ((first | omega | exact List.length_pos_iff.2 (by assumption) | (simp only [List.length_append, List.length_cons, List.length_nil, List.length_map, List.length_take, List.length_drop] at *; omega) | (rw [wrap64_id (by omega) (by omega)]; omega) | (simp; done)))))
                          refine hK13 _ ?_; clear hK13 K13
                          refine AWP.ret ?_
                          simp only [go_sem]
                          first
                          | exact ⟨[], .v _, rfl, rfl, rfl, rfl⟩
                          | exact ⟨[], .v _, rfl, rfl, by rw [parse_len0 c85]; rfl, rfl⟩
                          | (simp only [eq_self]; exact ⟨[], .v _, rfl, rfl, rfl, rfl⟩)
                          | skip)
                      · first | exact Bool.noConfusion c73 | (
                          try simp only [decide_eq_true_eq, decide_eq_false_iff_not, Bool.not_eq_true', Bool.not_eq_false', Bool.or_eq_true, Bool.and_eq_true, Bool.or_eq_false_iff, Bool.and_eq_false_imp, Bool.not_true, Bool.not_false, Bool.true_eq_false, Bool.false_eq_true, ne_eq] at c73
                          refine AWP.skip ?_
                          refine ⟨(), trivial, ?_⟩
                          (try simp only [go_sem]); (try simp); done)))
                · first | exact Bool.noConfusion c52 | (
                    try simp only [decide_eq_true_eq, decide_eq_false_iff_not, Bool.not_eq_true', Bool.not_eq_false', Bool.or_eq_true, Bool.and_eq_true, Bool.or_eq_false_iff, Bool.and_eq_false_imp, Bool.not_true, Bool.not_false, Bool.true_eq_false, Bool.false_eq_true, ne_eq] at c52
                    refine AWP.skip ?_
                    refine ⟨(), trivial, ?_⟩
                    (try simp only [go_sem]); (try simp); done))
            rintro c -
            simp only [go_sem]
            refine AWP.seqk fun K14 hK14 => ?_
            refine AWP.region ?_
            simp only [go_sem] -- region 11
            repeat' (first | (refine AGet.haveM (by assumption) ?_; (try simp only [go_sem])) | (refine AGet.have' (by assumption) ?_; (try simp only [go_sem])) | (refine AGet.nth (by (first | omega | exact List.length_pos_iff.2 (by assumption) | (simp only [List.length_append, List.length_cons, List.length_nil, List.length_map, List.length_take, List.length_drop] at *; omega) | (rw [wrap64_id (by omega) (by omega)]; omega) | (simp; done))) (fun b hb => ?_); (try simp only [hb, go_sem])) | (refine AGet.nth1 (by (first | omega | exact List.length_pos_iff.2 (by assumption) | (simp only [List.length_append, List.length_cons, List.length_nil, List.length_map, List.length_take, List.length_drop] at *; omega) | (rw [wrap64_id (by omega) (by omega)]; omega) | (simp; done))) (fun b hb => ?_); (try simp only [hb, go_sem])) | ((with_reducible refine And.intro ?_ ?_); focus ((first | omega | exact List.length_pos_iff.2 (by assumption) | (simp only [List.length_append, List.length_cons, List.length_nil, List.length_map, List.length_take, List.length_drop] at *; omega) | (rw [wrap64_id (by omega) (by omega)]; omega) | (simp; done)))))
            refine hK14 _ ?_; clear hK14 K14
            refine AWP.seqk fun K15 hK15 => ?_
            refine AWP.region ?_
            simp only [go_sem] -- region 12
            repeat' (first | (refine ACall.of (fparse_c _) (by kernel_rfl) rfl ?_; rintro r t ⟨rfl, rfl⟩ <;> simp only [go_sem]) | (refine AGet.haveM (by assumption) ?_; (try simp only [go_sem])) | (refine AGet.have' (by assumption) ?_; (try simp only [go_sem])) | (refine AGet.nth (by (first | omega | exact List.length_pos_iff.2 (by assumption) | (simp only [List.length_append, List.length_cons, List.length_nil, List.length_map, List.length_take, List.length_drop] at *; omega) | (rw [wrap64_id (by omega) (by omega)]; omega) | (simp; done))) (fun b hb => ?_); (try simp only [hb, go_sem])) | (refine AGet.nth1 (by (first | omega | exact List.length_pos_iff.2 (by assumption) | (simp only [List.length_append, List.length_cons, List.length_nil, List.length_map, List.length_take, List.length_drop] at *; omega) | (rw [wrap64_id (by omega) (by omega)]; omega) | (simp; done))) (fun b hb => ?_); (try simp only [hb, go_sem])) | ((with_reducible refine And.intro ?_ ?_); focus ((first | omega | exact List.length_pos_iff.2 (by assumption) | (simp only [List.length_append, List.length_cons, List.length_nil, List.length_map, List.length_take, List.length_drop] at *; omega) | (rw [wrap64_id (by omega) (by omega)]; omega) | (simp; done)))))
            refine hK15 _ ?_; clear hK15 K15
            refine AWP.seqk fun K16 hK16 => ?_
            refine AWP.seqk fun K17 hK17 => ?_
            refine AWP.region ?_
            simp only [go_sem] -- region 13
            repeat' (first | (refine AGet.haveM (by assumption) ?_; (try simp only [go_sem])) | (refine AGet.have' (by assumption) ?_; (try simp only [go_sem])) | (refine AGet.nth (by (first | omega | exact List.length_pos_iff.2 (by assumption) | (simp only [List.length_append, List.length_cons, List.length_nil, List.length_map, List.length_take, List.length_drop] at *; omega) | (rw [wrap64_id (by omega) (by omega)]; omega) | (simp; done))) (fun b hb => ?_); (try simp only [hb, go_sem])) | (refine AGet.nth1 (by (first | omega | exact List.length_pos_iff.2 (by assumption) | (simp only [List.length_append, List.length_cons, List.length_nil, List.length_map, List.length_take, List.length_drop] at *; omega) | (rw [wrap64_id (by omega) (by omega)]; omega) | (simp; done))) (fun b hb => ?_); (try simp only [hb, go_sem])) | ((with_reducible refine And.intro ?_ ?_); focus ((first | omega | exact List.length_pos_iff.2 (by assumption) | (simp only [List.length_append, List.length_cons, List.length_nil, List.length_map, List.length_take, List.length_drop] at *; omega) | (rw [wrap64_id (by omega) (by omega)]; omega) | (simp; done)))))
            refine hK17 _ ?_; clear hK17 K17
            refine AWP.cond rfl (fun c85 => ?_) (fun c85 => ?_)
            · first | exact Bool.noConfusion c85 | (
                try simp only [decide_eq_true_eq, decide_eq_false_iff_not, Bool.not_eq_true', Bool.not_eq_false', Bool.or_eq_true, Bool.and_eq_true, Bool.or_eq_false_iff, Bool.and_eq_false_imp, Bool.not_true, Bool.not_false, Bool.true_eq_false, Bool.false_eq_true, ne_eq] at c85
                refine AWP.seqk fun K18 hK18 => ?_
                refine AWP.region ?_
                simp only [go_sem] -- region 14
                repeat' (first | (refine AGet.haveM (by assumption) ?_; (try simp only [go_sem])) | (refine AGet.have' (by assumption) ?_; (try simp only [go_sem])) | (refine AGet.nth (by (first | omega | exact List.length_pos_iff.2 (by assumption) | (simp only [List.length_append, List.length_cons, List.length_nil, List.length_map, List.length_take, List.length_drop] at *; omega) | (rw [wrap64_id (by omega) (by omega)]; omega) | (simp; done))) (fun b hb => ?_); (try simp only [hb, go_sem])) | (refine AGet.nth1 (by (first | omega | exact List.length_pos_iff.2 (by assumption) | (simp only [List.length_append, List.length_cons, List.length_nil, List.length_map, List.length_take, List.length_drop] at *; omega) | (rw [wrap64_id (by omega) (by omega)]; omega) | (simp; done))) (fun b hb => ?_); (try simp only [hb, go_sem])) | ((with_reducible refine And.intro ?_ ?_); focus ((first | omega | exact List.length_pos_iff.2 (by assumption) | (simp only [List.length_append, List.length_cons, List.length_nil, List.length_map, List.length_take, List.length_drop] at *; omega) | (rw [wrap64_id (by omega) (by omega)]; omega) | (simp; done)))))
                refine hK18 _ ?_; clear hK18 K18
                refine AWP.ret ?_
                simp only [go_sem]
                clear hK16 K16
                first
                | exact ⟨[], .v _, rfl, rfl, rfl, rfl⟩
                | exact ⟨[], .v _, rfl, rfl, by rw [parse_len0 c85]; rfl, rfl⟩
                | (simp only [eq_self]; exact ⟨[], .v _, rfl, rfl, rfl, rfl⟩)
                | skip)
            · first | exact Bool.noConfusion c85 | (
                try simp only [decide_eq_true_eq, decide_eq_false_iff_not, Bool.not_eq_true', Bool.not_eq_false', Bool.or_eq_true, Bool.and_eq_true, Bool.or_eq_false_iff, Bool.and_eq_false_imp, Bool.not_true, Bool.not_false, Bool.true_eq_false, Bool.false_eq_true, ne_eq] at c85
                refine AWP.skip ?_
                refine hK16 _ ?_; clear hK16 K16
                refine AWP.seqk fun K19 hK19 => ?_
                refine AWP.region ?_
                simp only [go_sem] -- region 15
                repeat' (first | (refine ACall.of (fput_c _) (by kernel_rfl) rfl ?_; rintro r t ⟨rfl, rfl⟩ <;> simp only [go_sem]) | (refine AGet.haveM (by assumption) ?_; (try simp only [go_sem])) | (refine AGet.have' (by assumption) ?_; (try simp only [go_sem])) | (refine AGet.nth (by (first | omega | exact List.length_pos_iff.2 (by assumption) | (simp only [List.length_append, List.length_cons, List.length_nil, List.length_map, List.length_take, List.length_drop] at *; omega) | (rw [wrap64_id (by omega) (by omega)]; omega) | (simp; done))) (fun b hb => ?_); (try simp only [hb, go_sem])) | (refine AGet.nth1 (by (first | omega | exact List.length_pos_iff.2 (by assumption) | (simp only [List.length_append, List.length_cons, List.length_nil, List.length_map, List.length_take, List.length_drop] at *; omega) | (rw [wrap64_id (by omega) (by omega)]; omega) | (simp; done))) (fun b hb => ?_); (try simp only [hb, go_sem])) | ((with_reducible refine And.intro ?_ ?_); focus ((first | omega | exact List.length_pos_iff.2 (by assumption) | (simp only [List.length_append, List.length_cons, List.length_nil, List.length_map, List.length_take, List.length_drop] at *; omega) | (rw [wrap64_id (by omega) (by omega)]; omega) | (simp; done)))))
                refine hK19 _ ?_; clear hK19 K19
                refine AWP.seqk fun K20 hK20 => ?_
                have hp := back2 c85
                simp only [hp]
                refine AWP.region ?_
                simp only [go_sem] -- region 16
                repeat' (first | (refine AGuard.splitN (fun h => ?_) (fun h => ?_) <;> simp only [h, go_sem] <;> try simp only [decide_eq_true_eq, decide_eq_false_iff_not, Bool.not_eq_true', Bool.not_eq_false', Bool.or_eq_true, Bool.and_eq_true, Bool.or_eq_false_iff, Bool.and_eq_false_imp, Bool.not_true, Bool.not_false, Bool.true_eq_false, Bool.false_eq_true, ne_eq] at h) | (refine AGuard.split (fun h => ?_) (fun h => ?_) <;> simp only [h, go_sem] <;> try simp only [decide_eq_true_eq, decide_eq_false_iff_not, Bool.not_eq_true', Bool.not_eq_false', Bool.or_eq_true, Bool.and_eq_true, Bool.or_eq_false_iff, Bool.and_eq_false_imp, Bool.not_true, Bool.not_false, Bool.true_eq_false, Bool.false_eq_true, ne_eq] at h) | (refine AGet.haveM (by assumption) ?_; (try simp only [go_sem])) | (refine AGet.have' (by assumption) ?_; (try simp only [go_sem])) | (refine AGet.nth (by (first | omega | exact List.length_pos_iff.2 (by assumption) | (simp only [List.length_append, List.length_cons, List.length_nil, List.length_map, List.length_take, List.length_drop] at *; omega) | (rw [wrap64_id (by omega) (by omega)]; omega) | (simp; done))) (fun b hb => ?_); (try simp only [hb, go_sem])) | (refine AGet.nth1 (by (first | omega | exact List.length_pos_iff.2 (by assumption) | (simp only [List.length_append, List.length_cons, List.length_nil, List.length_map, List.length_take, List.length_drop] at *; omega) | (rw [wrap64_id (by omega) (by omega)]; omega) | (simp; done))) (fun b hb => ?_); (try simp only [hb, go_sem])) | ((with_reducible refine And.intro ?_ ?_); focus ((first | omega | exact List.length_pos_iff.2 (by assumption) | (simp only [List.length_append, List.length_cons, List.length_nil, List.length_map, List.length_take, List.length_drop] at *; omega) | (rw [wrap64_id (by omega) (by omega)]; omega) | (simp; done)))))
                all_goals (
                  refine hK20 _ ?_; clear hK20 K20
                  refine AWP.ret ?_
                  simp only [go_sem]
                  first
                  | exact ⟨[], .v _, rfl, rfl, rfl, rfl⟩
                  | exact ⟨[], .v _, rfl, rfl, by rw [parse_len0 c85]; rfl, rfl⟩
                  | (simp only [eq_self]; exact ⟨[], .v _, rfl, rfl, rfl, rfl⟩)
                  | skip)))))


end Go.Proofs.YtgiomlgkccjhfaaDoor
