import Derived.Test.YtgiomlgkccjhfaaDoorN7
namespace Go.Proofs.YtgiomlgkccjhfaaDoor
open Go Go.Abs Go.RowKit Go.Fld
set_option linter.unusedVariables false
set_option linter.unusedSimpArgs false

theorem fnum_c (l : List Fld.Fd) (tag : Int) (hl : l.length ≤ 9223372036854775807) : ACalls E 22 [fldsV l, i64 tag] (fun r t => r = .tup [i64 (numF l tag).1, bl (numF l tag).2] ∧ t = []) := by -- checkroll/field.Num
  refine ACalls.of_awp (n := 26) (rs := [.tmp 4, .tmp 5]) Tryd.func22 rfl Tryd.ntmps22 rfl ?_
  refine AWP.seqk fun K1 hK1 => ?_
  refine AWP.region ?_
  simp only [go_sem] -- region 0
  repeat' (first | (refine AGet.haveM (by assumption) ?_; (try simp only [go_sem])) | (refine AGet.have' (by assumption) ?_; (try simp only [go_sem])) | (refine AGet.nth (by (first | omega | exact List.length_pos_iff.2 (by assumption) | (simp only [List.length_append, List.length_cons, List.length_nil, List.length_map, List.length_take, List.length_drop] at *; omega) | (rw [wrap64_id (by omega) (by omega)]; omega) | (simp; done))) (fun b hb => ?_); (try simp only [hb, go_sem])) | (refine AGet.nth1 (by (first | omega | exact List.length_pos_iff.2 (by assumption) | (simp only [List.length_append, List.length_cons, List.length_nil, List.length_map, List.length_take, List.length_drop] at *; omega) | (rw [wrap64_id (by omega) (by omega)]; omega) | (simp; done))) (fun b hb => ?_); (try simp only [hb, go_sem])) | ((with_reducible refine And.intro ?_ ?_); focus ((first | omega | exact List.length_pos_iff.2 (by assumption) | (simp only [List.length_append, List.length_cons, List.length_nil, List.length_map, List.length_take, List.length_drop] at *; omega) | (rw [wrap64_id (by omega) (by omega)]; omega) | (simp; done)))))
  refine hK1 _ ?_; clear hK1 K1
  refine AWP.seqk fun K2 hK2 => ?_
  refine AWP.region ?_
  simp only [go_sem] -- region 1
  repeat' (first | (refine ACall.one (fget_c _ _ (by omega)) (by kernel_rfl) rfl ?_; simp only [go_sem]) | (refine AGet.haveM (by assumption) ?_; (try simp only [go_sem])) | (refine AGet.have' (by assumption) ?_; (try simp only [go_sem])) | (refine AGet.nth (by (first | omega | exact List.length_pos_iff.2 (by assumption) | (simp only [List.length_append, List.length_cons, List.length_nil, List.length_map, List.length_take, List.length_drop] at *; omega) | (rw [wrap64_id (by omega) (by omega)]; omega) | (simp; done))) (fun b hb => ?_); (try simp only [hb, go_sem])) | (refine AGet.nth1 (by (first | omega | exact List.length_pos_iff.2 (by assumption) | (simp only [List.length_append, List.length_cons, List.length_nil, List.length_map, List.length_take, List.length_drop] at *; omega) | (rw [wrap64_id (by omega) (by omega)]; omega) | (simp; done))) (fun b hb => ?_); (try simp only [hb, go_sem])) | ((with_reducible refine And.intro ?_ ?_); focus ((first | omega | exact List.length_pos_iff.2 (by assumption) | (simp only [List.length_append, List.length_cons, List.length_nil, List.length_map, List.length_take, List.length_drop] at *; omega) | (rw [wrap64_id (by omega) (by omega)]; omega) | (simp; done)))))
  refine hK2 _ ?_; clear hK2 K2
  refine AWP.seqk fun K3 hK3 => ?_
  refine AWP.seqk fun K4 hK4 => ?_
  refine AWP.region ?_
  simp only [go_sem] -- region 2
  repeat' (first | (refine AGet.haveM (by assumption) ?_; (try simp only [go_sem])) | (refine AGet.have' (by assumption) ?_; (try simp only [go_sem])) | (refine AGet.nth (by (first | omega | exact List.length_pos_iff.2 (by assumption) | (simp only [List.length_append, List.length_cons, List.length_nil, List.length_map, List.length_take, List.length_drop] at *; omega) | (rw [wrap64_id (by omega) (by omega)]; omega) | (simp; done))) (fun b hb => ?_); (try simp only [hb, go_sem])) | (refine AGet.nth1 (by (first | omega | exact List.length_pos_iff.2 (by assumption) | (simp only [List.length_append, List.length_cons, List.length_nil, List.length_map, List.length_take, List.length_drop] at *; omega) | (rw [wrap64_id (by omega) (by omega)]; omega) | (simp; done))) (fun b hb => ?_); (try simp only [hb, go_sem])) | ((with_reducible refine And.intro ?_ ?_); focus ((first | omega | exact List.length_pos_iff.2 (by assumption) | (simp only [List.length_append, List.length_cons, List.length_nil, List.length_map, List.length_take, List.length_drop] at *; omega) | (rw [wrap64_id (by omega) (by omega)]; omega) | (simp; done)))))
  refine hK4 _ ?_; clear hK4 K4
  refine AWP.cond rfl (fun c17 => ?_) (fun c17 => ?_)
  · first | exact Bool.noConfusion c17 | (
      try simp only [decide_eq_true_eq, decide_eq_false_iff_not, Bool.not_eq_true', Bool.not_eq_false', Bool.or_eq_true, Bool.and_eq_true, Bool.or_eq_false_iff, Bool.and_eq_false_imp, Bool.not_true, Bool.not_false, Bool.true_eq_false, Bool.false_eq_true, ne_eq] at c17
      refine AWP.seqk fun K5 hK5 => ?_
      refine AWP.region ?_
      simp only [go_sem] -- region 3
      repeat' (first | (refine AGet.haveM (by assumption) ?_; (try simp only [go_sem])) | (refine AGet.have' (by assumption) ?_; (try simp only [go_sem])) | (refine AGet.nth (by (first | omega | exact List.length_pos_iff.2 (by assumption) | (simp only [List.length_append, List.length_cons, List.length_nil, List.length_map, List.length_take, List.length_drop] at *; omega) | (rw [wrap64_id (by omega) (by omega)]; omega) | (simp; done))) (fun b hb => ?_); (try simp only [hb, go_sem])) | (refine AGet.nth1 (by (first | omega | exact List.length_pos_iff.2 (by assumption) | (simp only [List.length_append, List.length_cons, List.length_nil, List.length_map, List.length_take, List.length_drop] at *; omega) | (rw [wrap64_id (by omega) (by omega)]; omega) | (simp; done))) (fun b hb => ?_); (try simp only [hb, go_sem])) | ((with_reducible refine And.intro ?_ ?_); focus ((first | omega | exact List.length_pos_iff.2 (by assumption) | (simp only [List.length_append, List.length_cons, List.length_nil, List.length_map, List.length_take, List.length_drop] at *; omega) | (rw [wrap64_id (by omega) (by omega)]; omega) | (simp; done)))))
      refine hK5 _ ?_; clear hK5 K5
      refine AWP.ret ?_
      simp only [go_sem]
      clear hK3 K3
      first
      | exact ⟨[], .tup [.v _, .v _], rfl, ⟨rfl, rfl, trivial⟩, by unfold numF; rw [if_neg (by rw [(by assumption : (getF l tag).2 = false)]; simp)], rfl⟩
      | exact ⟨[], .tup [.v _, .v _], rfl, ⟨rfl, rfl, trivial⟩, by unfold numF; rw [if_pos c17, if_neg c24], rfl⟩
      | exact ⟨[], .tup [.v _, .v _], rfl, ⟨rfl, rfl, trivial⟩, by unfold numF; rw [if_pos c17, if_pos c24], rfl⟩)
  · first | exact Bool.noConfusion c17 | (
      try simp only [decide_eq_true_eq, decide_eq_false_iff_not, Bool.not_eq_true', Bool.not_eq_false', Bool.or_eq_true, Bool.and_eq_true, Bool.or_eq_false_iff, Bool.and_eq_false_imp, Bool.not_true, Bool.not_false, Bool.true_eq_false, Bool.false_eq_true, ne_eq] at c17
      refine AWP.skip ?_
      refine hK3 _ ?_; clear hK3 K3
      refine AWP.seqk fun K6 hK6 => ?_
      refine AWP.region ?_
      simp only [go_sem] -- region 4
      repeat' (first | (refine ACall.one (nparse_c _) (by kernel_rfl) rfl ?_; simp only [go_sem]) | (refine AGet.haveM (by assumption) ?_; (try simp only [go_sem])) | (refine AGet.have' (by assumption) ?_; (try simp only [go_sem])) | (refine AGet.nth (by (first | omega | exact List.length_pos_iff.2 (by assumption) | (simp only [List.length_append, List.length_cons, List.length_nil, List.length_map, List.length_take, List.length_drop] at *; omega) | (rw [wrap64_id (by omega) (by omega)]; omega) | (simp; done))) (fun b hb => ?_); (try simp only [hb, go_sem])) | (refine AGet.nth1 (by (first | omega | exact List.length_pos_iff.2 (by assumption) | (simp only [List.length_append, List.length_cons, List.length_nil, List.length_map, List.length_take, List.length_drop] at *; omega) | (rw [wrap64_id (by omega) (by omega)]; omega) | (simp; done))) (fun b hb => ?_); (try simp only [hb, go_sem])) | ((with_reducible refine And.intro ?_ ?_); focus ((first | omega | exact List.length_pos_iff.2 (by assumption) | (simp only [List.length_append, List.length_cons, List.length_nil, List.length_map, List.length_take, List.length_drop] at *; omega) | (rw [wrap64_id (by omega) (by omega)]; omega) | (simp; done)))))
      refine hK6 _ ?_; clear hK6 K6
      refine AWP.seqk fun K7 hK7 => ?_
      refine AWP.seqk fun K8 hK8 => ?_
      refine AWP.region ?_
      simp only [go_sem] -- region 5
      repeat' (first | (refine AGet.haveM (by assumption) ?_; (try simp only [go_sem])) | (refine AGet.have' (by assumption) ?_; (try simp only [go_sem])) | (refine AGet.nth (by (first | omega | exact List.length_pos_iff.2 (by assumption) | (simp only [List.length_append, List.length_cons, List.length_nil, List.length_map, List.length_take, List.length_drop] at *; omega) | (rw [wrap64_id (by omega) (by omega)]; omega) | (simp; done))) (fun b hb => ?_); (try simp only [hb, go_sem])) | (refine AGet.nth1 (by (first | omega | exact List.length_pos_iff.2 (by assumption) | (simp only [List.length_append, List.length_cons, List.length_nil, List.length_map, List.length_take, List.length_drop] at *; omega) | (rw [wrap64_id (by omega) (by omega)]; omega) | (simp; done))) (fun b hb => ?_); (try simp only [hb, go_sem])) | ((with_reducible refine And.intro ?_ ?_); focus ((first | omega | exact List.length_pos_iff.2 (by assumption) | (simp only [List.length_append, List.length_cons, List.length_nil, List.length_map, List.length_take, List.length_drop] at *; omega) | (rw [wrap64_id (by omega) (by omega)]; omega) | (simp; done)))))
      refine hK8 _ ?_; clear hK8 K8
      refine AWP.cond rfl (fun c24 => ?_) (fun c24 => ?_)
      · first | exact Bool.noConfusion c24 | (
          try simp only [decide_eq_true_eq, decide_eq_false_iff_not, Bool.not_eq_true', Bool.not_eq_false', Bool.or_eq_true, Bool.and_eq_true, Bool.or_eq_false_iff, Bool.and_eq_false_imp, Bool.not_true, Bool.not_false, Bool.true_eq_false, Bool.false_eq_true, ne_eq] at c24
          refine AWP.seqk fun K9 hK9 => ?_
          refine AWP.region ?_
          simp only [go_sem] -- region 6
          repeat' (first | (refine AGet.haveM (by assumption) ?_; (try simp only [go_sem])) | (refine AGet.have' (by assumption) ?_; (try simp only [go_sem])) | (refine AGet.nth (by (first | omega | exact List.length_pos_iff.2 (by assumption) | (simp only [List.length_append, List.length_cons, List.length_nil, List.length_map, List.length_take, List.length_drop] at *; omega) | (rw [wrap64_id (by omega) (by omega)]; omega) | (simp; done))) (fun b hb => ?_); (try simp only [hb, go_sem])) | (refine AGet.nth1 (by (first | omega | exact List.length_pos_iff.2 (by assumption) | (simp only [List.length_append, List.length_cons, List.length_nil, List.length_map, List.length_take, List.length_drop] at *; omega) | (rw [wrap64_id (by omega) (by omega)]; omega) | (simp; done))) (fun b hb => ?_); (try simp only [hb, go_sem])) | ((with_reducible refine And.intro ?_ ?_); focus ((first | omega | exact List.length_pos_iff.2 (by assumption) | (simp only [List.length_append, List.length_cons, List.length_nil, List.length_map, List.length_take, List.length_drop] at *; omega) | (rw [wrap64_id (by omega) (by omega)]; omega) | (simp; done)))))
          refine hK9 _ ?_; clear hK9 K9
          refine AWP.ret ?_
          simp only [go_sem]
          clear hK7 K7
          first
          | exact ⟨[], .tup [.v _, .v _], rfl, ⟨rfl, rfl, trivial⟩, by unfold numF; rw [if_neg (by rw [(by assumption : (getF l tag).2 = false)]; simp)], rfl⟩
          | exact ⟨[], .tup [.v _, .v _], rfl, ⟨rfl, rfl, trivial⟩, by unfold numF; rw [if_pos c17, if_neg c24], rfl⟩
          | exact ⟨[], .tup [.v _, .v _], rfl, ⟨rfl, rfl, trivial⟩, by unfold numF; rw [if_pos c17, if_pos c24], rfl⟩)
      · first | exact Bool.noConfusion c24 | (
          try simp only [decide_eq_true_eq, decide_eq_false_iff_not, Bool.not_eq_true', Bool.not_eq_false', Bool.or_eq_true, Bool.and_eq_true, Bool.or_eq_false_iff, Bool.and_eq_false_imp, Bool.not_true, Bool.not_false, Bool.true_eq_false, Bool.false_eq_true, ne_eq] at c24
          refine AWP.skip ?_
          refine hK7 _ ?_; clear hK7 K7
          refine AWP.seqk fun K10 hK10 => ?_
          refine AWP.region ?_
          simp only [go_sem] -- region 7
          repeat' (first | (refine AGet.haveM (by assumption) ?_; (try simp only [go_sem])) | (refine AGet.have' (by assumption) ?_; (try simp only [go_sem])) | (refine AGet.nth (by (first | omega | exact List.length_pos_iff.2 (by assumption) | (simp only [List.length_append, List.length_cons, List.length_nil, List.length_map, List.length_take, List.length_drop] at *; omega) | (rw [wrap64_id (by omega) (by omega)]; omega) | (simp; done))) (fun b hb => ?_); (try simp only [hb, go_sem])) | (refine AGet.nth1 (by (first | omega | exact List.length_pos_iff.2 (by assumption) | (simp only [List.length_append, List.length_cons, List.length_nil, List.length_map, List.length_take, List.length_drop] at *; omega) | (rw [wrap64_id (by omega) (by omega)]; omega) | (simp; done))) (fun b hb => ?_); (try simp only [hb, go_sem])) | ((with_reducible refine And.intro ?_ ?_); focus ((first | omega | exact List.length_pos_iff.2 (by assumption) | (simp only [List.length_append, List.length_cons, List.length_nil, List.length_map, List.length_take, List.length_drop] at *; omega) | (rw [wrap64_id (by omega) (by omega)]; omega) | (simp; done)))))
          refine hK10 _ ?_; clear hK10 K10
          refine AWP.ret ?_
          simp only [go_sem]
          first
          | exact ⟨[], .tup [.v _, .v _], rfl, ⟨rfl, rfl, trivial⟩, by unfold numF; rw [if_neg (by rw [(by assumption : (getF l tag).2 = false)]; simp)], rfl⟩
          | exact ⟨[], .tup [.v _, .v _], rfl, ⟨rfl, rfl, trivial⟩, by unfold numF; rw [if_pos c17, if_neg c24], rfl⟩
          | exact ⟨[], .tup [.v _, .v _], rfl, ⟨rfl, rfl, trivial⟩, by unfold numF; rw [if_pos c17, if_pos c24], rfl⟩))


theorem r2same_c (a b : List Fld.Fd) (hl : a.length ≤ 9223372036854775807) : ACalls E 28 [fldsV a, fldsV b] (fun r t => r = bl (decide (a = b)) ∧ t = []) := by -- checkroll/checkrollref02.Same
  refine ACalls.of_awp (n := 26) (rs := [.tmp 4]) Tryd.func28 rfl Tryd.ntmps28 rfl ?_
  refine AWP.seqk fun K1 hK1 => ?_
  refine AWP.region ?_
  simp only [go_sem] -- region 0
  repeat' (first | (refine AGet.haveM (by assumption) ?_; (try simp only [go_sem])) | (refine AGet.have' (by assumption) ?_; (try simp only [go_sem])) | (refine AGet.nth (by (first | omega | exact List.length_pos_iff.2 (by assumption) | (simp only [List.length_append, List.length_cons, List.length_nil, List.length_map, List.length_take, List.length_drop] at *; omega) | (rw [wrap64_id (by omega) (by omega)]; omega) | (simp; done))) (fun b hb => ?_); (try simp only [hb, go_sem])) | (refine AGet.nth1 (by (first | omega | exact List.length_pos_iff.2 (by assumption) | (simp only [List.length_append, List.length_cons, List.length_nil, List.length_map, List.length_take, List.length_drop] at *; omega) | (rw [wrap64_id (by omega) (by omega)]; omega) | (simp; done))) (fun b hb => ?_); (try simp only [hb, go_sem])) | ((with_reducible refine And.intro ?_ ?_); focus ((first | omega | exact List.length_pos_iff.2 (by assumption) | (simp only [List.length_append, List.length_cons, List.length_nil, List.length_map, List.length_take, List.length_drop] at *; omega) | (rw [wrap64_id (by omega) (by omega)]; omega) | (simp; done)))))
  refine hK1 _ ?_; clear hK1 K1
  refine AWP.seqk fun K2 hK2 => ?_
  refine AWP.seqk fun K3 hK3 => ?_
  refine AWP.region ?_
  simp only [go_sem] -- region 1
  repeat' (first | (refine AGet.haveM (by assumption) ?_; (try simp only [go_sem])) | (refine AGet.have' (by assumption) ?_; (try simp only [go_sem])) | (refine AGet.nth (by (first | omega | exact List.length_pos_iff.2 (by assumption) | (simp only [List.length_append, List.length_cons, List.length_nil, List.length_map, List.length_take, List.length_drop] at *; omega) | (rw [wrap64_id (by omega) (by omega)]; omega) | (simp; done))) (fun b hb => ?_); (try simp only [hb, go_sem])) | (refine AGet.nth1 (by (first | omega | exact List.length_pos_iff.2 (by assumption) | (simp only [List.length_append, List.length_cons, List.length_nil, List.length_map, List.length_take, List.length_drop] at *; omega) | (rw [wrap64_id (by omega) (by omega)]; omega) | (simp; done))) (fun b hb => ?_); (try simp only [hb, go_sem])) | ((with_reducible refine And.intro ?_ ?_); focus ((first | omega | exact List.length_pos_iff.2 (by assumption) | (simp only [List.length_append, List.length_cons, List.length_nil, List.length_map, List.length_take, List.length_drop] at *; omega) | (rw [wrap64_id (by omega) (by omega)]; omega) | (simp; done)))))
  refine hK3 _ ?_; clear hK3 K3
  refine AWP.cond rfl (fun c10 => ?_) (fun c10 => ?_)
  · first | exact Bool.noConfusion c10 | (
      try simp only [decide_eq_true_eq, decide_eq_false_iff_not, Bool.not_eq_true', Bool.not_eq_false', Bool.or_eq_true, Bool.and_eq_true, Bool.or_eq_false_iff, Bool.and_eq_false_imp, Bool.not_true, Bool.not_false, Bool.true_eq_false, Bool.false_eq_true, ne_eq] at c10
      refine AWP.seqk fun K4 hK4 => ?_
      refine AWP.region ?_
      simp only [go_sem] -- region 2
      repeat' (first | (refine AGet.haveM (by assumption) ?_; (try simp only [go_sem])) | (refine AGet.have' (by assumption) ?_; (try simp only [go_sem])) | (refine AGet.nth (by (first | omega | exact List.length_pos_iff.2 (by assumption) | (simp only [List.length_append, List.length_cons, List.length_nil, List.length_map, List.length_take, List.length_drop] at *; omega) | (rw [wrap64_id (by omega) (by omega)]; omega) | (simp; done))) (fun b hb => ?_); (try simp only [hb, go_sem])) | (refine AGet.nth1 (by (first | omega | exact List.length_pos_iff.2 (by assumption) | (simp only [List.length_append, List.length_cons, List.length_nil, List.length_map, List.length_take, List.length_drop] at *; omega) | (rw [wrap64_id (by omega) (by omega)]; omega) | (simp; done))) (fun b hb => ?_); (try simp only [hb, go_sem])) | ((with_reducible refine And.intro ?_ ?_); focus ((first | omega | exact List.length_pos_iff.2 (by assumption) | (simp only [List.length_append, List.length_cons, List.length_nil, List.length_map, List.length_take, List.length_drop] at *; omega) | (rw [wrap64_id (by omega) (by omega)]; omega) | (simp; done)))))
      refine hK4 _ ?_; clear hK4 K4
      refine AWP.ret ?_
      simp only [go_sem]
      clear hK2 K2
      first
      | exact ⟨[], .v _, rfl, rfl, congrArg bl (same_no1 c10).symm, rfl⟩
      | exact ⟨[], .v _, rfl, rfl, congrArg bl (same_no2 (by assumption) hb c25).symm, rfl⟩
      | exact ⟨[], .v _, rfl, rfl, congrArg bl (same_yes c10 c14 h2).symm, rfl⟩)
  · first | exact Bool.noConfusion c10 | (
      try simp only [decide_eq_true_eq, decide_eq_false_iff_not, Bool.not_eq_true', Bool.not_eq_false', Bool.or_eq_true, Bool.and_eq_true, Bool.or_eq_false_iff, Bool.and_eq_false_imp, Bool.not_true, Bool.not_false, Bool.true_eq_false, Bool.false_eq_true, ne_eq] at c10
      refine AWP.skip ?_
      refine hK2 _ ?_; clear hK2 K2
      refine AWP.seqk fun K5 hK5 => ?_
      refine AWP.seqk fun K6 hK6 => ?_
      refine AWP.region ?_
      simp only [go_sem] -- region 3
      repeat' (first | (refine AGet.haveM (by assumption) ?_; (try simp only [go_sem])) | (refine AGet.have' (by assumption) ?_; (try simp only [go_sem])) | (refine AGet.nth (by (first | omega | exact List.length_pos_iff.2 (by assumption) | (simp only [List.length_append, List.length_cons, List.length_nil, List.length_map, List.length_take, List.length_drop] at *; omega) | (rw [wrap64_id (by omega) (by omega)]; omega) | (simp; done))) (fun b hb => ?_); (try simp only [hb, go_sem])) | (refine AGet.nth1 (by (first | omega | exact List.length_pos_iff.2 (by assumption) | (simp only [List.length_append, List.length_cons, List.length_nil, List.length_map, List.length_take, List.length_drop] at *; omega) | (rw [wrap64_id (by omega) (by omega)]; omega) | (simp; done))) (fun b hb => ?_); (try simp only [hb, go_sem])) | ((with_reducible refine And.intro ?_ ?_); focus ((first | omega | exact List.length_pos_iff.2 (by assumption) | (simp only [List.length_append, List.length_cons, List.length_nil, List.length_map, List.length_take, List.length_drop] at *; omega) | (rw [wrap64_id (by omega) (by omega)]; omega) | (simp; done)))))
      refine hK6 _ ?_; clear hK6 K6
      refine AWP.block ?_ -- 0
      refine AWP.loopH (ι := Nat) [4, 11, 12, 13, 14, 15, 16, 17, 18, 19, 20, 21, 22, 23, 24, 25] (fun (i : Nat) => [(5, i64 i)]) (fun (i : Nat) => i ≤ a.length ∧ a.take i = b.take i) (fun (i : Nat) => a.length - i) (0) ?_ ?_ ?_
      · (try simp only [go_sem]); try (simp; done)
      · exact ⟨by omega, by simp⟩
      rintro i ⟨h1, h2⟩
      simp only [go_sem]
      refine AWP.seqk fun K7 hK7 => ?_
      refine AWP.seqk fun K8 hK8 => ?_
      refine AWP.region ?_
      simp only [go_sem] -- region 4
      repeat' (first | (refine AGet.haveM (by assumption) ?_; (try simp only [go_sem])) | (refine AGet.have' (by assumption) ?_; (try simp only [go_sem])) | (refine AGet.nth (by (first | omega | exact List.length_pos_iff.2 (by assumption) | (simp only [List.length_append, List.length_cons, List.length_nil, List.length_map, List.length_take, List.length_drop] at *; omega) | (rw [wrap64_id (by omega) (by omega)]; omega) | (simp; done))) (fun b hb => ?_); (try simp only [hb, go_sem])) | (refine AGet.nth1 (by (first | omega | exact List.length_pos_iff.2 (by assumption) | (simp only [List.length_append, List.length_cons, List.length_nil, List.length_map, List.length_take, List.length_drop] at *; omega) | (rw [wrap64_id (by omega) (by omega)]; omega) | (simp; done))) (fun b hb => ?_); (try simp only [hb, go_sem])) | ((with_reducible refine And.intro ?_ ?_); focus ((first | omega | exact List.length_pos_iff.2 (by assumption) | (simp only [List.length_append, List.length_cons, List.length_nil, List.length_map, List.length_take, List.length_drop] at *; omega) | (rw [wrap64_id (by omega) (by omega)]; omega) | (simp; done)))))
      refine hK8 _ ?_; clear hK8 K8
      refine AWP.cond rfl (fun c14 => ?_) (fun c14 => ?_)
      · first | exact Bool.noConfusion c14 | (
          try simp only [decide_eq_true_eq, decide_eq_false_iff_not, Bool.not_eq_true', Bool.not_eq_false', Bool.or_eq_true, Bool.and_eq_true, Bool.or_eq_false_iff, Bool.and_eq_false_imp, Bool.not_true, Bool.not_false, Bool.true_eq_false, Bool.false_eq_true, ne_eq] at c14
          refine AWP.skip ?_
          refine hK7 _ ?_; clear hK7 K7
          refine AWP.seqk fun K9 hK9 => ?_
          refine AWP.block ?_ -- 1
          refine AWP.seqk fun K10 hK10 => ?_
          refine AWP.regionAs [0, 1, 2, 3, 4, 5, 6, 7, 8] [[], [], [0, 1], [0, 1, 2], [], [], [4, 5], [4, 5, 6], [0, 1, 2, 3, 4, 5, 6, 7]] [] (by kernel_rfl) (by kernel_rfl) (by decide) rfl ?_
          simp only [go_sem] -- region 6
          repeat' (first | (refine AGet.haveM (by assumption) ?_; (try simp only [go_sem])) | (refine AGet.have' (by assumption) ?_; (try simp only [go_sem])) | (refine AGet.nth (by (first | omega | exact List.length_pos_iff.2 (by assumption) | (simp only [List.length_append, List.length_cons, List.length_nil, List.length_map, List.length_take, List.length_drop] at *; omega) | (rw [wrap64_id (by omega) (by omega)]; omega) | (simp; done))) (fun b hb => ?_); (try simp only [hb, go_sem])) | (refine AGet.nth1 (by (first | omega | exact List.length_pos_iff.2 (by assumption) | (simp only [List.length_append, List.length_cons, List.length_nil, List.length_map, List.length_take, List.length_drop] at *; omega) | (rw [wrap64_id (by omega) (by omega)]; omega) | (simp; done))) (fun b hb => ?_); (try simp only [hb, go_sem])) | ((with_reducible refine And.intro ?_ ?_); focus ((first | omega | exact List.length_pos_iff.2 (by assumption) | (simp only [List.length_append, List.length_cons, List.length_nil, List.length_map, List.length_take, List.length_drop] at *; omega) | (rw [wrap64_id (by omega) (by omega)]; omega) | (simp; done)))))
          refine hK10 _ ?_; clear hK10 K10
          refine AWP.cond rfl (fun c25 => ?_) (fun c25 => ?_)
          · first | exact Bool.noConfusion c25 | (
              try simp only [decide_eq_true_eq, decide_eq_false_iff_not, Bool.not_eq_true', Bool.not_eq_false', Bool.or_eq_true, Bool.and_eq_true, Bool.or_eq_false_iff, Bool.and_eq_false_imp, Bool.not_true, Bool.not_false, Bool.true_eq_false, Bool.false_eq_true, ne_eq] at c25
              refine AWP.seqk fun K11 hK11 => ?_
              refine AWP.region ?_
              simp only [go_sem] -- region 7
              repeat' (first | (refine AGet.haveM (by assumption) ?_; (try simp only [go_sem])) | (refine AGet.have' (by assumption) ?_; (try simp only [go_sem])) | (refine AGet.nth (by (first | omega | exact List.length_pos_iff.2 (by assumption) | (simp only [List.length_append, List.length_cons, List.length_nil, List.length_map, List.length_take, List.length_drop] at *; omega) | (rw [wrap64_id (by omega) (by omega)]; omega) | (simp; done))) (fun b hb => ?_); (try simp only [hb, go_sem])) | (refine AGet.nth1 (by (first | omega | exact List.length_pos_iff.2 (by assumption) | (simp only [List.length_append, List.length_cons, List.length_nil, List.length_map, List.length_take, List.length_drop] at *; omega) | (rw [wrap64_id (by omega) (by omega)]; omega) | (simp; done))) (fun b hb => ?_); (try simp only [hb, go_sem])) | ((with_reducible refine And.intro ?_ ?_); focus ((first | omega | exact List.length_pos_iff.2 (by assumption) | (simp only [List.length_append, List.length_cons, List.length_nil, List.length_map, List.length_take, List.length_drop] at *; omega) | (rw [wrap64_id (by omega) (by omega)]; omega) | (simp; done)))))
              refine hK11 _ ?_; clear hK11 K11
              refine AWP.ret ?_
              simp only [go_sem]
              clear hK9 K9 hK5 K5
              first
              | exact ⟨[], .v _, rfl, rfl, congrArg bl (same_no1 c10).symm, rfl⟩
              | exact ⟨[], .v _, rfl, rfl, congrArg bl (same_no2 (by assumption) hb c25).symm, rfl⟩
              | exact ⟨[], .v _, rfl, rfl, congrArg bl (same_yes c10 c14 h2).symm, rfl⟩)
          · first | exact Bool.noConfusion c25 | (
              try simp only [decide_eq_true_eq, decide_eq_false_iff_not, Bool.not_eq_true', Bool.not_eq_false', Bool.or_eq_true, Bool.and_eq_true, Bool.or_eq_false_iff, Bool.and_eq_false_imp, Bool.not_true, Bool.not_false, Bool.true_eq_false, Bool.false_eq_true, ne_eq] at c25
              refine AWP.skip ?_
              refine hK9 _ ?_; clear hK9 K9
              refine AWP.region ?_
              simp only [go_sem] -- region 5
              repeat' (first | (refine AGet.haveM (by assumption) ?_; (try simp only [go_sem])) | (refine AGet.have' (by assumption) ?_; (try simp only [go_sem])) | (refine AGet.nth (by (first | omega | exact List.length_pos_iff.2 (by assumption) | (simp only [List.length_append, List.length_cons, List.length_nil, List.length_map, List.length_take, List.length_drop] at *; omega) | (rw [wrap64_id (by omega) (by omega)]; omega) | (simp; done))) (fun b hb => ?_); (try simp only [hb, go_sem])) | (refine AGet.nth1 (by (first | omega | exact List.length_pos_iff.2 (by assumption) | (simp only [List.length_append, List.length_cons, List.length_nil, List.length_map, List.length_take, List.length_drop] at *; omega) | (rw [wrap64_id (by omega) (by omega)]; omega) | (simp; done))) (fun b hb => ?_); (try simp only [hb, go_sem])) | ((with_reducible refine And.intro ?_ ?_); focus ((first | omega | exact List.length_pos_iff.2 (by assumption) | (simp only [List.length_append, List.length_cons, List.length_nil, List.length_map, List.length_take, List.length_drop] at *; omega) | (rw [wrap64_id (by omega) (by omega)]; omega) | (simp; done)))))
              clear hK5 K5
              refine ⟨i + 1, ?_, ?_, ?_⟩
              · (try simp only [go_sem]); (try rw [wrap64_id (by omega) (by omega)]); simp
              · exact ⟨by omega, same_next (by assumption) hb c25 h2⟩
              · omega))
      · first | exact Bool.noConfusion c14 | (
          try simp only [decide_eq_true_eq, decide_eq_false_iff_not, Bool.not_eq_true', Bool.not_eq_false', Bool.or_eq_true, Bool.and_eq_true, Bool.or_eq_false_iff, Bool.and_eq_false_imp, Bool.not_true, Bool.not_false, Bool.true_eq_false, Bool.false_eq_true, ne_eq] at c14
          refine AWP.exit ?_
          simp only [go_sem]
          clear hK7 K7
          refine hK5 _ ?_; clear hK5 K5
          refine AWP.seqk fun K12 hK12 => ?_
          refine AWP.region ?_
          simp only [go_sem] -- region 8
          repeat' (first | (refine AGet.haveM (by assumption) ?_; (try simp only [go_sem])) | (refine AGet.have' (by assumption) ?_; (try simp only [go_sem])) | (refine AGet.nth (by (first | omega | exact List.length_pos_iff.2 (by assumption) | (simp only [List.length_append, List.length_cons, List.length_nil, List.length_map, List.length_take, List.length_drop] at *; omega) | (rw [wrap64_id (by omega) (by omega)]; omega) | (simp; done))) (fun b hb => ?_); (try simp only [hb, go_sem])) | (refine AGet.nth1 (by (first | omega | exact List.length_pos_iff.2 (by assumption) | (simp only [List.length_append, List.length_cons, List.length_nil, List.length_map, List.length_take, List.length_drop] at *; omega) | (rw [wrap64_id (by omega) (by omega)]; omega) | (simp; done))) (fun b hb => ?_); (try simp only [hb, go_sem])) | ((with_reducible refine And.intro ?_ ?_); focus ((first | omega | exact List.length_pos_iff.2 (by assumption) | (simp only [List.length_append, List.length_cons, List.length_nil, List.length_map, List.length_take, List.length_drop] at *; omega) | (rw [wrap64_id (by omega) (by omega)]; omega) | (simp; done)))))
          refine hK12 _ ?_; clear hK12 K12
          refine AWP.ret ?_
          simp only [go_sem]
          first
          | exact ⟨[], .v _, rfl, rfl, congrArg bl (same_no1 c10).symm, rfl⟩
          | exact ⟨[], .v _, rfl, rfl, congrArg bl (same_no2 (by assumption) hb c25).symm, rfl⟩
          | exact ⟨[], .v _, rfl, rfl, congrArg bl (same_yes c10 c14 h2).symm, rfl⟩))


theorem r2short_c (l : List Fld.Fd) (hl : l.length ≤ 9223372036854775807) : ACalls E 17 [fldsV l] (fun r t => r = bl (shortF l) ∧ t = []) := by -- checkroll/checkrollref02.Short
  refine ACalls.of_awp (n := 20) (rs := [.tmp 2]) Tryd.func17 rfl Tryd.ntmps17 rfl ?_
  refine AWP.seqk fun K1 hK1 => ?_
  refine AWP.region ?_
  simp only [go_sem] -- region 0
  repeat' (first | (refine AGet.haveM (by assumption) ?_; (try simp only [go_sem])) | (refine AGet.have' (by assumption) ?_; (try simp only [go_sem])) | (refine AGet.nth (by (first | omega | exact List.length_pos_iff.2 (by assumption) | (simp only [List.length_append, List.length_cons, List.length_nil, List.length_map, List.length_take, List.length_drop] at *; omega) | (rw [wrap64_id (by omega) (by omega)]; omega) | (simp; done))) (fun b hb => ?_); (try simp only [hb, go_sem])) | (refine AGet.nth1 (by (first | omega | exact List.length_pos_iff.2 (by assumption) | (simp only [List.length_append, List.length_cons, List.length_nil, List.length_map, List.length_take, List.length_drop] at *; omega) | (rw [wrap64_id (by omega) (by omega)]; omega) | (simp; done))) (fun b hb => ?_); (try simp only [hb, go_sem])) | ((with_reducible refine And.intro ?_ ?_); focus ((first | omega | exact List.length_pos_iff.2 (by assumption) | (simp only [List.length_append, List.length_cons, List.length_nil, List.length_map, List.length_take, List.length_drop] at *; omega) | (rw [wrap64_id (by omega) (by omega)]; omega) | (simp; done)))))
  refine hK1 _ ?_; clear hK1 K1
  refine AWP.seqk fun K2 hK2 => ?_
  refine AWP.seqk fun K3 hK3 => ?_
  refine AWP.region ?_
  simp only [go_sem] -- region 1
  repeat' (first | (refine AGet.haveM (by assumption) ?_; (try simp only [go_sem])) | (refine AGet.have' (by assumption) ?_; (try simp only [go_sem])) | (refine AGet.nth (by (first | omega | exact List.length_pos_iff.2 (by assumption) | (simp only [List.length_append, List.length_cons, List.length_nil, List.length_map, List.length_take, List.length_drop] at *; omega) | (rw [wrap64_id (by omega) (by omega)]; omega) | (simp; done))) (fun b hb => ?_); (try simp only [hb, go_sem])) | (refine AGet.nth1 (by (first | omega | exact List.length_pos_iff.2 (by assumption) | (simp only [List.length_append, List.length_cons, List.length_nil, List.length_map, List.length_take, List.length_drop] at *; omega) | (rw [wrap64_id (by omega) (by omega)]; omega) | (simp; done))) (fun b hb => ?_); (try simp only [hb, go_sem])) | ((with_reducible refine And.intro ?_ ?_); focus ((first | omega | exact List.length_pos_iff.2 (by assumption) | (simp only [List.length_append, List.length_cons, List.length_nil, List.length_map, List.length_take, List.length_drop] at *; omega) | (rw [wrap64_id (by omega) (by omega)]; omega) | (simp; done)))))
  refine hK3 _ ?_; clear hK3 K3
  refine AWP.cond rfl (fun c6 => ?_) (fun c6 => ?_)
  · first | exact Bool.noConfusion c6 | (
      try simp only [decide_eq_true_eq, decide_eq_false_iff_not, Bool.not_eq_true', Bool.not_eq_false', Bool.or_eq_true, Bool.and_eq_true, Bool.or_eq_false_iff, Bool.and_eq_false_imp, Bool.not_true, Bool.not_false, Bool.true_eq_false, Bool.false_eq_true, ne_eq] at c6
      refine AWP.seqk fun K4 hK4 => ?_
      refine AWP.region ?_
      simp only [go_sem] -- region 2
      repeat' (first | (refine AGet.haveM (by assumption) ?_; (try simp only [go_sem])) | (refine AGet.have' (by assumption) ?_; (try simp only [go_sem])) | (refine AGet.nth (by (first | omega | exact List.length_pos_iff.2 (by assumption) | (simp only [List.length_append, List.length_cons, List.length_nil, List.length_map, List.length_take, List.length_drop] at *; omega) | (rw [wrap64_id (by omega) (by omega)]; omega) | (simp; done))) (fun b hb => ?_); (try simp only [hb, go_sem])) | (refine AGet.nth1 (by (first | omega | exact List.length_pos_iff.2 (by assumption) | (simp only [List.length_append, List.length_cons, List.length_nil, List.length_map, List.length_take, List.length_drop] at *; omega) | (rw [wrap64_id (by omega) (by omega)]; omega) | (simp; done))) (fun b hb => ?_); (try simp only [hb, go_sem])) | ((with_reducible refine And.intro ?_ ?_); focus ((first | omega | exact List.length_pos_iff.2 (by assumption) | (simp only [List.length_append, List.length_cons, List.length_nil, List.length_map, List.length_take, List.length_drop] at *; omega) | (rw [wrap64_id (by omega) (by omega)]; omega) | (simp; done)))))
      refine hK4 _ ?_; clear hK4 K4
      refine AWP.ret ?_
      simp only [go_sem]
      clear hK2 K2
      first
      | exact ⟨[], .v _, rfl, rfl, congrArg bl (short_no1 (by omega)).symm, rfl⟩
      | exact ⟨[], .v _, rfl, rfl, congrArg bl (short_no2 hb (by omega)).symm, rfl⟩
      | exact ⟨[], .v _, rfl, rfl, congrArg bl (short_yes (by omega) (by omega) h2).symm, rfl⟩)
  · first | exact Bool.noConfusion c6 | (
      try simp only [decide_eq_true_eq, decide_eq_false_iff_not, Bool.not_eq_true', Bool.not_eq_false', Bool.or_eq_true, Bool.and_eq_true, Bool.or_eq_false_iff, Bool.and_eq_false_imp, Bool.not_true, Bool.not_false, Bool.true_eq_false, Bool.false_eq_true, ne_eq] at c6
      refine AWP.skip ?_
      refine hK2 _ ?_; clear hK2 K2
      refine AWP.seqk fun K5 hK5 => ?_
      refine AWP.seqk fun K6 hK6 => ?_
      refine AWP.region ?_
      simp only [go_sem] -- region 3
      repeat' (first | (refine AGet.haveM (by assumption) ?_; (try simp only [go_sem])) | (refine AGet.have' (by assumption) ?_; (try simp only [go_sem])) | (refine AGet.nth (by (first | omega | exact List.length_pos_iff.2 (by assumption) | (simp only [List.length_append, List.length_cons, List.length_nil, List.length_map, List.length_take, List.length_drop] at *; omega) | (rw [wrap64_id (by omega) (by omega)]; omega) | (simp; done))) (fun b hb => ?_); (try simp only [hb, go_sem])) | (refine AGet.nth1 (by (first | omega | exact List.length_pos_iff.2 (by assumption) | (simp only [List.length_append, List.length_cons, List.length_nil, List.length_map, List.length_take, List.length_drop] at *; omega) | (rw [wrap64_id (by omega) (by omega)]; omega) | (simp; done))) (fun b hb => ?_); (try simp only [hb, go_sem])) | ((with_reducible refine And.intro ?_ ?_); focus ((first | omega | exact List.length_pos_iff.2 (by assumption) | (simp only [List.length_append, List.length_cons, List.length_nil, List.length_map, List.length_take, List.length_drop] at *; omega) | (rw [wrap64_id (by omega) (by omega)]; omega) | (simp; done)))))
      refine hK6 _ ?_; clear hK6 K6
      refine AWP.block ?_ -- 0
      refine AWP.loopH (ι := Nat) [2, 7, 8, 9, 10, 11, 12, 13, 14, 15, 16, 17, 18, 19] (fun (i : Nat) => [(3, i64 i)]) (fun (i : Nat) => i ≤ l.length ∧ (l.take i).all (fun f => decide (f.2.length ≤ 300)) = true) (fun (i : Nat) => l.length - i) (0) ?_ ?_ ?_
      · (try simp only [go_sem]); try (simp; done)
      · exact ⟨by omega, by simp⟩
      rintro i ⟨h1, h2⟩
      simp only [go_sem]
      refine AWP.seqk fun K7 hK7 => ?_
      refine AWP.seqk fun K8 hK8 => ?_
      refine AWP.region ?_
      simp only [go_sem] -- region 4
      repeat' (first | (refine AGet.haveM (by assumption) ?_; (try simp only [go_sem])) | (refine AGet.have' (by assumption) ?_; (try simp only [go_sem])) | (refine AGet.nth (by (first | omega | exact List.length_pos_iff.2 (by assumption) | (simp only [List.length_append, List.length_cons, List.length_nil, List.length_map, List.length_take, List.length_drop] at *; omega) | (rw [wrap64_id (by omega) (by omega)]; omega) | (simp; done))) (fun b hb => ?_); (try simp only [hb, go_sem])) | (refine AGet.nth1 (by (first | omega | exact List.length_pos_iff.2 (by assumption) | (simp only [List.length_append, List.length_cons, List.length_nil, List.length_map, List.length_take, List.length_drop] at *; omega) | (rw [wrap64_id (by omega) (by omega)]; omega) | (simp; done))) (fun b hb => ?_); (try simp only [hb, go_sem])) | ((with_reducible refine And.intro ?_ ?_); focus ((first | omega | exact List.length_pos_iff.2 (by assumption) | (simp only [List.length_append, List.length_cons, List.length_nil, List.length_map, List.length_take, List.length_drop] at *; omega) | (rw [wrap64_id (by omega) (by omega)]; omega) | (simp; done)))))
      refine hK8 _ ?_; clear hK8 K8
      refine AWP.cond rfl (fun c10 => ?_) (fun c10 => ?_)
      · first | exact Bool.noConfusion c10 | (
          try simp only [decide_eq_true_eq, decide_eq_false_iff_not, Bool.not_eq_true', Bool.not_eq_false', Bool.or_eq_true, Bool.and_eq_true, Bool.or_eq_false_iff, Bool.and_eq_false_imp, Bool.not_true, Bool.not_false, Bool.true_eq_false, Bool.false_eq_true, ne_eq] at c10
          refine AWP.skip ?_
          refine hK7 _ ?_; clear hK7 K7
          refine AWP.seqk fun K9 hK9 => ?_
          refine AWP.block ?_ -- 1
          refine AWP.seqk fun K10 hK10 => ?_
          refine AWP.region ?_
          simp only [go_sem] -- region 6
          repeat' (first | (refine AGet.haveM (by assumption) ?_; (try simp only [go_sem])) | (refine AGet.have' (by assumption) ?_; (try simp only [go_sem])) | (refine AGet.nth (by (first | omega | exact List.length_pos_iff.2 (by assumption) | (simp only [List.length_append, List.length_cons, List.length_nil, List.length_map, List.length_take, List.length_drop] at *; omega) | (rw [wrap64_id (by omega) (by omega)]; omega) | (simp; done))) (fun b hb => ?_); (try simp only [hb, go_sem])) | (refine AGet.nth1 (by (first | omega | exact List.length_pos_iff.2 (by assumption) | (simp only [List.length_append, List.length_cons, List.length_nil, List.length_map, List.length_take, List.length_drop] at *; omega) | (rw [wrap64_id (by omega) (by omega)]; omega) | (simp; done))) (fun b hb => ?_); (try simp only [hb, go_sem])) | ((with_reducible refine And.intro ?_ ?_); focus ((first | omega | exact List.length_pos_iff.2 (by assumption) | (simp only [List.length_append, List.length_cons, List.length_nil, List.length_map, List.length_take, List.length_drop] at *; omega) | (rw [wrap64_id (by omega) (by omega)]; omega) | (simp; done)))))
          refine hK10 _ ?_; clear hK10 K10
          refine AWP.cond rfl (fun c19 => ?_) (fun c19 => ?_)
          · first | exact Bool.noConfusion c19 | (
              try simp only [decide_eq_true_eq, decide_eq_false_iff_not, Bool.not_eq_true', Bool.not_eq_false', Bool.or_eq_true, Bool.and_eq_true, Bool.or_eq_false_iff, Bool.and_eq_false_imp, Bool.not_true, Bool.not_false, Bool.true_eq_false, Bool.false_eq_true, ne_eq] at c19
              refine AWP.seqk fun K11 hK11 => ?_
              refine AWP.region ?_
              simp only [go_sem] -- region 7
              repeat' (first | (refine AGet.haveM (by assumption) ?_; (try simp only [go_sem])) | (refine AGet.have' (by assumption) ?_; (try simp only [go_sem])) | (refine AGet.nth (by (first | omega | exact List.length_pos_iff.2 (by assumption) | (simp only [List.length_append, List.length_cons, List.length_nil, List.length_map, List.length_take, List.length_drop] at *; omega) | (rw [wrap64_id (by omega) (by omega)]; omega) | (simp; done))) (fun b hb => ?_); (try simp only [hb, go_sem])) | (refine AGet.nth1 (by (first | omega | exact List.length_pos_iff.2 (by assumption) | (simp only [List.length_append, List.length_cons, List.length_nil, List.length_map, List.length_take, List.length_drop] at *; omega) | (rw [wrap64_id (by omega) (by omega)]; omega) | (simp; done))) (fun b hb => ?_); (try simp only [hb, go_sem])) | ((with_reducible refine And.intro ?_ ?_); focus ((first | omega | exact List.length_pos_iff.2 (by assumption) | (simp only [List.length_append, List.length_cons, List.length_nil, List.length_map, List.length_take, List.length_drop] at *; omega) | (rw [wrap64_id (by omega) (by omega)]; omega) | (simp; done)))))
              refine hK11 _ ?_; clear hK11 K11
              refine AWP.ret ?_
              simp only [go_sem]
              clear hK9 K9 hK5 K5
              first
              | exact ⟨[], .v _, rfl, rfl, congrArg bl (short_no1 (by omega)).symm, rfl⟩
              | exact ⟨[], .v _, rfl, rfl, congrArg bl (short_no2 hb (by omega)).symm, rfl⟩
              | exact ⟨[], .v _, rfl, rfl, congrArg bl (short_yes (by omega) (by omega) h2).symm, rfl⟩)
          · first | exact Bool.noConfusion c19 | (
              try simp only [decide_eq_true_eq, decide_eq_false_iff_not, Bool.not_eq_true', Bool.not_eq_false', Bool.or_eq_true, Bool.and_eq_true, Bool.or_eq_false_iff, Bool.and_eq_false_imp, Bool.not_true, Bool.not_false, Bool.true_eq_false, Bool.false_eq_true, ne_eq] at c19
              refine AWP.skip ?_
              refine hK9 _ ?_; clear hK9 K9
              refine AWP.region ?_
              simp only [go_sem] -- region 5
              repeat' (first | (refine AGet.haveM (by assumption) ?_; (try simp only [go_sem])) | (refine AGet.have' (by assumption) ?_; (try simp only [go_sem])) | (refine AGet.nth (by (first | omega | exact List.length_pos_iff.2 (by assumption) | (simp only [List.length_append, List.length_cons, List.length_nil, List.length_map, List.length_take, List.length_drop] at *; omega) | (rw [wrap64_id (by omega) (by omega)]; omega) | (simp; done))) (fun b hb => ?_); (try simp only [hb, go_sem])) | (refine AGet.nth1 (by (first | omega | exact List.length_pos_iff.2 (by assumption) | (simp only [List.length_append, List.length_cons, List.length_nil, List.length_map, List.length_take, List.length_drop] at *; omega) | (rw [wrap64_id (by omega) (by omega)]; omega) | (simp; done))) (fun b hb => ?_); (try simp only [hb, go_sem])) | ((with_reducible refine And.intro ?_ ?_); focus ((first | omega | exact List.length_pos_iff.2 (by assumption) | (simp only [List.length_append, List.length_cons, List.length_nil, List.length_map, List.length_take, List.length_drop] at *; omega) | (rw [wrap64_id (by omega) (by omega)]; omega) | (simp; done)))))
              clear hK5 K5
              refine ⟨i + 1, ?_, ?_, ?_⟩
              · (try simp only [go_sem]); (try rw [wrap64_id (by omega) (by omega)]); simp
              · exact ⟨by omega, by rw [take_next hb, List.all_append, h2]; simp; omega⟩
              · omega))
      · first | exact Bool.noConfusion c10 | (
          try simp only [decide_eq_true_eq, decide_eq_false_iff_not, Bool.not_eq_true', Bool.not_eq_false', Bool.or_eq_true, Bool.and_eq_true, Bool.or_eq_false_iff, Bool.and_eq_false_imp, Bool.not_true, Bool.not_false, Bool.true_eq_false, Bool.false_eq_true, ne_eq] at c10
          refine AWP.exit ?_
          simp only [go_sem]
          clear hK7 K7
          refine hK5 _ ?_; clear hK5 K5
          refine AWP.seqk fun K12 hK12 => ?_
          refine AWP.region ?_
          simp only [go_sem] -- region 8
          repeat' (first | (refine AGet.haveM (by assumption) ?_; (try simp only [go_sem])) | (refine AGet.have' (by assumption) ?_; (try simp only [go_sem])) | (refine AGet.nth (by (first | omega | exact List.length_pos_iff.2 (by assumption) | (simp only [List.length_append, List.length_cons, List.length_nil, List.length_map, List.length_take, List.length_drop] at *; omega) | (rw [wrap64_id (by omega) (by omega)]; omega) | (simp; done))) (fun b hb => ?_); (try simp only [hb, go_sem])) | (refine AGet.nth1 (by (first | omega | exact List.length_pos_iff.2 (by assumption) | (simp only [List.length_append, List.length_cons, List.length_nil, List.length_map, List.length_take, List.length_drop] at *; omega) | (rw [wrap64_id (by omega) (by omega)]; omega) | (simp; done))) (fun b hb => ?_); (try simp only [hb, go_sem])) | ((with_reducible refine And.intro ?_ ?_); focus ((first | omega | exact List.length_pos_iff.2 (by assumption) | (simp only [List.length_append, List.length_cons, List.length_nil, List.length_map, List.length_take, List.length_drop] at *; omega) | (rw [wrap64_id (by omega) (by omega)]; omega) | (simp; done)))))
          refine hK12 _ ?_; clear hK12 K12
          refine AWP.ret ?_
          simp only [go_sem]
          first
          | exact ⟨[], .v _, rfl, rfl, congrArg bl (short_no1 (by omega)).symm, rfl⟩
          | exact ⟨[], .v _, rfl, rfl, congrArg bl (short_no2 hb (by omega)).symm, rfl⟩
          | exact ⟨[], .v _, rfl, rfl, congrArg bl (short_yes (by omega) (by omega) h2).symm, rfl⟩))


end Go.Proofs.YtgiomlgkccjhfaaDoor
