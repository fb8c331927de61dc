import Derived.Test.YtlhdnenlgceeeaaN3
set_option linter.unusedVariables false
set_option linter.unusedSimpArgs false
namespace Go.Proofs.Ytlhdnenlgceeeaa
open Go Go.Abs Go.RowKit Go.Bk


set_option maxHeartbeats 4000000 in
set_option maxRecDepth 8000 in
theorem oclose_c (l : List Od) (id : Bs) (hl : l.length ≤ 1000000) : ACalls E 103 [odsV l, str id] (fun r t => (∃ x, r = .tup [x, i64 (closeO l id).2] ∧ ((closeO l id).2 = 0 → x = odsV (closeO l id).1)) ∧ t = []) := by -- checkroll/order.Close
  refine ACalls.of_awp (n := 24) (rs := [.tmp 4, .tmp 5]) Try.func103 rfl Try.ntmps103 rfl ?_
  refine AWP.seqk fun K1 hK1 => ?_
  refine AWP.region ?_
  simp only [go_sem] -- region 0
  repeat' (first | (refine AGet.haveM (by assumption) ?_; (try simp only [go_sem])) | (refine AGet.have' (by assumption) ?_; (try simp only [go_sem])) | ((first | refine AGet.nth ?_ (fun b hb => ?_) | refine AGet.nth1 ?_ (fun b hb => ?_) | with_reducible refine And.intro ?_ ?_); (focus ((first | omega | exact List.length_pos_iff.2 (by assumption) | (simp only [List.length_append, List.length_cons, List.length_nil, List.length_map, List.length_take, List.length_drop] at *; omega) | (rw [wrap64_id (by omega) (by omega)]; omega) | (simp; done)))); (try simp only [hb, go_sem])))
  refine hK1 _ ?_; clear hK1 K1
  refine AWP.seqk fun K2 hK2 => ?_
  refine AWP.region ?_
  simp only [go_sem] -- region 1
  repeat' (first | (refine ACall.take (oclone_c l hl) (by kernel_rfl) rfl (.cons (.one (.clean rfl)) .nil) ?_; rintro r t ⟨rfl, rfl⟩; refine ⟨0, 8, _, rfl, by simp, pl_od _, fun m => ?_⟩; simp only [go_sem, List.length_map]) | (refine ACall.of (oclone_c _ (by omega)) (by kernel_rfl) rfl ?_; rintro r t ⟨rfl, rfl⟩ <;> simp only [go_sem]) | (refine AGet.haveM (by assumption) ?_; (try simp only [go_sem])) | (refine AGet.have' (by assumption) ?_; (try simp only [go_sem])) | ((first | refine AGet.nth ?_ (fun b hb => ?_) | refine AGet.nth1 ?_ (fun b hb => ?_) | with_reducible refine And.intro ?_ ?_); (focus ((first | omega | exact List.length_pos_iff.2 (by assumption) | (simp only [List.length_append, List.length_cons, List.length_nil, List.length_map, List.length_take, List.length_drop] at *; omega) | (rw [wrap64_id (by omega) (by omega)]; omega) | (simp; done)))); (try simp only [hb, go_sem])))
  refine hK2 _ ?_; clear hK2 K2
  refine AWP.seqk fun K3 hK3 => ?_
  refine AWP.seqk fun K4 hK4 => ?_
  refine AWP.region ?_
  simp only [go_sem] -- region 2
  repeat' (first | (refine ACall.snapOne (oright_c l (by omega)) (by kernel_rfl) rfl (.cons (.one (.mu' rfl (by simp) (cl_od l))) .nil) ?_; simp only [go_sem]) | (refine ACall.one (oright_c _ (by omega)) (by kernel_rfl) rfl ?_; simp only [go_sem]) | (refine AGet.haveM (by assumption) ?_; (try simp only [go_sem])) | (refine AGet.have' (by assumption) ?_; (try simp only [go_sem])) | ((first | refine AGet.nth ?_ (fun b hb => ?_) | refine AGet.nth1 ?_ (fun b hb => ?_) | with_reducible refine And.intro ?_ ?_); (focus ((first | omega | exact List.length_pos_iff.2 (by assumption) | (simp only [List.length_append, List.length_cons, List.length_nil, List.length_map, List.length_take, List.length_drop] at *; omega) | (rw [wrap64_id (by omega) (by omega)]; omega) | (simp; done)))); (try simp only [hb, go_sem])))
  refine hK4 _ ?_; clear hK4 K4
  refine AWP.cond rfl (fun c11 => ?_) (fun c11 => ?_)
  · first | exact Bool.noConfusion c11 | (
      try simp only [dD] at c11
      refine AWP.seqk fun K5 hK5 => ?_
      refine AWP.region ?_
      simp only [go_sem] -- region 3
      repeat' (first | (refine AGet.haveM (by assumption) ?_; (try simp only [go_sem])) | (refine AGet.have' (by assumption) ?_; (try simp only [go_sem])) | ((first | refine AGet.nth ?_ (fun b hb => ?_) | refine AGet.nth1 ?_ (fun b hb => ?_) | with_reducible refine And.intro ?_ ?_); (focus ((first | omega | exact List.length_pos_iff.2 (by assumption) | (simp only [List.length_append, List.length_cons, List.length_nil, List.length_map, List.length_take, List.length_drop] at *; omega) | (rw [wrap64_id (by omega) (by omega)]; omega) | (simp; done)))); (try simp only [hb, go_sem])))
      refine hK5 _ ?_; clear hK5 K5
      refine AWP.ret ?_
      try simp only [go_sem]
      clear hK3 K3
      first
      | exact ⟨[], .tup [.any, .v _], rfl, ⟨trivial, rfl, trivial⟩, res_err (close_e1 (by assumption)) (by decide), rfl⟩
      | exact ⟨[], .tup [.any, .v _], rfl, ⟨trivial, rfl, trivial⟩, res_err (close_e6 (by assumption) (open_none (by assumption))) (by decide), rfl⟩
      | exact ⟨[], .tup [.sl none 8 _, .v _], rfl, ⟨⟨rfl, rfl⟩, rfl, trivial⟩, res_ok (close_ok (by assumption) e2 hb), rfl⟩
      | skip)
  · first | exact Bool.noConfusion c11 | (
      try simp only [dD] at c11
      refine AWP.skip ?_
      refine hK3 _ ?_; clear hK3 K3
      refine AWP.seqk fun K6 hK6 => ?_
      refine AWP.region ?_
      simp only [go_sem] -- region 4
      repeat' (first | (refine ACall.snapOne (oopen_c l _ (by omega)) (by kernel_rfl) rfl (.cons (.one (.mu' rfl (by simp) (cl_od l))) (.cons (.one (.clean rfl)) .nil)) ?_; simp only [go_sem]) | (refine ACall.one (oopen_c _ _ (by omega)) (by kernel_rfl) rfl ?_; simp only [go_sem]) | (refine AGet.haveM (by assumption) ?_; (try simp only [go_sem])) | (refine AGet.have' (by assumption) ?_; (try simp only [go_sem])) | ((first | refine AGet.nth ?_ (fun b hb => ?_) | refine AGet.nth1 ?_ (fun b hb => ?_) | with_reducible refine And.intro ?_ ?_); (focus ((first | omega | exact List.length_pos_iff.2 (by assumption) | (simp only [List.length_append, List.length_cons, List.length_nil, List.length_map, List.length_take, List.length_drop] at *; omega) | (rw [wrap64_id (by omega) (by omega)]; omega) | (simp; done)))); (try simp only [hb, go_sem])))
      refine hK6 _ ?_; clear hK6 K6
      refine AWP.seqk fun K7 hK7 => ?_
      refine AWP.seqk fun K8 hK8 => ?_
      refine AWP.region ?_
      simp only [go_sem] -- region 5
      repeat' (first | (refine AGet.haveM (by assumption) ?_; (try simp only [go_sem])) | (refine AGet.have' (by assumption) ?_; (try simp only [go_sem])) | ((first | refine AGet.nth ?_ (fun b hb => ?_) | refine AGet.nth1 ?_ (fun b hb => ?_) | with_reducible refine And.intro ?_ ?_); (focus ((first | omega | exact List.length_pos_iff.2 (by assumption) | (simp only [List.length_append, List.length_cons, List.length_nil, List.length_map, List.length_take, List.length_drop] at *; omega) | (rw [wrap64_id (by omega) (by omega)]; omega) | (simp; done)))); (try simp only [hb, go_sem])))
      refine hK8 _ ?_; clear hK8 K8
      refine AWP.cond rfl (fun c17 => ?_) (fun c17 => ?_)
      · first | exact Bool.noConfusion c17 | (
          try simp only [dD] at c17
          refine AWP.seqk fun K9 hK9 => ?_
          refine AWP.region ?_
          simp only [go_sem] -- region 6
          repeat' (first | (refine AGet.haveM (by assumption) ?_; (try simp only [go_sem])) | (refine AGet.have' (by assumption) ?_; (try simp only [go_sem])) | ((first | refine AGet.nth ?_ (fun b hb => ?_) | refine AGet.nth1 ?_ (fun b hb => ?_) | with_reducible refine And.intro ?_ ?_); (focus ((first | omega | exact List.length_pos_iff.2 (by assumption) | (simp only [List.length_append, List.length_cons, List.length_nil, List.length_map, List.length_take, List.length_drop] at *; omega) | (rw [wrap64_id (by omega) (by omega)]; omega) | (simp; done)))); (try simp only [hb, go_sem])))
          refine hK9 _ ?_; clear hK9 K9
          refine AWP.ret ?_
          try simp only [go_sem]
          clear hK7 K7
          first
          | exact ⟨[], .tup [.any, .v _], rfl, ⟨trivial, rfl, trivial⟩, res_err (close_e1 (by assumption)) (by decide), rfl⟩
          | exact ⟨[], .tup [.any, .v _], rfl, ⟨trivial, rfl, trivial⟩, res_err (close_e6 (by assumption) (open_none (by assumption))) (by decide), rfl⟩
          | exact ⟨[], .tup [.sl none 8 _, .v _], rfl, ⟨⟨rfl, rfl⟩, rfl, trivial⟩, res_ok (close_ok (by assumption) e2 hb), rfl⟩
          | skip)
      · first | exact Bool.noConfusion c17 | (
          try simp only [dD] at c17
          refine AWP.skip ?_
          refine hK7 _ ?_; clear hK7 K7
          refine AWP.seqk fun K10 hK10 => ?_
          obtain ⟨n, o, e, e2, hb, ho⟩ : ∃ n o, openI l id = (n : Nat) ∧ openF l id = some n ∧ l[n]? = some o ∧ o.opn = true := by
            rcases open_cases l id with ⟨e, e2⟩ | h
            · exact absurd (show openI l id < 0 by omega) (by assumption)
            · exact h
          simp only [e]
          have hn : n < l.length := get_lt hb
          have hg := od_get hb (spare 8 m)
          refine AWP.region ?_
          simp only [go_sem, hg] -- region 7
          repeat' (first | (refine AGet.haveM (by assumption) ?_; (try simp only [go_sem, hg])) | (refine AGet.have' (by assumption) ?_; (try simp only [go_sem, hg])) | ((first | refine AGet.nth ?_ (fun b hb => ?_) | refine AGet.nth1 ?_ (fun b hb => ?_) | with_reducible refine And.intro ?_ ?_); (focus ((first | omega | exact List.length_pos_iff.2 (by assumption) | (simp only [List.length_append, List.length_cons, List.length_nil, List.length_map, List.length_take, List.length_drop] at *; omega) | (rw [wrap64_id (by omega) (by omega)]; omega) | (simp; done)))); (try simp only [hb, go_sem, hg])))
          refine hK10 _ ?_; clear hK10 K10
          refine AWP.seqk fun K11 hK11 => ?_
          refine AWP.publishN 0 0 8 l.length _ ((l.set n ⟨o.id, o.acc, o.sym, o.buy, o.qty, o.price, o.done, false⟩).map odV) (spare 8 m) rfl (congrArg (fun x => some (some x)) (od_set (o' := ⟨o.id, o.acc, o.sym, o.buy, o.qty, o.price, o.done, false⟩) hb (spare 8 m))) (by simp) (cl_od _) ?_
          simp only [go_sem]
          refine AWP.region ?_
          simp only [go_sem] -- region 8
          repeat' (first | (refine AGet.haveM (by assumption) ?_; (try simp only [go_sem])) | (refine AGet.have' (by assumption) ?_; (try simp only [go_sem])) | ((first | refine AGet.nth ?_ (fun b hb => ?_) | refine AGet.nth1 ?_ (fun b hb => ?_) | with_reducible refine And.intro ?_ ?_); (focus ((first | omega | exact List.length_pos_iff.2 (by assumption) | (simp only [List.length_append, List.length_cons, List.length_nil, List.length_map, List.length_take, List.length_drop] at *; omega) | (rw [wrap64_id (by omega) (by omega)]; omega) | (simp; done)))); (try simp only [hb, go_sem])))
          refine hK11 _ ?_; clear hK11 K11
          refine AWP.ret ?_
          try simp only [go_sem]
          first
          | exact ⟨[], .tup [.any, .v _], rfl, ⟨trivial, rfl, trivial⟩, res_err (close_e1 (by assumption)) (by decide), rfl⟩
          | exact ⟨[], .tup [.any, .v _], rfl, ⟨trivial, rfl, trivial⟩, res_err (close_e6 (by assumption) (open_none (by assumption))) (by decide), rfl⟩
          | exact ⟨[], .tup [.sl none 8 _, .v _], rfl, ⟨⟨rfl, rfl⟩, rfl, trivial⟩, res_ok (close_ok (by assumption) e2 hb), rfl⟩
          | skip))


set_option maxHeartbeats 4000000 in
set_option maxRecDepth 8000 in
theorem ofill_c (l : List Od) (id : Bs) (q p : Int) (hq : q ≤ 4611686018427387904) (hl : l.length ≤ 1000000) : ACalls E 130 [odsV l, str id, i64 q, i64 p] (fun r t => (∃ x, r = .tup [x, i64 (fillO l id q p).2] ∧ ((fillO l id q p).2 = 0 → x = odsV (fillO l id q p).1)) ∧ t = []) := by -- checkroll/order.Fill
  refine ACalls.of_awp (n := 68) (rs := [.tmp 8, .tmp 9]) Try.func130 rfl Try.ntmps130 rfl ?_
  refine AWP.seqk fun K1 hK1 => ?_
  refine AWP.region ?_
  simp only [go_sem] -- region 0
  repeat' (first | (refine AGet.haveM (by assumption) ?_; (try simp only [go_sem])) | (refine AGet.have' (by assumption) ?_; (try simp only [go_sem])) | ((first | refine AGet.nth ?_ (fun b hb => ?_) | refine AGet.nth1 ?_ (fun b hb => ?_) | with_reducible refine And.intro ?_ ?_); (focus ((first | omega | exact List.length_pos_iff.2 (by assumption) | (simp only [List.length_append, List.length_cons, List.length_nil, List.length_map, List.length_take, List.length_drop] at *; omega) | (rw [wrap64_id (by omega) (by omega)]; omega) | (simp; done)))); (try simp only [hb, go_sem])))
  refine hK1 _ ?_; clear hK1 K1
  refine AWP.seqk fun K2 hK2 => ?_
  refine AWP.region ?_
  simp only [go_sem] -- region 1
  repeat' (first | (refine ACall.take (oclone_c l hl) (by kernel_rfl) rfl (.cons (.one (.clean rfl)) .nil) ?_; rintro r t ⟨rfl, rfl⟩; refine ⟨0, 8, _, rfl, by simp, pl_od _, fun m => ?_⟩; simp only [go_sem, List.length_map]) | (refine ACall.of (oclone_c _ (by omega)) (by kernel_rfl) rfl ?_; rintro r t ⟨rfl, rfl⟩ <;> simp only [go_sem]) | (refine AGet.haveM (by assumption) ?_; (try simp only [go_sem])) | (refine AGet.have' (by assumption) ?_; (try simp only [go_sem])) | ((first | refine AGet.nth ?_ (fun b hb => ?_) | refine AGet.nth1 ?_ (fun b hb => ?_) | with_reducible refine And.intro ?_ ?_); (focus ((first | omega | exact List.length_pos_iff.2 (by assumption) | (simp only [List.length_append, List.length_cons, List.length_nil, List.length_map, List.length_take, List.length_drop] at *; omega) | (rw [wrap64_id (by omega) (by omega)]; omega) | (simp; done)))); (try simp only [hb, go_sem])))
  refine hK2 _ ?_; clear hK2 K2
  refine AWP.seqk fun K3 hK3 => ?_
  refine AWP.seqk fun K4 hK4 => ?_
  refine AWP.region ?_
  simp only [go_sem] -- region 2
  repeat' (first | (refine ACall.snapOne (oright_c l (by omega)) (by kernel_rfl) rfl (.cons (.one (.mu' rfl (by simp) (cl_od l))) .nil) ?_; simp only [go_sem]) | (refine ACall.one (oright_c _ (by omega)) (by kernel_rfl) rfl ?_; simp only [go_sem]) | (refine AGet.haveM (by assumption) ?_; (try simp only [go_sem])) | (refine AGet.have' (by assumption) ?_; (try simp only [go_sem])) | ((first | refine AGet.nth ?_ (fun b hb => ?_) | refine AGet.nth1 ?_ (fun b hb => ?_) | with_reducible refine And.intro ?_ ?_); (focus ((first | omega | exact List.length_pos_iff.2 (by assumption) | (simp only [List.length_append, List.length_cons, List.length_nil, List.length_map, List.length_take, List.length_drop] at *; omega) | (rw [wrap64_id (by omega) (by omega)]; omega) | (simp; done)))); (try simp only [hb, go_sem])))
  refine hK4 _ ?_; clear hK4 K4
  refine AWP.cond rfl (fun c15 => ?_) (fun c15 => ?_)
  · first | exact Bool.noConfusion c15 | (
      try simp only [dD] at c15
      refine AWP.seqk fun K5 hK5 => ?_
      refine AWP.region ?_
      simp only [go_sem] -- region 3
      repeat' (first | (refine AGet.haveM (by assumption) ?_; (try simp only [go_sem])) | (refine AGet.have' (by assumption) ?_; (try simp only [go_sem])) | ((first | refine AGet.nth ?_ (fun b hb => ?_) | refine AGet.nth1 ?_ (fun b hb => ?_) | with_reducible refine And.intro ?_ ?_); (focus ((first | omega | exact List.length_pos_iff.2 (by assumption) | (simp only [List.length_append, List.length_cons, List.length_nil, List.length_map, List.length_take, List.length_drop] at *; omega) | (rw [wrap64_id (by omega) (by omega)]; omega) | (simp; done)))); (try simp only [hb, go_sem])))
      refine hK5 _ ?_; clear hK5 K5
      refine AWP.ret ?_
      try simp only [go_sem]
      clear hK3 K3
      first
      | exact ⟨[], .tup [.any, .v _], rfl, ⟨trivial, rfl, trivial⟩, res_err (fill_e1 (by assumption)) (by decide), rfl⟩
      | exact ⟨[], .tup [.any, .v _], rfl, ⟨trivial, rfl, trivial⟩, res_err (fill_e6 (by assumption) (open_none (by assumption))) (by decide), rfl⟩
      | exact ⟨[], .tup [.any, .v _], rfl, ⟨trivial, rfl, trivial⟩, res_err (fill_e1' (by assumption) e2 hb (.inl (by assumption))) (by decide), rfl⟩
      | exact ⟨[], .tup [.any, .v _], rfl, ⟨trivial, rfl, trivial⟩, res_err (fill_e1' (by assumption) e2 hb (.inr (by assumption))) (by decide), rfl⟩
      | exact ⟨[], .tup [.any, .v _], rfl, ⟨trivial, rfl, trivial⟩, res_err (fill_e9 (by assumption) e2 hb (by assumption) (by assumption) (by assumption)) (by decide), rfl⟩
      | exact ⟨[], .tup [.sl none 8 _, .v _], rfl, ⟨⟨rfl, by rw [List.set_set]⟩, rfl, trivial⟩, res_ok (fill_ok (by assumption) e2 hb (by assumption) (by assumption) (by assumption)), rfl⟩
      | skip)
  · first | exact Bool.noConfusion c15 | (
      try simp only [dD] at c15
      refine AWP.skip ?_
      refine hK3 _ ?_; clear hK3 K3
      refine AWP.seqk fun K6 hK6 => ?_
      refine AWP.region ?_
      simp only [go_sem] -- region 4
      repeat' (first | (refine ACall.snapOne (oopen_c l _ (by omega)) (by kernel_rfl) rfl (.cons (.one (.mu' rfl (by simp) (cl_od l))) (.cons (.one (.clean rfl)) .nil)) ?_; simp only [go_sem]) | (refine ACall.one (oopen_c _ _ (by omega)) (by kernel_rfl) rfl ?_; simp only [go_sem]) | (refine AGet.haveM (by assumption) ?_; (try simp only [go_sem])) | (refine AGet.have' (by assumption) ?_; (try simp only [go_sem])) | ((first | refine AGet.nth ?_ (fun b hb => ?_) | refine AGet.nth1 ?_ (fun b hb => ?_) | with_reducible refine And.intro ?_ ?_); (focus ((first | omega | exact List.length_pos_iff.2 (by assumption) | (simp only [List.length_append, List.length_cons, List.length_nil, List.length_map, List.length_take, List.length_drop] at *; omega) | (rw [wrap64_id (by omega) (by omega)]; omega) | (simp; done)))); (try simp only [hb, go_sem])))
      refine hK6 _ ?_; clear hK6 K6
      refine AWP.seqk fun K7 hK7 => ?_
      refine AWP.seqk fun K8 hK8 => ?_
      refine AWP.region ?_
      simp only [go_sem] -- region 5
      repeat' (first | (refine AGet.haveM (by assumption) ?_; (try simp only [go_sem])) | (refine AGet.have' (by assumption) ?_; (try simp only [go_sem])) | ((first | refine AGet.nth ?_ (fun b hb => ?_) | refine AGet.nth1 ?_ (fun b hb => ?_) | with_reducible refine And.intro ?_ ?_); (focus ((first | omega | exact List.length_pos_iff.2 (by assumption) | (simp only [List.length_append, List.length_cons, List.length_nil, List.length_map, List.length_take, List.length_drop] at *; omega) | (rw [wrap64_id (by omega) (by omega)]; omega) | (simp; done)))); (try simp only [hb, go_sem])))
      refine hK8 _ ?_; clear hK8 K8
      refine AWP.cond rfl (fun c21 => ?_) (fun c21 => ?_)
      · first | exact Bool.noConfusion c21 | (
          try simp only [dD] at c21
          refine AWP.seqk fun K9 hK9 => ?_
          refine AWP.region ?_
          simp only [go_sem] -- region 6
          repeat' (first | (refine AGet.haveM (by assumption) ?_; (try simp only [go_sem])) | (refine AGet.have' (by assumption) ?_; (try simp only [go_sem])) | ((first | refine AGet.nth ?_ (fun b hb => ?_) | refine AGet.nth1 ?_ (fun b hb => ?_) | with_reducible refine And.intro ?_ ?_); (focus ((first | omega | exact List.length_pos_iff.2 (by assumption) | (simp only [List.length_append, List.length_cons, List.length_nil, List.length_map, List.length_take, List.length_drop] at *; omega) | (rw [wrap64_id (by omega) (by omega)]; omega) | (simp; done)))); (try simp only [hb, go_sem])))
          refine hK9 _ ?_; clear hK9 K9
          refine AWP.ret ?_
          try simp only [go_sem]
          clear hK7 K7
          first
          | exact ⟨[], .tup [.any, .v _], rfl, ⟨trivial, rfl, trivial⟩, res_err (fill_e1 (by assumption)) (by decide), rfl⟩
          | exact ⟨[], .tup [.any, .v _], rfl, ⟨trivial, rfl, trivial⟩, res_err (fill_e6 (by assumption) (open_none (by assumption))) (by decide), rfl⟩
          | exact ⟨[], .tup [.any, .v _], rfl, ⟨trivial, rfl, trivial⟩, res_err (fill_e1' (by assumption) e2 hb (.inl (by assumption))) (by decide), rfl⟩
          | exact ⟨[], .tup [.any, .v _], rfl, ⟨trivial, rfl, trivial⟩, res_err (fill_e1' (by assumption) e2 hb (.inr (by assumption))) (by decide), rfl⟩
          | exact ⟨[], .tup [.any, .v _], rfl, ⟨trivial, rfl, trivial⟩, res_err (fill_e9 (by assumption) e2 hb (by assumption) (by assumption) (by assumption)) (by decide), rfl⟩
          | exact ⟨[], .tup [.sl none 8 _, .v _], rfl, ⟨⟨rfl, by rw [List.set_set]⟩, rfl, trivial⟩, res_ok (fill_ok (by assumption) e2 hb (by assumption) (by assumption) (by assumption)), rfl⟩
          | skip)
      · first | exact Bool.noConfusion c21 | (
          try simp only [dD] at c21
          refine AWP.skip ?_
          refine hK7 _ ?_; clear hK7 K7
          refine AWP.seqk fun K10 hK10 => ?_
          refine AWP.seqk fun K11 hK11 => ?_
          obtain ⟨n, o, e, e2, hb, ho⟩ : ∃ n o, openI l id = (n : Nat) ∧ openF l id = some n ∧ l[n]? = some o ∧ o.opn = true := by
            rcases open_cases l id with ⟨e, e2⟩ | h
            · exact absurd (show openI l id < 0 by omega) (by assumption)
            · exact h
          simp only [e]
          have hn : n < l.length := get_lt hb
          have hg := od_get hb (spare 8 m)
          refine AWP.region ?_
          simp only [go_sem, hg] -- region 7
          repeat' (first | (refine ACall.one (oleft_c _) (by kernel_rfl) rfl ?_; simp only [go_sem, hg]) | (refine AGuard.splitN (fun h => ?_) (fun h => ?_) <;> simp only [h, go_sem, hg] <;> try simp only [dD] at h) | (refine AGuard.split (fun h => ?_) (fun h => ?_) <;> simp only [h, go_sem, hg] <;> try simp only [dD] at h) | (refine AGet.haveM (by assumption) ?_; (try simp only [go_sem, hg])) | (refine AGet.have' (by assumption) ?_; (try simp only [go_sem, hg])) | ((first | refine AGet.nth ?_ (fun b hb => ?_) | refine AGet.nth1 ?_ (fun b hb => ?_) | with_reducible refine And.intro ?_ ?_); (focus ((first | omega | exact List.length_pos_iff.2 (by assumption) | (simp only [List.length_append, List.length_cons, List.length_nil, List.length_map, List.length_take, List.length_drop] at *; omega) | (rw [wrap64_id (by omega) (by omega)]; omega) | (simp; done)))); (try simp only [hb, go_sem, hg])))
          all_goals (
            refine hK11 _ ?_; clear hK11 K11
            refine AWP.cond rfl (fun c33 => ?_) (fun c33 => ?_)
            · first | exact Bool.noConfusion c33 | (
                try simp only [dD] at c33
                refine AWP.seqk fun K12 hK12 => ?_
                refine AWP.region ?_
                simp only [go_sem] -- region 8
                repeat' (first | (refine AGet.haveM (by assumption) ?_; (try simp only [go_sem])) | (refine AGet.have' (by assumption) ?_; (try simp only [go_sem])) | ((first | refine AGet.nth ?_ (fun b hb => ?_) | refine AGet.nth1 ?_ (fun b hb => ?_) | with_reducible refine And.intro ?_ ?_); (focus ((first | omega | exact List.length_pos_iff.2 (by assumption) | (simp only [List.length_append, List.length_cons, List.length_nil, List.length_map, List.length_take, List.length_drop] at *; omega) | (rw [wrap64_id (by omega) (by omega)]; omega) | (simp; done)))); (try simp only [hb, go_sem])))
                refine hK12 _ ?_; clear hK12 K12
                refine AWP.ret ?_
                try simp only [go_sem]
                clear hK10 K10
                first
                | exact ⟨[], .tup [.any, .v _], rfl, ⟨trivial, rfl, trivial⟩, res_err (fill_e1 (by assumption)) (by decide), rfl⟩
                | exact ⟨[], .tup [.any, .v _], rfl, ⟨trivial, rfl, trivial⟩, res_err (fill_e6 (by assumption) (open_none (by assumption))) (by decide), rfl⟩
                | exact ⟨[], .tup [.any, .v _], rfl, ⟨trivial, rfl, trivial⟩, res_err (fill_e1' (by assumption) e2 hb (.inl (by assumption))) (by decide), rfl⟩
                | exact ⟨[], .tup [.any, .v _], rfl, ⟨trivial, rfl, trivial⟩, res_err (fill_e1' (by assumption) e2 hb (.inr (by assumption))) (by decide), rfl⟩
                | exact ⟨[], .tup [.any, .v _], rfl, ⟨trivial, rfl, trivial⟩, res_err (fill_e9 (by assumption) e2 hb (by assumption) (by assumption) (by assumption)) (by decide), rfl⟩
                | exact ⟨[], .tup [.sl none 8 _, .v _], rfl, ⟨⟨rfl, by rw [List.set_set]⟩, rfl, trivial⟩, res_ok (fill_ok (by assumption) e2 hb (by assumption) (by assumption) (by assumption)), rfl⟩
                | skip)
            · first | exact Bool.noConfusion c33 | (
                try simp only [dD] at c33
                refine AWP.skip ?_
                refine hK10 _ ?_; clear hK10 K10
                refine AWP.seqk fun K13 hK13 => ?_
                refine AWP.seqk fun K14 hK14 => ?_
                refine AWP.region ?_
                simp only [go_sem, hg] -- region 9
                repeat' (first | (refine ACall.one (ofair_c _ _) (by kernel_rfl) rfl ?_; simp only [go_sem, hg]) | (refine AGet.haveM (by assumption) ?_; (try simp only [go_sem, hg])) | (refine AGet.have' (by assumption) ?_; (try simp only [go_sem, hg])) | ((first | refine AGet.nth ?_ (fun b hb => ?_) | refine AGet.nth1 ?_ (fun b hb => ?_) | with_reducible refine And.intro ?_ ?_); (focus ((first | omega | exact List.length_pos_iff.2 (by assumption) | (simp only [List.length_append, List.length_cons, List.length_nil, List.length_map, List.length_take, List.length_drop] at *; omega) | (rw [wrap64_id (by omega) (by omega)]; omega) | (simp; done)))); (try simp only [hb, go_sem, hg])))
                refine hK14 _ ?_; clear hK14 K14
                refine AWP.cond rfl (fun c41 => ?_) (fun c41 => ?_)
                · first | exact Bool.noConfusion c41 | (
                    try simp only [dD] at c41
                    refine AWP.seqk fun K15 hK15 => ?_
                    refine AWP.region ?_
                    simp only [go_sem] -- region 10
                    repeat' (first | (refine AGet.haveM (by assumption) ?_; (try simp only [go_sem])) | (refine AGet.have' (by assumption) ?_; (try simp only [go_sem])) | ((first | refine AGet.nth ?_ (fun b hb => ?_) | refine AGet.nth1 ?_ (fun b hb => ?_) | with_reducible refine And.intro ?_ ?_); (focus ((first | omega | exact List.length_pos_iff.2 (by assumption) | (simp only [List.length_append, List.length_cons, List.length_nil, List.length_map, List.length_take, List.length_drop] at *; omega) | (rw [wrap64_id (by omega) (by omega)]; omega) | (simp; done)))); (try simp only [hb, go_sem])))
                    refine hK15 _ ?_; clear hK15 K15
                    refine AWP.ret ?_
                    try simp only [go_sem]
                    clear hK13 K13
                    first
                    | exact ⟨[], .tup [.any, .v _], rfl, ⟨trivial, rfl, trivial⟩, res_err (fill_e1 (by assumption)) (by decide), rfl⟩
                    | exact ⟨[], .tup [.any, .v _], rfl, ⟨trivial, rfl, trivial⟩, res_err (fill_e6 (by assumption) (open_none (by assumption))) (by decide), rfl⟩
                    | exact ⟨[], .tup [.any, .v _], rfl, ⟨trivial, rfl, trivial⟩, res_err (fill_e1' (by assumption) e2 hb (.inl (by assumption))) (by decide), rfl⟩
                    | exact ⟨[], .tup [.any, .v _], rfl, ⟨trivial, rfl, trivial⟩, res_err (fill_e1' (by assumption) e2 hb (.inr (by assumption))) (by decide), rfl⟩
                    | exact ⟨[], .tup [.any, .v _], rfl, ⟨trivial, rfl, trivial⟩, res_err (fill_e9 (by assumption) e2 hb (by assumption) (by assumption) (by assumption)) (by decide), rfl⟩
                    | exact ⟨[], .tup [.sl none 8 _, .v _], rfl, ⟨⟨rfl, by rw [List.set_set]⟩, rfl, trivial⟩, res_ok (fill_ok (by assumption) e2 hb (by assumption) (by assumption) (by assumption)), rfl⟩
                    | skip)
                · first | exact Bool.noConfusion c41 | (
                    try simp only [dD] at c41
                    refine AWP.skip ?_
                    refine hK13 _ ?_; clear hK13 K13
                    refine AWP.seqk fun K16 hK16 => ?_
                    have hroom := fill_room (right_at (by assumption) hb) (by assumption) (by assumption)
                    have hw : IntKind.i64.wrap (o.done + q) = o.done + q := wrap64_id (by omega) (by omega)
                    refine AWP.region ?_
                    simp only [go_sem, hg] -- region 11
                    repeat' (first | (refine AGet.haveM (by assumption) ?_; (try simp only [go_sem, hg])) | (refine AGet.have' (by assumption) ?_; (try simp only [go_sem, hg])) | ((first | refine AGet.nth ?_ (fun b hb => ?_) | refine AGet.nth1 ?_ (fun b hb => ?_) | with_reducible refine And.intro ?_ ?_); (focus ((first | omega | exact List.length_pos_iff.2 (by assumption) | (simp only [List.length_append, List.length_cons, List.length_nil, List.length_map, List.length_take, List.length_drop] at *; omega) | (rw [wrap64_id (by omega) (by omega)]; omega) | (simp; done)))); (try simp only [hb, go_sem, hg])))
                    refine hK16 _ ?_; clear hK16 K16
                    refine AWP.seqk fun K17 hK17 => ?_
                    rw [hw]
                    rw [od_set (o' := ⟨o.id, o.acc, o.sym, o.buy, o.qty, o.price, o.done + q, o.opn⟩) hb (spare 8 m)]
                    have hb2 : (l.set n ⟨o.id, o.acc, o.sym, o.buy, o.qty, o.price, o.done + q, o.opn⟩)[n]? = some ⟨o.id, o.acc, o.sym, o.buy, o.qty, o.price, o.done + q, o.opn⟩ := List.getElem?_set_self hn
                    have hg2 := od_get hb2 (spare 8 m)
                    refine AWP.regionAs [0, 1, 2, 3, 4, 5, 6, 7, 8, 9, 10, 11, 12, 13, 14, 15] [[], [], [], [], [2, 3], [2, 3, 4], [2, 3, 4, 5], [], [], [7, 8], [7, 8, 9], [7, 8, 9, 10], [2, 3, 4, 5, 6, 7, 8, 9, 10, 11], [0, 1, 2, 3, 4, 5, 6, 7, 8, 9, 10, 11, 12], [0, 1, 2, 3, 4, 5, 6, 7, 8, 9, 10, 11, 12, 13], [0, 1, 2, 3, 4, 5, 6, 7, 8, 9, 10, 11, 12, 13, 14]] [] (by kernel_rfl) (by kernel_rfl) (by decide) rfl ?_
                    simp only [go_sem, hg2] -- region 12
                    repeat' (first | (refine AGet.haveM (by assumption) ?_; (try simp only [go_sem, hg2])) | (refine AGet.have' (by assumption) ?_; (try simp only [go_sem, hg2])) | ((first | refine AGet.nth ?_ (fun b hb => ?_) | refine AGet.nth1 ?_ (fun b hb => ?_) | with_reducible refine And.intro ?_ ?_); (focus ((first | omega | exact List.length_pos_iff.2 (by assumption) | (simp only [List.length_append, List.length_cons, List.length_nil, List.length_map, List.length_take, List.length_drop] at *; omega) | (rw [wrap64_id (by omega) (by omega)]; omega) | (simp; done)))); (try simp only [hb, go_sem, hg2])))
                    refine hK17 _ ?_; clear hK17 K17
                    refine AWP.seqk fun K18 hK18 => ?_
                    refine AWP.publishN 0 0 8 l.length _ (((l.set n ⟨o.id, o.acc, o.sym, o.buy, o.qty, o.price, o.done + q, o.opn⟩).set n ⟨o.id, o.acc, o.sym, o.buy, o.qty, o.price, o.done + q, decide (o.done + q < o.qty)⟩).map odV) (spare 8 m) rfl (congrArg (fun x => some (some x)) (od_set (o' := ⟨o.id, o.acc, o.sym, o.buy, o.qty, o.price, o.done + q, decide (o.done + q < o.qty)⟩) hb2 (spare 8 m))) (by simp) (cl_od _) ?_
                    simp only [go_sem]
                    refine AWP.region ?_
                    simp only [go_sem] -- region 13
                    repeat' (first | (refine AGet.haveM (by assumption) ?_; (try simp only [go_sem])) | (refine AGet.have' (by assumption) ?_; (try simp only [go_sem])) | ((first | refine AGet.nth ?_ (fun b hb => ?_) | refine AGet.nth1 ?_ (fun b hb => ?_) | with_reducible refine And.intro ?_ ?_); (focus ((first | omega | exact List.length_pos_iff.2 (by assumption) | (simp only [List.length_append, List.length_cons, List.length_nil, List.length_map, List.length_take, List.length_drop] at *; omega) | (rw [wrap64_id (by omega) (by omega)]; omega) | (simp; done)))); (try simp only [hb, go_sem])))
                    refine hK18 _ ?_; clear hK18 K18
                    refine AWP.ret ?_
                    try simp only [go_sem]
                    first
                    | exact ⟨[], .tup [.any, .v _], rfl, ⟨trivial, rfl, trivial⟩, res_err (fill_e1 (by assumption)) (by decide), rfl⟩
                    | exact ⟨[], .tup [.any, .v _], rfl, ⟨trivial, rfl, trivial⟩, res_err (fill_e6 (by assumption) (open_none (by assumption))) (by decide), rfl⟩
                    | exact ⟨[], .tup [.any, .v _], rfl, ⟨trivial, rfl, trivial⟩, res_err (fill_e1' (by assumption) e2 hb (.inl (by assumption))) (by decide), rfl⟩
                    | exact ⟨[], .tup [.any, .v _], rfl, ⟨trivial, rfl, trivial⟩, res_err (fill_e1' (by assumption) e2 hb (.inr (by assumption))) (by decide), rfl⟩
                    | exact ⟨[], .tup [.any, .v _], rfl, ⟨trivial, rfl, trivial⟩, res_err (fill_e9 (by assumption) e2 hb (by assumption) (by assumption) (by assumption)) (by decide), rfl⟩
                    | exact ⟨[], .tup [.sl none 8 _, .v _], rfl, ⟨⟨rfl, by rw [List.set_set]⟩, rfl, trivial⟩, res_ok (fill_ok (by assumption) e2 hb (by assumption) (by assumption) (by assumption)), rfl⟩
                    | skip)))))


end Go.Proofs.Ytlhdnenlgceeeaa
