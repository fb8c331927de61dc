import Derived.Test.YtlhdnenlgceeeaaN4
set_option linter.unusedVariables false
set_option linter.unusedSimpArgs false
namespace Go.Proofs.Ytlhdnenlgceeeaa
open Go Go.Abs Go.RowKit Go.Bk

theorem od_take {l : List Od} {n : Nat} {o : Od} (sp : List AV) : ((l.set n o).map odV ++ sp).take l.length = (l.set n o).map odV := by
  rw [List.take_left' (by simp)]

set_option maxHeartbeats 4000000 in
set_option maxRecDepth 8000 in
theorem ochange_c (l : List Od) (a b : Bs) (q p : Int) (hl : l.length ≤ 1000000) : ACalls E 131 [odsV l, str a, str b, i64 q, i64 p] (fun r t => (∃ x, r = .tup [x, i64 (changeO l a b q p).2] ∧ ((changeO l a b q p).2 = 0 → x = odsV (changeO l a b q p).1)) ∧ t = []) := by -- checkroll/order.Change
  refine ACalls.of_awp (n := 66) (rs := [.tmp 10, .tmp 11]) Try.func131 rfl Try.ntmps131 rfl ?_
  refine AWP.seqk fun K1 hK1 => ?_
  refine AWP.region ?_
  simp only [go_sem] -- region 0
  repeat' (first | (refine AGet.haveM (by assumption) ?_; (try simp only [go_sem])) | (refine AGet.have' (by assumption) ?_; (try simp only [go_sem])) | ((first | refine AGet.nth ?_ (fun b hb => ?_) | refine AGet.nth1 ?_ (fun b hb => ?_) | with_reducible refine And.intro ?_ ?_); (focus ((first | omega | exact List.length_pos_iff.2 (by assumption) | (simp only [List.length_append, List.length_cons, List.length_nil, List.length_map, List.length_take, List.length_drop] at *; omega) | (rw [wrap64_id (by omega) (by omega)]; omega) | (simp; done) | (simp [spare_len]; done)))); (try simp only [hb, go_sem])))
  refine hK1 _ ?_; clear hK1 K1
  refine AWP.seqk fun K2 hK2 => ?_
  refine AWP.region ?_
  simp only [go_sem] -- region 1
  repeat' (first | (refine ACall.take (oclone_c l hl) (by kernel_rfl) rfl (.cons (.one (.clean rfl)) .nil) ?_; rintro r t ⟨rfl, rfl⟩; refine ⟨0, 8, _, rfl, by simp, pl_od _, fun m => ?_⟩; simp only [go_sem, List.length_map]) | (refine ACall.of (oclone_c _ (by omega)) (by kernel_rfl) rfl ?_; rintro r t ⟨rfl, rfl⟩ <;> simp only [go_sem]) | (refine AGet.haveM (by assumption) ?_; (try simp only [go_sem])) | (refine AGet.have' (by assumption) ?_; (try simp only [go_sem])) | ((first | refine AGet.nth ?_ (fun b hb => ?_) | refine AGet.nth1 ?_ (fun b hb => ?_) | with_reducible refine And.intro ?_ ?_); (focus ((first | omega | exact List.length_pos_iff.2 (by assumption) | (simp only [List.length_append, List.length_cons, List.length_nil, List.length_map, List.length_take, List.length_drop] at *; omega) | (rw [wrap64_id (by omega) (by omega)]; omega) | (simp; done) | (simp [spare_len]; done)))); (try simp only [hb, go_sem])))
  refine hK2 _ ?_; clear hK2 K2
  refine AWP.seqk fun K3 hK3 => ?_
  refine AWP.seqk fun K4 hK4 => ?_
  refine AWP.region ?_
  simp only [go_sem] -- region 2
  repeat' (first | (refine ACall.snapOne (oright_c l (by omega)) (by kernel_rfl) rfl (.cons (.one (.mu' rfl (by simp) (cl_od l))) .nil) ?_; simp only [go_sem]) | (refine ACall.one (oright_c _ (by omega)) (by kernel_rfl) rfl ?_; simp only [go_sem]) | (refine AGet.haveM (by assumption) ?_; (try simp only [go_sem])) | (refine AGet.have' (by assumption) ?_; (try simp only [go_sem])) | ((first | refine AGet.nth ?_ (fun b hb => ?_) | refine AGet.nth1 ?_ (fun b hb => ?_) | with_reducible refine And.intro ?_ ?_); (focus ((first | omega | exact List.length_pos_iff.2 (by assumption) | (simp only [List.length_append, List.length_cons, List.length_nil, List.length_map, List.length_take, List.length_drop] at *; omega) | (rw [wrap64_id (by omega) (by omega)]; omega) | (simp; done) | (simp [spare_len]; done)))); (try simp only [hb, go_sem])))
  refine hK4 _ ?_; clear hK4 K4
  refine AWP.cond rfl (fun c18 => ?_) (fun c18 => ?_)
  · first | exact Bool.noConfusion c18 | (
      try simp only [dD] at c18
      refine AWP.seqk fun K5 hK5 => ?_
      refine AWP.region ?_
      simp only [go_sem] -- region 3
      repeat' (first | (refine AGet.haveM (by assumption) ?_; (try simp only [go_sem])) | (refine AGet.have' (by assumption) ?_; (try simp only [go_sem])) | ((first | refine AGet.nth ?_ (fun b hb => ?_) | refine AGet.nth1 ?_ (fun b hb => ?_) | with_reducible refine And.intro ?_ ?_); (focus ((first | omega | exact List.length_pos_iff.2 (by assumption) | (simp only [List.length_append, List.length_cons, List.length_nil, List.length_map, List.length_take, List.length_drop] at *; omega) | (rw [wrap64_id (by omega) (by omega)]; omega) | (simp; done) | (simp [spare_len]; done)))); (try simp only [hb, go_sem])))
      refine hK5 _ ?_; clear hK5 K5
      refine AWP.ret ?_
      try simp only [go_sem]
      clear hK3 K3
      first
      | exact ⟨[], .tup [.any, .v _], rfl, ⟨trivial, rfl, trivial⟩, res_err (change_e1 (by assumption)) (by decide), rfl⟩
      | exact ⟨[], .tup [.any, .v _], rfl, ⟨trivial, rfl, trivial⟩, res_err (change_e6 (by assumption) (open_none (by assumption))) (by decide), rfl⟩
      | exact ⟨[], .tup [.any, .v _], rfl, ⟨trivial, rfl, trivial⟩, res_err (change_e1' (by assumption) e2 hb (by assumption)) (by decide), rfl⟩
      | exact ⟨[], .tup [.any, .v _], rfl, ⟨trivial, rfl, trivial⟩, res_err (change_e7 (by assumption) e2 hb (by assumption) (by assumption)) (by decide), rfl⟩
      | exact ⟨[], .tup [.any, .v _], rfl, ⟨trivial, rfl, trivial⟩, res_err (change_e5 (by assumption) e2 hb (by assumption) (by assumption) (by omega)) (by decide), rfl⟩
      | exact ⟨[], .tup [.sl none 8 _, .v _], rfl, ⟨⟨rfl, rfl⟩, rfl, trivial⟩, res_ok (change_ok (by assumption) e2 hb (by assumption) (by assumption) (by omega)), rfl⟩
      | skip)
  · first | exact Bool.noConfusion c18 | (
      try simp only [dD] at c18
      refine AWP.skip ?_
      refine hK3 _ ?_; clear hK3 K3
      refine AWP.seqk fun K6 hK6 => ?_
      refine AWP.region ?_
      simp only [go_sem] -- region 4
      repeat' (first | (refine ACall.snapOne (oopen_c l _ (by omega)) (by kernel_rfl) rfl (.cons (.one (.mu' rfl (by simp) (cl_od l))) (.cons (.one (.clean rfl)) .nil)) ?_; simp only [go_sem]) | (refine ACall.one (oopen_c _ _ (by omega)) (by kernel_rfl) rfl ?_; simp only [go_sem]) | (refine AGet.haveM (by assumption) ?_; (try simp only [go_sem])) | (refine AGet.have' (by assumption) ?_; (try simp only [go_sem])) | ((first | refine AGet.nth ?_ (fun b hb => ?_) | refine AGet.nth1 ?_ (fun b hb => ?_) | with_reducible refine And.intro ?_ ?_); (focus ((first | omega | exact List.length_pos_iff.2 (by assumption) | (simp only [List.length_append, List.length_cons, List.length_nil, List.length_map, List.length_take, List.length_drop] at *; omega) | (rw [wrap64_id (by omega) (by omega)]; omega) | (simp; done) | (simp [spare_len]; done)))); (try simp only [hb, go_sem])))
      refine hK6 _ ?_; clear hK6 K6
      refine AWP.seqk fun K7 hK7 => ?_
      refine AWP.seqk fun K8 hK8 => ?_
      refine AWP.region ?_
      simp only [go_sem] -- region 5
      repeat' (first | (refine AGet.haveM (by assumption) ?_; (try simp only [go_sem])) | (refine AGet.have' (by assumption) ?_; (try simp only [go_sem])) | ((first | refine AGet.nth ?_ (fun b hb => ?_) | refine AGet.nth1 ?_ (fun b hb => ?_) | with_reducible refine And.intro ?_ ?_); (focus ((first | omega | exact List.length_pos_iff.2 (by assumption) | (simp only [List.length_append, List.length_cons, List.length_nil, List.length_map, List.length_take, List.length_drop] at *; omega) | (rw [wrap64_id (by omega) (by omega)]; omega) | (simp; done) | (simp [spare_len]; done)))); (try simp only [hb, go_sem])))
      refine hK8 _ ?_; clear hK8 K8
      refine AWP.cond rfl (fun c24 => ?_) (fun c24 => ?_)
      · first | exact Bool.noConfusion c24 | (
          try simp only [dD] at c24
          refine AWP.seqk fun K9 hK9 => ?_
          refine AWP.region ?_
          simp only [go_sem] -- region 6
          repeat' (first | (refine AGet.haveM (by assumption) ?_; (try simp only [go_sem])) | (refine AGet.have' (by assumption) ?_; (try simp only [go_sem])) | ((first | refine AGet.nth ?_ (fun b hb => ?_) | refine AGet.nth1 ?_ (fun b hb => ?_) | with_reducible refine And.intro ?_ ?_); (focus ((first | omega | exact List.length_pos_iff.2 (by assumption) | (simp only [List.length_append, List.length_cons, List.length_nil, List.length_map, List.length_take, List.length_drop] at *; omega) | (rw [wrap64_id (by omega) (by omega)]; omega) | (simp; done) | (simp [spare_len]; done)))); (try simp only [hb, go_sem])))
          refine hK9 _ ?_; clear hK9 K9
          refine AWP.ret ?_
          try simp only [go_sem]
          clear hK7 K7
          first
          | exact ⟨[], .tup [.any, .v _], rfl, ⟨trivial, rfl, trivial⟩, res_err (change_e1 (by assumption)) (by decide), rfl⟩
          | exact ⟨[], .tup [.any, .v _], rfl, ⟨trivial, rfl, trivial⟩, res_err (change_e6 (by assumption) (open_none (by assumption))) (by decide), rfl⟩
          | exact ⟨[], .tup [.any, .v _], rfl, ⟨trivial, rfl, trivial⟩, res_err (change_e1' (by assumption) e2 hb (by assumption)) (by decide), rfl⟩
          | exact ⟨[], .tup [.any, .v _], rfl, ⟨trivial, rfl, trivial⟩, res_err (change_e7 (by assumption) e2 hb (by assumption) (by assumption)) (by decide), rfl⟩
          | exact ⟨[], .tup [.any, .v _], rfl, ⟨trivial, rfl, trivial⟩, res_err (change_e5 (by assumption) e2 hb (by assumption) (by assumption) (by omega)) (by decide), rfl⟩
          | exact ⟨[], .tup [.sl none 8 _, .v _], rfl, ⟨⟨rfl, rfl⟩, rfl, trivial⟩, res_ok (change_ok (by assumption) e2 hb (by assumption) (by assumption) (by omega)), rfl⟩
          | skip)
      · first | exact Bool.noConfusion c24 | (
          try simp only [dD] at c24
          refine AWP.skip ?_
          refine hK7 _ ?_; clear hK7 K7
          refine AWP.seqk fun K10 hK10 => ?_
          obtain ⟨n, o, e, e2, hb, ho⟩ : ∃ n o, openI l a = (n : Nat) ∧ openF l a = some n ∧ l[n]? = some o ∧ o.opn = true := by
            rcases open_cases l a with ⟨e, e2⟩ | h
            · exact absurd (show openI l a < 0 by omega) (by assumption)
            · exact h
          simp only [e]
          have hn : n < l.length := get_lt hb
          have hg := od_get hb (spare 8 m)
          refine AWP.region ?_
          simp only [go_sem, hg] -- region 7
          repeat' (first | (refine AGet.haveM (by assumption) ?_; (try simp only [go_sem, hg])) | (refine AGet.have' (by assumption) ?_; (try simp only [go_sem, hg])) | ((first | refine AGet.nth ?_ (fun b hb => ?_) | refine AGet.nth1 ?_ (fun b hb => ?_) | with_reducible refine And.intro ?_ ?_); (focus ((first | omega | exact List.length_pos_iff.2 (by assumption) | (simp only [List.length_append, List.length_cons, List.length_nil, List.length_map, List.length_take, List.length_drop] at *; omega) | (rw [wrap64_id (by omega) (by omega)]; omega) | (simp; done) | (simp [spare_len]; done)))); (try simp only [hb, go_sem, hg])))
          refine hK10 _ ?_; clear hK10 K10
          refine AWP.seqk fun K11 hK11 => ?_
          refine AWP.region ?_
          simp only [go_sem] -- region 8
          repeat' (first | (refine AGet.haveM (by assumption) ?_; (try simp only [go_sem])) | (refine AGet.have' (by assumption) ?_; (try simp only [go_sem])) | ((first | refine AGet.nth ?_ (fun b hb => ?_) | refine AGet.nth1 ?_ (fun b hb => ?_) | with_reducible refine And.intro ?_ ?_); (focus ((first | omega | exact List.length_pos_iff.2 (by assumption) | (simp only [List.length_append, List.length_cons, List.length_nil, List.length_map, List.length_take, List.length_drop] at *; omega) | (rw [wrap64_id (by omega) (by omega)]; omega) | (simp; done) | (simp [spare_len]; done)))); (try simp only [hb, go_sem])))
          refine hK11 _ ?_; clear hK11 K11
          refine AWP.seqk fun K12 hK12 => ?_
          refine AWP.region ?_
          simp only [go_sem] -- region 9
          repeat' (first | (refine AGet.haveM (by assumption) ?_; (try simp only [go_sem])) | (refine AGet.have' (by assumption) ?_; (try simp only [go_sem])) | ((first | refine AGet.nth ?_ (fun b hb => ?_) | refine AGet.nth1 ?_ (fun b hb => ?_) | with_reducible refine And.intro ?_ ?_); (focus ((first | omega | exact List.length_pos_iff.2 (by assumption) | (simp only [List.length_append, List.length_cons, List.length_nil, List.length_map, List.length_take, List.length_drop] at *; omega) | (rw [wrap64_id (by omega) (by omega)]; omega) | (simp; done) | (simp [spare_len]; done)))); (try simp only [hb, go_sem])))
          refine hK12 _ ?_; clear hK12 K12
          refine AWP.seqk fun K13 hK13 => ?_
          refine AWP.block ?_ -- 0
          refine AWP.seqk fun K14 hK14 => ?_
          refine AWP.region ?_
          simp only [go_sem] -- region 10
          repeat' (first | (refine ACall.one (omay_c (⟨b, o.acc, o.sym, o.buy, q, p, o.done, decide (o.done < q)⟩ : Od)) (by kernel_rfl) rfl ?_; simp only [go_sem]) | (refine AGet.haveM (by assumption) ?_; (try simp only [go_sem])) | (refine AGet.have' (by assumption) ?_; (try simp only [go_sem])) | ((first | refine AGet.nth ?_ (fun b hb => ?_) | refine AGet.nth1 ?_ (fun b hb => ?_) | with_reducible refine And.intro ?_ ?_); (focus ((first | omega | exact List.length_pos_iff.2 (by assumption) | (simp only [List.length_append, List.length_cons, List.length_nil, List.length_map, List.length_take, List.length_drop] at *; omega) | (rw [wrap64_id (by omega) (by omega)]; omega) | (simp; done) | (simp [spare_len]; done)))); (try simp only [hb, go_sem])))
          refine hK14 _ ?_; clear hK14 K14
          refine AWP.cond rfl (fun c42 => ?_) (fun c42 => ?_)
          · first | exact Bool.noConfusion c42 | (
              try simp only [dD] at c42
              refine AWP.seqk fun K15 hK15 => ?_
              refine AWP.region ?_
              simp only [go_sem] -- region 11
              repeat' (first | (refine AGet.haveM (by assumption) ?_; (try simp only [go_sem])) | (refine AGet.have' (by assumption) ?_; (try simp only [go_sem])) | ((first | refine AGet.nth ?_ (fun b hb => ?_) | refine AGet.nth1 ?_ (fun b hb => ?_) | with_reducible refine And.intro ?_ ?_); (focus ((first | omega | exact List.length_pos_iff.2 (by assumption) | (simp only [List.length_append, List.length_cons, List.length_nil, List.length_map, List.length_take, List.length_drop] at *; omega) | (rw [wrap64_id (by omega) (by omega)]; omega) | (simp; done) | (simp [spare_len]; done)))); (try simp only [hb, go_sem])))
              refine hK15 _ ?_; clear hK15 K15
              refine AWP.ret ?_
              try simp only [go_sem]
              clear hK13 K13
              first
              | exact ⟨[], .tup [.any, .v _], rfl, ⟨trivial, rfl, trivial⟩, res_err (change_e1 (by assumption)) (by decide), rfl⟩
              | exact ⟨[], .tup [.any, .v _], rfl, ⟨trivial, rfl, trivial⟩, res_err (change_e6 (by assumption) (open_none (by assumption))) (by decide), rfl⟩
              | exact ⟨[], .tup [.any, .v _], rfl, ⟨trivial, rfl, trivial⟩, res_err (change_e1' (by assumption) e2 hb (by assumption)) (by decide), rfl⟩
              | exact ⟨[], .tup [.any, .v _], rfl, ⟨trivial, rfl, trivial⟩, res_err (change_e7 (by assumption) e2 hb (by assumption) (by assumption)) (by decide), rfl⟩
              | exact ⟨[], .tup [.any, .v _], rfl, ⟨trivial, rfl, trivial⟩, res_err (change_e5 (by assumption) e2 hb (by assumption) (by assumption) (by omega)) (by decide), rfl⟩
              | exact ⟨[], .tup [.sl none 8 _, .v _], rfl, ⟨⟨rfl, rfl⟩, rfl, trivial⟩, res_ok (change_ok (by assumption) e2 hb (by assumption) (by assumption) (by omega)), rfl⟩
              | skip)
          · first | exact Bool.noConfusion c42 | (
              try simp only [dD] at c42
              refine AWP.seqk fun K16 hK16 => ?_
              refine AWP.region ?_
              simp only [go_sem] -- region 12
              repeat' (first | (refine ACall.snapOne (oplace_c l _ (by omega)) (by kernel_rfl) rfl (.cons (.one (.mu' rfl (by simp) (cl_od l))) (.cons (.one (.clean rfl)) .nil)) ?_; simp only [go_sem]) | (refine ACall.one (oplace_c _ _ (by first | omega | (simp only [List.length_take]; omega))) (by kernel_rfl) rfl ?_; simp only [go_sem]) | (refine AGet.haveM (by assumption) ?_; (try simp only [go_sem])) | (refine AGet.have' (by assumption) ?_; (try simp only [go_sem])) | ((first | refine AGet.nth ?_ (fun b hb => ?_) | refine AGet.nth1 ?_ (fun b hb => ?_) | with_reducible refine And.intro ?_ ?_); (focus ((first | omega | exact List.length_pos_iff.2 (by assumption) | (simp only [List.length_append, List.length_cons, List.length_nil, List.length_map, List.length_take, List.length_drop] at *; omega) | (rw [wrap64_id (by omega) (by omega)]; omega) | (simp; done) | (simp [spare_len]; done)))); (try simp only [hb, go_sem])))
              refine hK16 _ ?_; clear hK16 K16
              refine AWP.cond rfl (fun c47 => ?_) (fun c47 => ?_)
              · first | exact Bool.noConfusion c47 | (
                  try simp only [dD] at c47
                  refine AWP.seqk fun K17 hK17 => ?_
                  refine AWP.region ?_
                  simp only [go_sem] -- region 13
                  repeat' (first | (refine AGet.haveM (by assumption) ?_; (try simp only [go_sem])) | (refine AGet.have' (by assumption) ?_; (try simp only [go_sem])) | ((first | refine AGet.nth ?_ (fun b hb => ?_) | refine AGet.nth1 ?_ (fun b hb => ?_) | with_reducible refine And.intro ?_ ?_); (focus ((first | omega | exact List.length_pos_iff.2 (by assumption) | (simp only [List.length_append, List.length_cons, List.length_nil, List.length_map, List.length_take, List.length_drop] at *; omega) | (rw [wrap64_id (by omega) (by omega)]; omega) | (simp; done) | (simp [spare_len]; done)))); (try simp only [hb, go_sem])))
                  refine hK17 _ ?_; clear hK17 K17
                  refine AWP.ret ?_
                  try simp only [go_sem]
                  clear hK13 K13
                  first
                  | exact ⟨[], .tup [.any, .v _], rfl, ⟨trivial, rfl, trivial⟩, res_err (change_e1 (by assumption)) (by decide), rfl⟩
                  | exact ⟨[], .tup [.any, .v _], rfl, ⟨trivial, rfl, trivial⟩, res_err (change_e6 (by assumption) (open_none (by assumption))) (by decide), rfl⟩
                  | exact ⟨[], .tup [.any, .v _], rfl, ⟨trivial, rfl, trivial⟩, res_err (change_e1' (by assumption) e2 hb (by assumption)) (by decide), rfl⟩
                  | exact ⟨[], .tup [.any, .v _], rfl, ⟨trivial, rfl, trivial⟩, res_err (change_e7 (by assumption) e2 hb (by assumption) (by assumption)) (by decide), rfl⟩
                  | exact ⟨[], .tup [.any, .v _], rfl, ⟨trivial, rfl, trivial⟩, res_err (change_e5 (by assumption) e2 hb (by assumption) (by assumption) (by omega)) (by decide), rfl⟩
                  | exact ⟨[], .tup [.sl none 8 _, .v _], rfl, ⟨⟨rfl, rfl⟩, rfl, trivial⟩, res_ok (change_ok (by assumption) e2 hb (by assumption) (by assumption) (by omega)), rfl⟩
                  | skip)
              · first | exact Bool.noConfusion c47 | (
                  try simp only [dD] at c47
                  refine AWP.seqk fun K18 hK18 => ?_
                  refine AWP.region ?_
                  simp only [go_sem] -- region 14
                  repeat' (first | (refine AGet.haveM (by assumption) ?_; (try simp only [go_sem])) | (refine AGet.have' (by assumption) ?_; (try simp only [go_sem])) | ((first | refine AGet.nth ?_ (fun b hb => ?_) | refine AGet.nth1 ?_ (fun b hb => ?_) | with_reducible refine And.intro ?_ ?_); (focus ((first | omega | exact List.length_pos_iff.2 (by assumption) | (simp only [List.length_append, List.length_cons, List.length_nil, List.length_map, List.length_take, List.length_drop] at *; omega) | (rw [wrap64_id (by omega) (by omega)]; omega) | (simp; done) | (simp [spare_len]; done)))); (try simp only [hb, go_sem])))
                  refine hK18 _ ?_; clear hK18 K18
                  refine AWP.cond rfl (fun c53 => ?_) (fun c53 => ?_)
                  · first | exact Bool.noConfusion c53 | (
                      try simp only [dD] at c53
                      refine AWP.seqk fun K19 hK19 => ?_
                      refine AWP.region ?_
                      simp only [go_sem] -- region 15
                      repeat' (first | (refine AGet.haveM (by assumption) ?_; (try simp only [go_sem])) | (refine AGet.have' (by assumption) ?_; (try simp only [go_sem])) | ((first | refine AGet.nth ?_ (fun b hb => ?_) | refine AGet.nth1 ?_ (fun b hb => ?_) | with_reducible refine And.intro ?_ ?_); (focus ((first | omega | exact List.length_pos_iff.2 (by assumption) | (simp only [List.length_append, List.length_cons, List.length_nil, List.length_map, List.length_take, List.length_drop] at *; omega) | (rw [wrap64_id (by omega) (by omega)]; omega) | (simp; done) | (simp [spare_len]; done)))); (try simp only [hb, go_sem])))
                      refine hK19 _ ?_; clear hK19 K19
                      refine AWP.ret ?_
                      try simp only [go_sem]
                      clear hK13 K13
                      first
                      | exact ⟨[], .tup [.any, .v _], rfl, ⟨trivial, rfl, trivial⟩, res_err (change_e1 (by assumption)) (by decide), rfl⟩
                      | exact ⟨[], .tup [.any, .v _], rfl, ⟨trivial, rfl, trivial⟩, res_err (change_e6 (by assumption) (open_none (by assumption))) (by decide), rfl⟩
                      | exact ⟨[], .tup [.any, .v _], rfl, ⟨trivial, rfl, trivial⟩, res_err (change_e1' (by assumption) e2 hb (by assumption)) (by decide), rfl⟩
                      | exact ⟨[], .tup [.any, .v _], rfl, ⟨trivial, rfl, trivial⟩, res_err (change_e7 (by assumption) e2 hb (by assumption) (by assumption)) (by decide), rfl⟩
                      | exact ⟨[], .tup [.any, .v _], rfl, ⟨trivial, rfl, trivial⟩, res_err (change_e5 (by assumption) e2 hb (by assumption) (by assumption) (by omega)) (by decide), rfl⟩
                      | exact ⟨[], .tup [.sl none 8 _, .v _], rfl, ⟨⟨rfl, rfl⟩, rfl, trivial⟩, res_ok (change_ok (by assumption) e2 hb (by assumption) (by assumption) (by omega)), rfl⟩
                      | skip)
                  · first | exact Bool.noConfusion c53 | (
                      try simp only [dD] at c53
                      refine AWP.skip ?_
                      refine hK13 _ ?_; clear hK13 K13
                      refine AWP.seqk fun K20 hK20 => ?_
                      refine AWP.region ?_
                      simp only [go_sem] -- region 16
                      repeat' (first | (refine AGet.haveM (by assumption) ?_; (try simp only [go_sem])) | (refine AGet.have' (by assumption) ?_; (try simp only [go_sem])) | ((first | refine AGet.nth ?_ (fun b hb => ?_) | refine AGet.nth1 ?_ (fun b hb => ?_) | with_reducible refine And.intro ?_ ?_); (focus ((first | omega | exact List.length_pos_iff.2 (by assumption) | (simp only [List.length_append, List.length_cons, List.length_nil, List.length_map, List.length_take, List.length_drop] at *; omega) | (rw [wrap64_id (by omega) (by omega)]; omega) | (simp; done) | (simp [spare_len]; done)))); (try simp only [hb, go_sem])))
                      refine hK20 _ ?_; clear hK20 K20
                      refine AWP.seqk fun K21 hK21 => ?_
                      have hrl := right_len (l := l) (by assumption)
                      rw [od_set (o' := ⟨o.id, o.acc, o.sym, o.buy, o.qty, o.price, o.done, false⟩) hb (spare 8 m)]
                      refine AWP.region ?_
                      simp only [go_sem] -- region 17
                      repeat' (first | (refine AGet.haveM (by assumption) ?_; (try simp only [go_sem])) | (refine AGet.have' (by assumption) ?_; (try simp only [go_sem])) | ((first | refine AGet.nth ?_ (fun b hb => ?_) | refine AGet.nth1 ?_ (fun b hb => ?_) | with_reducible refine And.intro ?_ ?_); (focus ((first | omega | exact List.length_pos_iff.2 (by assumption) | (simp only [List.length_append, List.length_cons, List.length_nil, List.length_map, List.length_take, List.length_drop] at *; omega) | (rw [wrap64_id (by omega) (by omega)]; omega) | (simp; done) | (simp [spare_len]; done)))); (try simp only [hb, go_sem])))
                      intro m2
                      simp only [go_sem, od_take]
                      refine hK21 _ ?_; clear hK21 K21
                      refine AWP.publishN 10 2 8 (l.length + 1) _ ((l.set n ⟨o.id, o.acc, o.sym, o.buy, o.qty, o.price, o.done, false⟩ ++ [(⟨b, o.acc, o.sym, o.buy, q, p, o.done, decide (o.done < q)⟩ : Od)]).map odV) (spare 8 m2) rfl (by simp only [List.map_append]; rfl) (by simp) (cl_od _) ?_
                      simp only [go_sem]
                      refine AWP.ret ?_
                      try simp only [go_sem]
                      first
                      | exact ⟨[], .tup [.any, .v _], rfl, ⟨trivial, rfl, trivial⟩, res_err (change_e1 (by assumption)) (by decide), rfl⟩
                      | exact ⟨[], .tup [.any, .v _], rfl, ⟨trivial, rfl, trivial⟩, res_err (change_e6 (by assumption) (open_none (by assumption))) (by decide), rfl⟩
                      | exact ⟨[], .tup [.any, .v _], rfl, ⟨trivial, rfl, trivial⟩, res_err (change_e1' (by assumption) e2 hb (by assumption)) (by decide), rfl⟩
                      | exact ⟨[], .tup [.any, .v _], rfl, ⟨trivial, rfl, trivial⟩, res_err (change_e7 (by assumption) e2 hb (by assumption) (by assumption)) (by decide), rfl⟩
                      | exact ⟨[], .tup [.any, .v _], rfl, ⟨trivial, rfl, trivial⟩, res_err (change_e5 (by assumption) e2 hb (by assumption) (by assumption) (by omega)) (by decide), rfl⟩
                      | exact ⟨[], .tup [.sl none 8 _, .v _], rfl, ⟨⟨rfl, rfl⟩, rfl, trivial⟩, res_ok (change_ok (by assumption) e2 hb (by assumption) (by assumption) (by omega)), rfl⟩
                      | skip)))))


end Go.Proofs.Ytlhdnenlgceeeaa
