import Derived.Test.YtajeeghgiilhiaaN1
set_option linter.unusedVariables false
set_option linter.unusedSimpArgs false
namespace Go.Proofs.Ytajeeghgiilhiaa
open Go Go.Abs Go.RowKit Go.Bk

set_option maxHeartbeats 4000000 in
set_option maxRecDepth 8000 in
theorem oindex_c (l : List Od) (id : Bs) (hl : l.length ≤ 9223372036854775807) : ACalls E 67 [odsV l, .fn 68 [.rptr [str id]]] (fun r t => r = i64 (placeI l id) ∧ t = []) := by -- slices.IndexFunc[[]checkroll/api.Order,checkroll/api.Order]
  refine ACalls.of_awp (n := 19) (rs := [.tmp 4]) Try.func67 rfl Try.ntmps67 rfl ?_
  refine AWP.seqk fun K1 hK1 => ?_
  refine AWP.region ?_
  simp only [go_sem] -- region 0
  repeat' (first | (refine AGet.haveM (by assumption) ?_; (try simp only [go_sem])) | (refine AGet.have' (by assumption) ?_; (try simp only [go_sem])) | ((first | refine AGet.nth ?_ (fun b hb => ?_) | refine AGet.nth1 ?_ (fun b hb => ?_) | with_reducible refine And.intro ?_ ?_); (focus ((first | omega | exact List.length_pos_iff.2 (by assumption) | (simp only [List.length_append, List.length_cons, List.length_nil, List.length_map, List.length_take, List.length_drop] at *; omega) | (rw [wrap64_id (by omega) (by omega)]; omega) | (simp; done)))); (try simp only [hb, go_sem])))
  refine hK1 _ ?_; clear hK1 K1
  refine AWP.seqk fun K2 hK2 => ?_
  refine AWP.seqk fun K3 hK3 => ?_
  refine AWP.region ?_
  simp only [go_sem] -- region 1
  repeat' (first | (refine AGet.haveM (by assumption) ?_; (try simp only [go_sem])) | (refine AGet.have' (by assumption) ?_; (try simp only [go_sem])) | ((first | refine AGet.nth ?_ (fun b hb => ?_) | refine AGet.nth1 ?_ (fun b hb => ?_) | with_reducible refine And.intro ?_ ?_); (focus ((first | omega | exact List.length_pos_iff.2 (by assumption) | (simp only [List.length_append, List.length_cons, List.length_nil, List.length_map, List.length_take, List.length_drop] at *; omega) | (rw [wrap64_id (by omega) (by omega)]; omega) | (simp; done)))); (try simp only [hb, go_sem])))
  refine hK3 _ ?_; clear hK3 K3
  refine AWP.block ?_ -- 0
  refine AWP.loopH (ι := Nat) [4, 5, 9, 10, 11, 12, 13, 14, 15, 16, 17, 18] (fun (i : Nat) => [(8, i64 i)]) (fun (i : Nat) => i ≤ l.length ∧ (l.take i).all (fun o => !decide (o.id = id)) = true) (fun (i : Nat) => l.length - i) (0) ?_ ?_ ?_
  · (try simp only [go_sem]); try (simp; done)
  · exact ⟨by omega, by simp⟩
  rintro i ⟨h1, h2⟩
  simp only [go_sem]
  refine AWP.seqk fun K4 hK4 => ?_
  refine AWP.region ?_
  simp only [go_sem] -- region 2
  repeat' (first | (refine AGet.haveM (by assumption) ?_; (try simp only [go_sem])) | (refine AGet.have' (by assumption) ?_; (try simp only [go_sem])) | ((first | refine AGet.nth ?_ (fun b hb => ?_) | refine AGet.nth1 ?_ (fun b hb => ?_) | with_reducible refine And.intro ?_ ?_); (focus ((first | omega | exact List.length_pos_iff.2 (by assumption) | (simp only [List.length_append, List.length_cons, List.length_nil, List.length_map, List.length_take, List.length_drop] at *; omega) | (rw [wrap64_id (by omega) (by omega)]; omega) | (simp; done)))); (try simp only [hb, go_sem])))
  refine hK4 _ ?_; clear hK4 K4
  refine AWP.seqk fun K5 hK5 => ?_
  refine AWP.cond rfl (fun c9 => ?_) (fun c9 => ?_)
  · first | exact Bool.noConfusion c9 | (
      try simp only [dD] at c9
      refine AWP.skip ?_
      refine hK5 _ ?_; clear hK5 K5
      refine AWP.seqk fun K6 hK6 => ?_
      refine AWP.block ?_ -- 1
      refine AWP.seqk fun K7 hK7 => ?_
      refine AWP.region ?_
      simp only [go_sem] -- region 3
      repeat' (first | (refine AGet.haveM (by assumption) ?_; (try simp only [go_sem])) | (refine AGet.have' (by assumption) ?_; (try simp only [go_sem])) | ((first | refine AGet.nth ?_ (fun b hb => ?_) | refine AGet.nth1 ?_ (fun b hb => ?_) | with_reducible refine And.intro ?_ ?_); (focus ((first | omega | exact List.length_pos_iff.2 (by assumption) | (simp only [List.length_append, List.length_cons, List.length_nil, List.length_map, List.length_take, List.length_drop] at *; omega) | (rw [wrap64_id (by omega) (by omega)]; omega) | (simp; done)))); (try simp only [hb, go_sem])))
      refine hK7 _ ?_; clear hK7 K7
      refine AWP.seqk fun K8 hK8 => ?_
      refine AWP.region ?_
      simp only [go_sem] -- region 4
      repeat' (first | (refine ACall.one (place1_c _ _) (by kernel_rfl) rfl ?_; simp only [go_sem]) | (refine AGet.haveM (by assumption) ?_; (try simp only [go_sem])) | (refine AGet.have' (by assumption) ?_; (try simp only [go_sem])) | ((first | refine AGet.nth ?_ (fun b hb => ?_) | refine AGet.nth1 ?_ (fun b hb => ?_) | with_reducible refine And.intro ?_ ?_); (focus ((first | omega | exact List.length_pos_iff.2 (by assumption) | (simp only [List.length_append, List.length_cons, List.length_nil, List.length_map, List.length_take, List.length_drop] at *; omega) | (rw [wrap64_id (by omega) (by omega)]; omega) | (simp; done)))); (try simp only [hb, go_sem])))
      refine hK8 _ ?_; clear hK8 K8
      refine AWP.cond rfl (fun c16 => ?_) (fun c16 => ?_)
      · first | exact Bool.noConfusion c16 | (
          try simp only [dD] at c16
          refine AWP.seqk fun K9 hK9 => ?_
          refine AWP.region ?_
          simp only [go_sem] -- region 5
          repeat' (first | (refine AGet.haveM (by assumption) ?_; (try simp only [go_sem])) | (refine AGet.have' (by assumption) ?_; (try simp only [go_sem])) | ((first | refine AGet.nth ?_ (fun b hb => ?_) | refine AGet.nth1 ?_ (fun b hb => ?_) | with_reducible refine And.intro ?_ ?_); (focus ((first | omega | exact List.length_pos_iff.2 (by assumption) | (simp only [List.length_append, List.length_cons, List.length_nil, List.length_map, List.length_take, List.length_drop] at *; omega) | (rw [wrap64_id (by omega) (by omega)]; omega) | (simp; done)))); (try simp only [hb, go_sem])))
          refine hK9 _ ?_; clear hK9 K9
          refine AWP.ret ?_
          try simp only [go_sem]
          clear hK6 K6 hK2 K2
          first
          | exact ⟨[], .v _, rfl, rfl, by rw [placeI_of hb (by assumption) h2], rfl⟩
          | exact ⟨[], .v _, rfl, rfl, by rw [placeI_none (by omega) h2], rfl⟩
          | skip)
      · first | exact Bool.noConfusion c16 | (
          try simp only [dD] at c16
          refine AWP.skip ?_
          refine hK6 _ ?_; clear hK6 K6
          refine AWP.region ?_
          simp only [go_sem] -- region 6
          repeat' (first | (refine AGet.haveM (by assumption) ?_; (try simp only [go_sem])) | (refine AGet.have' (by assumption) ?_; (try simp only [go_sem])) | ((first | refine AGet.nth ?_ (fun b hb => ?_) | refine AGet.nth1 ?_ (fun b hb => ?_) | with_reducible refine And.intro ?_ ?_); (focus ((first | omega | exact List.length_pos_iff.2 (by assumption) | (simp only [List.length_append, List.length_cons, List.length_nil, List.length_map, List.length_take, List.length_drop] at *; omega) | (rw [wrap64_id (by omega) (by omega)]; omega) | (simp; done)))); (try simp only [hb, go_sem])))
          clear hK2 K2
          refine ⟨i + 1, ?_, ?_, ?_⟩
          · (try simp only [go_sem]); (try rw [wrap64_id (by omega) (by omega)]); simp
          · exact ⟨by omega, all_next hb h2 (by simp; assumption)⟩
          · omega))
  · first | exact Bool.noConfusion c9 | (
      try simp only [dD] at c9
      refine AWP.exit ?_
      simp only [go_sem]
      clear hK5 K5
      refine hK2 _ ?_; clear hK2 K2
      refine AWP.seqk fun K10 hK10 => ?_
      refine AWP.region ?_
      simp only [go_sem] -- region 7
      repeat' (first | (refine AGet.haveM (by assumption) ?_; (try simp only [go_sem])) | (refine AGet.have' (by assumption) ?_; (try simp only [go_sem])) | ((first | refine AGet.nth ?_ (fun b hb => ?_) | refine AGet.nth1 ?_ (fun b hb => ?_) | with_reducible refine And.intro ?_ ?_); (focus ((first | omega | exact List.length_pos_iff.2 (by assumption) | (simp only [List.length_append, List.length_cons, List.length_nil, List.length_map, List.length_take, List.length_drop] at *; omega) | (rw [wrap64_id (by omega) (by omega)]; omega) | (simp; done)))); (try simp only [hb, go_sem])))
      refine hK10 _ ?_; clear hK10 K10
      refine AWP.ret ?_
      try simp only [go_sem]
      first
      | exact ⟨[], .v _, rfl, rfl, by rw [placeI_of hb (by assumption) h2], rfl⟩
      | exact ⟨[], .v _, rfl, rfl, by rw [placeI_none (by omega) h2], rfl⟩
      | skip)


set_option maxHeartbeats 4000000 in
set_option maxRecDepth 8000 in
theorem oplace_c (l : List Od) (id : Bs) (hl : l.length ≤ 9223372036854775807) : ACalls E 51 [odsV l, str id] (fun r t => r = i64 (placeI l id) ∧ t = []) := by -- checkroll/order.place
  refine ACalls.of_awp (n := 8) (rs := [.tmp 4]) Try.func51 rfl Try.ntmps51 rfl ?_
  refine AWP.seqk fun K1 hK1 => ?_
  refine AWP.region ?_
  simp only [go_sem] -- region 0
  repeat' (first | (refine AGet.haveM (by assumption) ?_; (try simp only [go_sem])) | (refine AGet.have' (by assumption) ?_; (try simp only [go_sem])) | ((first | refine AGet.nth ?_ (fun b hb => ?_) | refine AGet.nth1 ?_ (fun b hb => ?_) | with_reducible refine And.intro ?_ ?_); (focus ((first | omega | exact List.length_pos_iff.2 (by assumption) | (simp only [List.length_append, List.length_cons, List.length_nil, List.length_map, List.length_take, List.length_drop] at *; omega) | (rw [wrap64_id (by omega) (by omega)]; omega) | (simp; done)))); (try simp only [hb, go_sem])))
  refine hK1 _ ?_; clear hK1 K1
  refine AWP.seqk fun K2 hK2 => ?_
  refine AWP.region ?_
  simp only [go_sem] -- region 1
  repeat' (first | (refine ACall.snapOne (oindex_c l id hl) (by kernel_rfl) rfl (.cons (.one (.clean rfl)) (.cons (.fn (.cons (.ptr (e := .agg [str id]) rfl (cl_str id)) .nil)) .nil)) ?_; simp only [go_sem]) | (refine ACall.one (oindex_c _ _ (by omega)) (by kernel_rfl) rfl ?_; simp only [go_sem]) | (refine AGet.haveM (by assumption) ?_; (try simp only [go_sem])) | (refine AGet.have' (by assumption) ?_; (try simp only [go_sem])) | ((first | refine AGet.nth ?_ (fun b hb => ?_) | refine AGet.nth1 ?_ (fun b hb => ?_) | with_reducible refine And.intro ?_ ?_); (focus ((first | omega | exact List.length_pos_iff.2 (by assumption) | (simp only [List.length_append, List.length_cons, List.length_nil, List.length_map, List.length_take, List.length_drop] at *; omega) | (rw [wrap64_id (by omega) (by omega)]; omega) | (simp; done)))); (try simp only [hb, go_sem])))
  refine hK2 _ ?_; clear hK2 K2
  refine AWP.ret ?_
  try simp only [go_sem]
  exact ⟨[], .v _, rfl, rfl, rfl, rfl⟩


set_option maxHeartbeats 4000000 in
set_option maxRecDepth 8000 in
theorem oright_c (l : List Od) (hl : l.length ≤ 9223372036854775807) : ACalls E 30 [odsV l] (fun r t => r = bl (rightO l) ∧ t = []) := by -- checkroll/order.Right
  refine ACalls.of_awp (n := 28) (rs := [.tmp 2]) Try.func30 rfl Try.ntmps30 rfl ?_
  refine AWP.seqk fun K1 hK1 => ?_
  refine AWP.region ?_
  simp only [go_sem] -- region 0
  repeat' (first | (refine AGet.haveM (by assumption) ?_; (try simp only [go_sem])) | (refine AGet.have' (by assumption) ?_; (try simp only [go_sem])) | ((first | refine AGet.nth ?_ (fun b hb => ?_) | refine AGet.nth1 ?_ (fun b hb => ?_) | with_reducible refine And.intro ?_ ?_); (focus ((first | omega | exact List.length_pos_iff.2 (by assumption) | (simp only [List.length_append, List.length_cons, List.length_nil, List.length_map, List.length_take, List.length_drop] at *; omega) | (rw [wrap64_id (by omega) (by omega)]; omega) | (simp; done)))); (try simp only [hb, go_sem])))
  refine hK1 _ ?_; clear hK1 K1
  refine AWP.seqk fun K2 hK2 => ?_
  refine AWP.seqk fun K3 hK3 => ?_
  refine AWP.region ?_
  simp only [go_sem] -- region 1
  repeat' (first | (refine AGet.haveM (by assumption) ?_; (try simp only [go_sem])) | (refine AGet.have' (by assumption) ?_; (try simp only [go_sem])) | ((first | refine AGet.nth ?_ (fun b hb => ?_) | refine AGet.nth1 ?_ (fun b hb => ?_) | with_reducible refine And.intro ?_ ?_); (focus ((first | omega | exact List.length_pos_iff.2 (by assumption) | (simp only [List.length_append, List.length_cons, List.length_nil, List.length_map, List.length_take, List.length_drop] at *; omega) | (rw [wrap64_id (by omega) (by omega)]; omega) | (simp; done)))); (try simp only [hb, go_sem])))
  refine hK3 _ ?_; clear hK3 K3
  refine AWP.cond rfl (fun c7 => ?_) (fun c7 => ?_)
  · first | exact Bool.noConfusion c7 | (
      try simp only [dD] at c7
      refine AWP.seqk fun K4 hK4 => ?_
      refine AWP.region ?_
      simp only [go_sem] -- region 2
      repeat' (first | (refine AGet.haveM (by assumption) ?_; (try simp only [go_sem])) | (refine AGet.have' (by assumption) ?_; (try simp only [go_sem])) | ((first | refine AGet.nth ?_ (fun b hb => ?_) | refine AGet.nth1 ?_ (fun b hb => ?_) | with_reducible refine And.intro ?_ ?_); (focus ((first | omega | exact List.length_pos_iff.2 (by assumption) | (simp only [List.length_append, List.length_cons, List.length_nil, List.length_map, List.length_take, List.length_drop] at *; omega) | (rw [wrap64_id (by omega) (by omega)]; omega) | (simp; done)))); (try simp only [hb, go_sem])))
      refine hK4 _ ?_; clear hK4 K4
      refine AWP.ret ?_
      try simp only [go_sem]
      clear hK2 K2
      first
      | exact ⟨[], .v _, rfl, rfl, by rw [right_no1 (by omega)], rfl⟩
      | exact ⟨[], .v _, rfl, rfl, by rw [right_no2 (by omega) (okAt_no1 hb (by assumption))], rfl⟩
      | exact ⟨[], .v _, rfl, rfl, by rw [right_no2 (by omega) (okAt_no2 hb (by assumption))], rfl⟩
      | exact ⟨[], .v _, rfl, rfl, by rw [right_yes h2 (by omega) h3], rfl⟩
      | skip)
  · first | exact Bool.noConfusion c7 | (
      try simp only [dD] at c7
      refine AWP.skip ?_
      refine hK2 _ ?_; clear hK2 K2
      refine AWP.seqk fun K5 hK5 => ?_
      refine AWP.seqk fun K6 hK6 => ?_
      refine AWP.region ?_
      simp only [go_sem] -- region 3
      repeat' (first | (refine AGet.haveM (by assumption) ?_; (try simp only [go_sem])) | (refine AGet.have' (by assumption) ?_; (try simp only [go_sem])) | ((first | refine AGet.nth ?_ (fun b hb => ?_) | refine AGet.nth1 ?_ (fun b hb => ?_) | with_reducible refine And.intro ?_ ?_); (focus ((first | omega | exact List.length_pos_iff.2 (by assumption) | (simp only [List.length_append, List.length_cons, List.length_nil, List.length_map, List.length_take, List.length_drop] at *; omega) | (rw [wrap64_id (by omega) (by omega)]; omega) | (simp; done)))); (try simp only [hb, go_sem])))
      refine hK6 _ ?_; clear hK6 K6
      refine AWP.block ?_ -- 0
      refine AWP.loopH (ι := Nat) [2, 3, 4, 11, 12, 13, 14, 15, 16, 17, 18, 19, 20, 21, 22, 23, 24, 25, 26, 27] (fun (i : Nat) => [(10, i64 i)]) (fun (i : Nat) => i ≤ l.length ∧ l.length ≤ 64 ∧ rightGo l i = true) (fun (i : Nat) => l.length - i) (0) ?_ ?_ ?_
      · (try simp only [go_sem]); try (simp; done)
      · exact ⟨by omega, by omega, rfl⟩
      rintro i ⟨h1, h2, h3⟩
      simp only [go_sem]
      refine AWP.seqk fun K7 hK7 => ?_
      refine AWP.region ?_
      simp only [go_sem] -- region 4
      repeat' (first | (refine AGet.haveM (by assumption) ?_; (try simp only [go_sem])) | (refine AGet.have' (by assumption) ?_; (try simp only [go_sem])) | ((first | refine AGet.nth ?_ (fun b hb => ?_) | refine AGet.nth1 ?_ (fun b hb => ?_) | with_reducible refine And.intro ?_ ?_); (focus ((first | omega | exact List.length_pos_iff.2 (by assumption) | (simp only [List.length_append, List.length_cons, List.length_nil, List.length_map, List.length_take, List.length_drop] at *; omega) | (rw [wrap64_id (by omega) (by omega)]; omega) | (simp; done)))); (try simp only [hb, go_sem])))
      refine hK7 _ ?_; clear hK7 K7
      refine AWP.seqk fun K8 hK8 => ?_
      refine AWP.cond rfl (fun c11 => ?_) (fun c11 => ?_)
      · first | exact Bool.noConfusion c11 | (
          try simp only [dD] at c11
          refine AWP.skip ?_
          refine hK8 _ ?_; clear hK8 K8
          refine AWP.seqk fun K9 hK9 => ?_
          refine AWP.block ?_ -- 1
          refine AWP.seqk fun K10 hK10 => ?_
          refine AWP.region ?_
          simp only [go_sem] -- region 5
          repeat' (first | (refine AGet.haveM (by assumption) ?_; (try simp only [go_sem])) | (refine AGet.have' (by assumption) ?_; (try simp only [go_sem])) | ((first | refine AGet.nth ?_ (fun b hb => ?_) | refine AGet.nth1 ?_ (fun b hb => ?_) | with_reducible refine And.intro ?_ ?_); (focus ((first | omega | exact List.length_pos_iff.2 (by assumption) | (simp only [List.length_append, List.length_cons, List.length_nil, List.length_map, List.length_take, List.length_drop] at *; omega) | (rw [wrap64_id (by omega) (by omega)]; omega) | (simp; done)))); (try simp only [hb, go_sem])))
          refine hK10 _ ?_; clear hK10 K10
          refine AWP.seqk fun K11 hK11 => ?_
          refine AWP.regionAs [0, 1, 2, 3, 4, 5, 6, 7, 8, 9, 10, 11] [[], [0], [0, 1], [0, 1, 2], [0, 1, 2, 3], [0, 1, 2, 3], [0, 1, 2, 3, 4, 5], [0, 1, 2, 3], [0, 1, 2, 3, 7], [0, 1, 2, 3, 4, 5, 6, 7, 8], [0, 1, 2, 3, 4, 5, 6, 7, 8, 9], [0, 1, 2, 3, 4, 5, 6, 7, 8, 9, 10]] [] (by kernel_rfl) (by kernel_rfl) (by decide) rfl ?_
          simp only [go_sem] -- region 6
          repeat' (first | (refine ACall.one (omay_c _) (by kernel_rfl) rfl ?_; simp only [go_sem]) | (refine ACall.one (oplace_c _ _ (by first | omega | (simp only [List.length_take]; omega))) (by kernel_rfl) rfl ?_; simp only [go_sem]) | (refine AGuard.splitN (fun h => ?_) (fun h => ?_) <;> simp only [h, go_sem] <;> try simp only [dD] at h) | (refine AGuard.split (fun h => ?_) (fun h => ?_) <;> simp only [h, go_sem] <;> try simp only [dD] at h) | (refine AGet.haveM (by assumption) ?_; (try simp only [go_sem])) | (refine AGet.have' (by assumption) ?_; (try simp only [go_sem])) | ((first | refine AGet.nth ?_ (fun b hb => ?_) | refine AGet.nth1 ?_ (fun b hb => ?_) | with_reducible refine And.intro ?_ ?_); (focus ((first | omega | exact List.length_pos_iff.2 (by assumption) | (simp only [List.length_append, List.length_cons, List.length_nil, List.length_map, List.length_take, List.length_drop] at *; omega) | (rw [wrap64_id (by omega) (by omega)]; omega) | (simp; done)))); (try simp only [hb, go_sem])))
          all_goals (
            refine hK11 _ ?_; clear hK11 K11
            refine AWP.cond rfl (fun c26 => ?_) (fun c26 => ?_)
            · first | exact Bool.noConfusion c26 | (
                try simp only [dD] at c26
                refine AWP.seqk fun K12 hK12 => ?_
                refine AWP.region ?_
                simp only [go_sem] -- region 7
                repeat' (first | (refine AGet.haveM (by assumption) ?_; (try simp only [go_sem])) | (refine AGet.have' (by assumption) ?_; (try simp only [go_sem])) | ((first | refine AGet.nth ?_ (fun b hb => ?_) | refine AGet.nth1 ?_ (fun b hb => ?_) | with_reducible refine And.intro ?_ ?_); (focus ((first | omega | exact List.length_pos_iff.2 (by assumption) | (simp only [List.length_append, List.length_cons, List.length_nil, List.length_map, List.length_take, List.length_drop] at *; omega) | (rw [wrap64_id (by omega) (by omega)]; omega) | (simp; done)))); (try simp only [hb, go_sem])))
                refine hK12 _ ?_; clear hK12 K12
                refine AWP.ret ?_
                try simp only [go_sem]
                clear hK9 K9 hK5 K5
                first
                | exact ⟨[], .v _, rfl, rfl, by rw [right_no1 (by omega)], rfl⟩
                | exact ⟨[], .v _, rfl, rfl, by rw [right_no2 (by omega) (okAt_no1 hb (by assumption))], rfl⟩
                | exact ⟨[], .v _, rfl, rfl, by rw [right_no2 (by omega) (okAt_no2 hb (by assumption))], rfl⟩
                | exact ⟨[], .v _, rfl, rfl, by rw [right_yes h2 (by omega) h3], rfl⟩
                | skip)
            · first | exact Bool.noConfusion c26 | (
                try simp only [dD] at c26
                refine AWP.skip ?_
                refine hK9 _ ?_; clear hK9 K9
                refine AWP.region ?_
                simp only [go_sem] -- region 8
                repeat' (first | (refine AGet.haveM (by assumption) ?_; (try simp only [go_sem])) | (refine AGet.have' (by assumption) ?_; (try simp only [go_sem])) | ((first | refine AGet.nth ?_ (fun b hb => ?_) | refine AGet.nth1 ?_ (fun b hb => ?_) | with_reducible refine And.intro ?_ ?_); (focus ((first | omega | exact List.length_pos_iff.2 (by assumption) | (simp only [List.length_append, List.length_cons, List.length_nil, List.length_map, List.length_take, List.length_drop] at *; omega) | (rw [wrap64_id (by omega) (by omega)]; omega) | (simp; done)))); (try simp only [hb, go_sem])))
                clear hK5 K5
                refine ⟨i + 1, ?_, ?_, ?_⟩
                · (try simp only [go_sem]); (try rw [wrap64_id (by omega) (by omega)]); simp
                · exact ⟨by omega, by omega, rightGo_next h3 (okAt_yes hb (by assumption) (by assumption))⟩
                · omega)))
      · first | exact Bool.noConfusion c11 | (
          try simp only [dD] at c11
          refine AWP.exit ?_
          simp only [go_sem]
          clear hK8 K8
          refine hK5 _ ?_; clear hK5 K5
          refine AWP.seqk fun K13 hK13 => ?_
          refine AWP.region ?_
          simp only [go_sem] -- region 9
          repeat' (first | (refine AGet.haveM (by assumption) ?_; (try simp only [go_sem])) | (refine AGet.have' (by assumption) ?_; (try simp only [go_sem])) | ((first | refine AGet.nth ?_ (fun b hb => ?_) | refine AGet.nth1 ?_ (fun b hb => ?_) | with_reducible refine And.intro ?_ ?_); (focus ((first | omega | exact List.length_pos_iff.2 (by assumption) | (simp only [List.length_append, List.length_cons, List.length_nil, List.length_map, List.length_take, List.length_drop] at *; omega) | (rw [wrap64_id (by omega) (by omega)]; omega) | (simp; done)))); (try simp only [hb, go_sem])))
          refine hK13 _ ?_; clear hK13 K13
          refine AWP.ret ?_
          try simp only [go_sem]
          first
          | exact ⟨[], .v _, rfl, rfl, by rw [right_no1 (by omega)], rfl⟩
          | exact ⟨[], .v _, rfl, rfl, by rw [right_no2 (by omega) (okAt_no1 hb (by assumption))], rfl⟩
          | exact ⟨[], .v _, rfl, rfl, by rw [right_no2 (by omega) (okAt_no2 hb (by assumption))], rfl⟩
          | exact ⟨[], .v _, rfl, rfl, by rw [right_yes h2 (by omega) h3], rfl⟩
          | skip))


end Go.Proofs.Ytajeeghgiilhiaa
