import Derived.Test.YtlhdnenlgceeeaaN2
set_option linter.unusedVariables false
set_option linter.unusedSimpArgs false
namespace Go.Proofs.Ytlhdnenlgceeeaa
open Go Go.Abs Go.RowKit Go.Bk

theorem res_err {r : List Od × Int} {e : Int} (h : r.2 = e) (he : e ≠ 0) : ∃ x, AV.tup [.any, i64 e] = .tup [x, i64 r.2] ∧ (r.2 = 0 → x = odsV r.1) := ⟨.any, by rw [h], fun h0 => absurd (h.symm.trans h0) he⟩
theorem res_ok {r : List Od × Int} {l : List Od} (h : r = (l, 0)) : ∃ x, AV.tup [odsV l, i64 0] = .tup [x, i64 r.2] ∧ (r.2 = 0 → x = odsV r.1) := ⟨odsV l, by rw [h], fun _ => by rw [h]⟩

set_option maxHeartbeats 4000000 in
set_option maxRecDepth 8000 in
theorem oopen_c (l : List Od) (id : Bs) (hl : l.length ≤ 9223372036854775807) : ACalls E 132 [odsV l, str id] (fun r t => r = i64 (openI l id) ∧ t = []) := by -- checkroll/order.open
  refine ACalls.of_awp (n := 20) (rs := [.tmp 4]) Try.func132 rfl Try.ntmps132 rfl ?_
  refine AWP.seqk fun K1 hK1 => ?_
  refine AWP.region ?_
  simp only [go_sem] -- region 0
  repeat' (first | (refine AGet.haveM (by assumption) ?_; (try simp only [go_sem])) | (refine AGet.have' (by assumption) ?_; (try simp only [go_sem])) | ((first | refine AGet.nth ?_ (fun b hb => ?_) | refine AGet.nth1 ?_ (fun b hb => ?_) | with_reducible refine And.intro ?_ ?_); (focus ((first | omega | exact List.length_pos_iff.2 (by assumption) | (simp only [List.length_append, List.length_cons, List.length_nil, List.length_map, List.length_take, List.length_drop] at *; omega) | (rw [wrap64_id (by omega) (by omega)]; omega) | (simp; done)))); (try simp only [hb, go_sem])))
  refine hK1 _ ?_; clear hK1 K1
  refine AWP.seqk fun K2 hK2 => ?_
  refine AWP.region ?_
  simp only [go_sem] -- region 1
  repeat' (first | (refine ACall.one (oplace_c _ _ (by first | omega | (simp only [List.length_take]; omega))) (by kernel_rfl) rfl ?_; simp only [go_sem]) | (refine AGet.haveM (by assumption) ?_; (try simp only [go_sem])) | (refine AGet.have' (by assumption) ?_; (try simp only [go_sem])) | ((first | refine AGet.nth ?_ (fun b hb => ?_) | refine AGet.nth1 ?_ (fun b hb => ?_) | with_reducible refine And.intro ?_ ?_); (focus ((first | omega | exact List.length_pos_iff.2 (by assumption) | (simp only [List.length_append, List.length_cons, List.length_nil, List.length_map, List.length_take, List.length_drop] at *; omega) | (rw [wrap64_id (by omega) (by omega)]; omega) | (simp; done)))); (try simp only [hb, go_sem])))
  refine hK2 _ ?_; clear hK2 K2
  refine AWP.seqk fun K3 hK3 => ?_
  refine AWP.seqk fun K4 hK4 => ?_
  rcases placeI_cases l id with ⟨e, e2⟩ | ⟨n, o, e, e2, hb⟩ <;> simp only [e]
  all_goals (
    refine AWP.region ?_
    simp only [go_sem] -- region 2
    repeat' (first | (refine AGuard.splitN (fun h => ?_) (fun h => ?_) <;> simp only [h, go_sem] <;> try simp only [dD] at h) | (refine AGuard.split (fun h => ?_) (fun h => ?_) <;> simp only [h, go_sem] <;> try simp only [dD] at h) | (refine AGet.haveM (by assumption) ?_; (try simp only [go_sem])) | (refine AGet.have' (by assumption) ?_; (try simp only [go_sem])) | ((first | refine AGet.nth ?_ (fun b hb => ?_) | refine AGet.nth1 ?_ (fun b hb => ?_) | with_reducible refine And.intro ?_ ?_); (focus ((first | omega | exact List.length_pos_iff.2 (by assumption) | (simp only [List.length_append, List.length_cons, List.length_nil, List.length_map, List.length_take, List.length_drop] at *; omega) | (rw [wrap64_id (by omega) (by omega)]; omega) | (simp; done)))); (try simp only [hb, go_sem])))
    all_goals (
      refine hK4 _ ?_; clear hK4 K4
      refine AWP.cond rfl (fun c18 => ?_) (fun c18 => ?_)
      · first | exact Bool.noConfusion c18 | (
          try simp only [dD] at c18
          refine AWP.seqk fun K5 hK5 => ?_
          refine AWP.region ?_
          simp only [go_sem] -- region 3
          repeat' (first | (refine AGet.haveM (by assumption) ?_; (try simp only [go_sem])) | (refine AGet.have' (by assumption) ?_; (try simp only [go_sem])) | ((first | refine AGet.nth ?_ (fun b hb => ?_) | refine AGet.nth1 ?_ (fun b hb => ?_) | with_reducible refine And.intro ?_ ?_); (focus ((first | omega | exact List.length_pos_iff.2 (by assumption) | (simp only [List.length_append, List.length_cons, List.length_nil, List.length_map, List.length_take, List.length_drop] at *; omega) | (rw [wrap64_id (by omega) (by omega)]; omega) | (simp; done)))); (try simp only [hb, go_sem])))
          refine hK5 _ ?_; clear hK5 K5
          refine AWP.ret ?_
          try simp only [go_sem]
          clear hK3 K3
          first
          | exact ⟨[], .v _, rfl, rfl, by rw [openI_no e hb (by assumption)], rfl⟩
          | exact ⟨[], .v _, rfl, rfl, by rw [openI_yes e hb (by assumption)], rfl⟩
          | exact ⟨[], .v _, rfl, rfl, by rw [openI_none (by omega), e], rfl⟩
          | skip)
      · first | exact Bool.noConfusion c18 | (
          try simp only [dD] at c18
          refine AWP.skip ?_
          refine hK3 _ ?_; clear hK3 K3
          refine AWP.seqk fun K6 hK6 => ?_
          refine AWP.region ?_
          simp only [go_sem] -- region 4
          repeat' (first | (refine AGet.haveM (by assumption) ?_; (try simp only [go_sem])) | (refine AGet.have' (by assumption) ?_; (try simp only [go_sem])) | ((first | refine AGet.nth ?_ (fun b hb => ?_) | refine AGet.nth1 ?_ (fun b hb => ?_) | with_reducible refine And.intro ?_ ?_); (focus ((first | omega | exact List.length_pos_iff.2 (by assumption) | (simp only [List.length_append, List.length_cons, List.length_nil, List.length_map, List.length_take, List.length_drop] at *; omega) | (rw [wrap64_id (by omega) (by omega)]; omega) | (simp; done)))); (try simp only [hb, go_sem])))
          refine hK6 _ ?_; clear hK6 K6
          refine AWP.ret ?_
          try simp only [go_sem]
          first
          | exact ⟨[], .v _, rfl, rfl, by rw [openI_no e hb (by assumption)], rfl⟩
          | exact ⟨[], .v _, rfl, rfl, by rw [openI_yes e hb (by assumption)], rfl⟩
          | exact ⟨[], .v _, rfl, rfl, by rw [openI_none (by omega), e], rfl⟩
          | skip)))


set_option maxHeartbeats 4000000 in
set_option maxRecDepth 8000 in
theorem ofind_c (l : List Od) (id : Bs) (hl : l.length ≤ 9223372036854775807) : ACalls E 100 [odsV l, str id] (fun r t => r = .tup [odV (findF l id).1, bl (findF l id).2] ∧ t = []) := by -- checkroll/order.Find
  refine ACalls.of_awp (n := 21) (rs := [.cell 4 40, .tmp 5]) Try.func100 rfl Try.ntmps100 rfl ?_
  refine AWP.seqk fun K1 hK1 => ?_
  refine AWP.region ?_
  simp only [go_sem] -- region 0
  repeat' (first | (refine AGet.haveM (by assumption) ?_; (try simp only [go_sem])) | (refine AGet.have' (by assumption) ?_; (try simp only [go_sem])) | ((first | refine AGet.nth ?_ (fun b hb => ?_) | refine AGet.nth1 ?_ (fun b hb => ?_) | with_reducible refine And.intro ?_ ?_); (focus ((first | omega | exact List.length_pos_iff.2 (by assumption) | (simp only [List.length_append, List.length_cons, List.length_nil, List.length_map, List.length_take, List.length_drop] at *; omega) | (rw [wrap64_id (by omega) (by omega)]; omega) | (simp; done)))); (try simp only [hb, go_sem])))
  refine hK1 _ ?_; clear hK1 K1
  refine AWP.seqk fun K2 hK2 => ?_
  refine AWP.seqk fun K3 hK3 => ?_
  refine AWP.region ?_
  simp only [go_sem] -- region 1
  repeat' (first | (refine ACall.one (oright_c _ (by omega)) (by kernel_rfl) rfl ?_; simp only [go_sem]) | (refine AGet.haveM (by assumption) ?_; (try simp only [go_sem])) | (refine AGet.have' (by assumption) ?_; (try simp only [go_sem])) | ((first | refine AGet.nth ?_ (fun b hb => ?_) | refine AGet.nth1 ?_ (fun b hb => ?_) | with_reducible refine And.intro ?_ ?_); (focus ((first | omega | exact List.length_pos_iff.2 (by assumption) | (simp only [List.length_append, List.length_cons, List.length_nil, List.length_map, List.length_take, List.length_drop] at *; omega) | (rw [wrap64_id (by omega) (by omega)]; omega) | (simp; done)))); (try simp only [hb, go_sem])))
  refine hK3 _ ?_; clear hK3 K3
  refine AWP.cond rfl (fun c9 => ?_) (fun c9 => ?_)
  · first | exact Bool.noConfusion c9 | (
      try simp only [dD] at c9
      refine AWP.seqk fun K4 hK4 => ?_
      refine AWP.region ?_
      simp only [go_sem] -- region 2
      repeat' (first | (refine AGet.haveM (by assumption) ?_; (try simp only [go_sem])) | (refine AGet.have' (by assumption) ?_; (try simp only [go_sem])) | ((first | refine AGet.nth ?_ (fun b hb => ?_) | refine AGet.nth1 ?_ (fun b hb => ?_) | with_reducible refine And.intro ?_ ?_); (focus ((first | omega | exact List.length_pos_iff.2 (by assumption) | (simp only [List.length_append, List.length_cons, List.length_nil, List.length_map, List.length_take, List.length_drop] at *; omega) | (rw [wrap64_id (by omega) (by omega)]; omega) | (simp; done)))); (try simp only [hb, go_sem])))
      refine hK4 _ ?_; clear hK4 K4
      refine AWP.ret ?_
      try simp only [go_sem]
      clear hK2 K2
      first
      | exact ⟨[], .tup [odV zeroO, .v _], rfl, ⟨⟨rfl, rfl, rfl, rfl, rfl, rfl, rfl, rfl, trivial⟩, rfl, trivial⟩, by rw [find_no1 (by assumption)], rfl⟩
      | exact ⟨[], .tup [odV zeroO, .v _], rfl, ⟨⟨rfl, rfl, rfl, rfl, rfl, rfl, rfl, rfl, trivial⟩, rfl, trivial⟩, by rw [find_no2 (by assumption) (by omega)], rfl⟩
      | exact ⟨[], .tup [odV o, .v _], rfl, ⟨⟨rfl, rfl, rfl, rfl, rfl, rfl, rfl, rfl, trivial⟩, rfl, trivial⟩, by rw [find_yes (by assumption) e hb], rfl⟩
      | skip)
  · first | exact Bool.noConfusion c9 | (
      try simp only [dD] at c9
      refine AWP.skip ?_
      refine hK2 _ ?_; clear hK2 K2
      refine AWP.seqk fun K5 hK5 => ?_
      refine AWP.region ?_
      simp only [go_sem] -- region 3
      repeat' (first | (refine ACall.one (oplace_c _ _ (by first | omega | (simp only [List.length_take]; omega))) (by kernel_rfl) rfl ?_; simp only [go_sem]) | (refine AGet.haveM (by assumption) ?_; (try simp only [go_sem])) | (refine AGet.have' (by assumption) ?_; (try simp only [go_sem])) | ((first | refine AGet.nth ?_ (fun b hb => ?_) | refine AGet.nth1 ?_ (fun b hb => ?_) | with_reducible refine And.intro ?_ ?_); (focus ((first | omega | exact List.length_pos_iff.2 (by assumption) | (simp only [List.length_append, List.length_cons, List.length_nil, List.length_map, List.length_take, List.length_drop] at *; omega) | (rw [wrap64_id (by omega) (by omega)]; omega) | (simp; done)))); (try simp only [hb, go_sem])))
      refine hK5 _ ?_; clear hK5 K5
      refine AWP.seqk fun K6 hK6 => ?_
      refine AWP.seqk fun K7 hK7 => ?_
      refine AWP.region ?_
      simp only [go_sem] -- region 4
      repeat' (first | (refine AGet.haveM (by assumption) ?_; (try simp only [go_sem])) | (refine AGet.have' (by assumption) ?_; (try simp only [go_sem])) | ((first | refine AGet.nth ?_ (fun b hb => ?_) | refine AGet.nth1 ?_ (fun b hb => ?_) | with_reducible refine And.intro ?_ ?_); (focus ((first | omega | exact List.length_pos_iff.2 (by assumption) | (simp only [List.length_append, List.length_cons, List.length_nil, List.length_map, List.length_take, List.length_drop] at *; omega) | (rw [wrap64_id (by omega) (by omega)]; omega) | (simp; done)))); (try simp only [hb, go_sem])))
      refine hK7 _ ?_; clear hK7 K7
      refine AWP.cond rfl (fun c15 => ?_) (fun c15 => ?_)
      · first | exact Bool.noConfusion c15 | (
          try simp only [dD] at c15
          refine AWP.seqk fun K8 hK8 => ?_
          refine AWP.region ?_
          simp only [go_sem] -- region 5
          repeat' (first | (refine AGet.haveM (by assumption) ?_; (try simp only [go_sem])) | (refine AGet.have' (by assumption) ?_; (try simp only [go_sem])) | ((first | refine AGet.nth ?_ (fun b hb => ?_) | refine AGet.nth1 ?_ (fun b hb => ?_) | with_reducible refine And.intro ?_ ?_); (focus ((first | omega | exact List.length_pos_iff.2 (by assumption) | (simp only [List.length_append, List.length_cons, List.length_nil, List.length_map, List.length_take, List.length_drop] at *; omega) | (rw [wrap64_id (by omega) (by omega)]; omega) | (simp; done)))); (try simp only [hb, go_sem])))
          refine hK8 _ ?_; clear hK8 K8
          refine AWP.ret ?_
          try simp only [go_sem]
          clear hK6 K6
          first
          | exact ⟨[], .tup [odV zeroO, .v _], rfl, ⟨⟨rfl, rfl, rfl, rfl, rfl, rfl, rfl, rfl, trivial⟩, rfl, trivial⟩, by rw [find_no1 (by assumption)], rfl⟩
          | exact ⟨[], .tup [odV zeroO, .v _], rfl, ⟨⟨rfl, rfl, rfl, rfl, rfl, rfl, rfl, rfl, trivial⟩, rfl, trivial⟩, by rw [find_no2 (by assumption) (by omega)], rfl⟩
          | exact ⟨[], .tup [odV o, .v _], rfl, ⟨⟨rfl, rfl, rfl, rfl, rfl, rfl, rfl, rfl, trivial⟩, rfl, trivial⟩, by rw [find_yes (by assumption) e hb], rfl⟩
          | skip)
      · first | exact Bool.noConfusion c15 | (
          try simp only [dD] at c15
          refine AWP.skip ?_
          refine hK6 _ ?_; clear hK6 K6
          refine AWP.seqk fun K9 hK9 => ?_
          obtain ⟨n, o, e, e2, hb⟩ : ∃ n o, placeI l id = (n : Nat) ∧ placeF l id = some n ∧ l[n]? = some o := by
            rcases placeI_cases l id with ⟨e, e2⟩ | h
            · exact absurd (show placeI l id < 0 by omega) (by assumption)
            · exact h
          simp only [e]
          refine AWP.region ?_
          simp only [go_sem] -- region 6
          repeat' (first | (refine AGet.haveM (by assumption) ?_; (try simp only [go_sem])) | (refine AGet.have' (by assumption) ?_; (try simp only [go_sem])) | ((first | refine AGet.nth ?_ (fun b hb => ?_) | refine AGet.nth1 ?_ (fun b hb => ?_) | with_reducible refine And.intro ?_ ?_); (focus ((first | omega | exact List.length_pos_iff.2 (by assumption) | (simp only [List.length_append, List.length_cons, List.length_nil, List.length_map, List.length_take, List.length_drop] at *; omega) | (rw [wrap64_id (by omega) (by omega)]; omega) | (simp; done)))); (try simp only [hb, go_sem])))
          refine hK9 _ ?_; clear hK9 K9
          refine AWP.ret ?_
          try simp only [go_sem]
          first
          | exact ⟨[], .tup [odV zeroO, .v _], rfl, ⟨⟨rfl, rfl, rfl, rfl, rfl, rfl, rfl, rfl, trivial⟩, rfl, trivial⟩, by rw [find_no1 (by assumption)], rfl⟩
          | exact ⟨[], .tup [odV zeroO, .v _], rfl, ⟨⟨rfl, rfl, rfl, rfl, rfl, rfl, rfl, rfl, trivial⟩, rfl, trivial⟩, by rw [find_no2 (by assumption) (by omega)], rfl⟩
          | exact ⟨[], .tup [odV o, .v _], rfl, ⟨⟨rfl, rfl, rfl, rfl, rfl, rfl, rfl, rfl, trivial⟩, rfl, trivial⟩, by rw [find_yes (by assumption) e hb], rfl⟩
          | skip))


set_option maxHeartbeats 4000000 in
set_option maxRecDepth 8000 in
theorem oclone_c (l : List Od) (hl : l.length ≤ 1000000) : ACalls E 82 [odsV l] (fun r t => r = .sl (some 0) 8 (l.map odV) ∧ t = [l.length]) := by -- slices.Clone[[]checkroll/api.Order,checkroll/api.Order]
  refine ACalls.of_awp (n := 8) (rs := [.tmp 2]) Try.func82 rfl Try.ntmps82 rfl ?_
  refine AWP.seqk fun K1 hK1 => ?_
  refine AWP.region ?_
  simp only [go_sem] -- region 0
  repeat' (first | (refine AGet.haveM (by assumption) ?_; (try simp only [go_sem])) | (refine AGet.have' (by assumption) ?_; (try simp only [go_sem])) | ((first | refine AGet.nth ?_ (fun b hb => ?_) | refine AGet.nth1 ?_ (fun b hb => ?_) | with_reducible refine And.intro ?_ ?_); (focus ((first | omega | exact List.length_pos_iff.2 (by assumption) | (simp only [List.length_append, List.length_cons, List.length_nil, List.length_map, List.length_take, List.length_drop] at *; omega) | (rw [wrap64_id (by omega) (by omega)]; omega) | (simp; done)))); (try simp only [hb, go_sem])))
  refine hK1 _ ?_; clear hK1 K1
  refine AWP.seqk fun K2 hK2 => ?_
  refine AWP.seqk fun K3 hK3 => ?_
  refine AWP.region ?_
  simp only [go_sem] -- region 1
  repeat' (first | (refine AGet.haveM (by assumption) ?_; (try simp only [go_sem])) | (refine AGet.have' (by assumption) ?_; (try simp only [go_sem])) | ((first | refine AGet.nth ?_ (fun b hb => ?_) | refine AGet.nth1 ?_ (fun b hb => ?_) | with_reducible refine And.intro ?_ ?_); (focus ((first | omega | exact List.length_pos_iff.2 (by assumption) | (simp only [List.length_append, List.length_cons, List.length_nil, List.length_map, List.length_take, List.length_drop] at *; omega) | (rw [wrap64_id (by omega) (by omega)]; omega) | (simp; done)))); (try simp only [hb, go_sem])))
  intro bb hbb
  refine hK3 _ ?_; clear hK3 K3
  refine AWP.cond rfl (fun c4 => ?_) (fun c4 => ?_)
  · first | exact Bool.noConfusion c4 | (
      try simp only [dD] at c4
      refine AWP.seqk fun K4 hK4 => ?_
      refine AWP.region ?_
      simp only [go_sem] -- region 2
      repeat' (first | (refine AGet.haveM (by assumption) ?_; (try simp only [go_sem])) | (refine AGet.have' (by assumption) ?_; (try simp only [go_sem])) | ((first | refine AGet.nth ?_ (fun b hb => ?_) | refine AGet.nth1 ?_ (fun b hb => ?_) | with_reducible refine And.intro ?_ ?_); (focus ((first | omega | exact List.length_pos_iff.2 (by assumption) | (simp only [List.length_append, List.length_cons, List.length_nil, List.length_map, List.length_take, List.length_drop] at *; omega) | (rw [wrap64_id (by omega) (by omega)]; omega) | (simp; done)))); (try simp only [hb, go_sem])))
      refine hK4 _ ?_; clear hK4 K4
      refine AWP.ret ?_
      try simp only [go_sem]
      clear hK2 K2
      first
      | (have he : l = [] := by
           apply Classical.byContradiction; intro hne
           have := hbb (by simpa using hne)
           rw [this] at c4; exact absurd c4 (by simp)
         exact ⟨[(false, 8)], .sl (some 0) 8 [], rfl, rfl, by rw [he]; rfl, by rw [he]; rfl⟩)
      | exact ⟨[(true, 0)], .sl (some 0) 8 _, rfl, ⟨rfl, rfl, rfl⟩, by simp, by simp [selLens]⟩
      | skip)
  · first | exact Bool.noConfusion c4 | (
      try simp only [dD] at c4
      refine AWP.skip ?_
      refine hK2 _ ?_; clear hK2 K2
      refine AWP.seqk fun K5 hK5 => ?_
      refine AWP.region ?_
      simp only [go_sem] -- region 3
      repeat' (first | (refine AGet.haveM (by assumption) ?_; (try simp only [go_sem])) | (refine AGet.have' (by assumption) ?_; (try simp only [go_sem])) | ((first | refine AGet.nth ?_ (fun b hb => ?_) | refine AGet.nth1 ?_ (fun b hb => ?_) | with_reducible refine And.intro ?_ ?_); (focus ((first | omega | exact List.length_pos_iff.2 (by assumption) | (simp only [List.length_append, List.length_cons, List.length_nil, List.length_map, List.length_take, List.length_drop] at *; omega) | (rw [wrap64_id (by omega) (by omega)]; omega) | (simp; done)))); (try simp only [hb, go_sem])))
      refine hK5 _ ?_; clear hK5 K5
      refine AWP.ret ?_
      try simp only [go_sem]
      first
      | (have he : l = [] := by
           apply Classical.byContradiction; intro hne
           have := hbb (by simpa using hne)
           rw [this] at c4; exact absurd c4 (by simp)
         exact ⟨[(false, 8)], .sl (some 0) 8 [], rfl, rfl, by rw [he]; rfl, by rw [he]; rfl⟩)
      | exact ⟨[(true, 0)], .sl (some 0) 8 _, rfl, ⟨rfl, rfl, rfl⟩, by simp, by simp [selLens]⟩
      | skip)


set_option maxHeartbeats 4000000 in
set_option maxRecDepth 8000 in
theorem onew_c (l : List Od) (o : Od) (hl : l.length ≤ 1000000) : ACalls E 98 [odsV l, odV o] (fun r t => (∃ x, r = .tup [x, i64 (newO l o).2] ∧ ((newO l o).2 = 0 → x = odsV (newO l o).1)) ∧ t = []) := by -- checkroll/order.New
  refine ACalls.of_awp (n := 36) (rs := [.tmp 4, .tmp 5]) Try.func98 rfl Try.ntmps98 rfl ?_
  refine AWP.seqk fun K1 hK1 => ?_
  refine AWP.region ?_
  simp only [go_sem] -- region 0
  repeat' (first | (refine AGet.haveM (by assumption) ?_; (try simp only [go_sem])) | (refine AGet.have' (by assumption) ?_; (try simp only [go_sem])) | ((first | refine AGet.nth ?_ (fun b hb => ?_) | refine AGet.nth1 ?_ (fun b hb => ?_) | with_reducible refine And.intro ?_ ?_); (focus ((first | omega | exact List.length_pos_iff.2 (by assumption) | (simp only [List.length_append, List.length_cons, List.length_nil, List.length_map, List.length_take, List.length_drop] at *; omega) | (rw [wrap64_id (by omega) (by omega)]; omega) | (simp; done)))); (try simp only [hb, go_sem])))
  refine hK1 _ ?_; clear hK1 K1
  refine AWP.seqk fun K2 hK2 => ?_
  refine AWP.region ?_
  simp only [go_sem] -- region 1
  repeat' (first | (refine ACall.of (oclone_c l hl) (by kernel_rfl) rfl ?_; rintro r t ⟨rfl, rfl⟩ <;> simp only [go_sem]) | (refine AGet.haveM (by assumption) ?_; (try simp only [go_sem])) | (refine AGet.have' (by assumption) ?_; (try simp only [go_sem])) | ((first | refine AGet.nth ?_ (fun b hb => ?_) | refine AGet.nth1 ?_ (fun b hb => ?_) | with_reducible refine And.intro ?_ ?_); (focus ((first | omega | exact List.length_pos_iff.2 (by assumption) | (simp only [List.length_append, List.length_cons, List.length_nil, List.length_map, List.length_take, List.length_drop] at *; omega) | (rw [wrap64_id (by omega) (by omega)]; omega) | (simp; done)))); (try simp only [hb, go_sem])))
  refine hK2 _ ?_; clear hK2 K2
  refine AWP.seqk fun K3 hK3 => ?_
  refine AWP.region ?_
  simp only [go_sem] -- region 2
  repeat' (first | (refine AGet.haveM (by assumption) ?_; (try simp only [go_sem])) | (refine AGet.have' (by assumption) ?_; (try simp only [go_sem])) | ((first | refine AGet.nth ?_ (fun b hb => ?_) | refine AGet.nth1 ?_ (fun b hb => ?_) | with_reducible refine And.intro ?_ ?_); (focus ((first | omega | exact List.length_pos_iff.2 (by assumption) | (simp only [List.length_append, List.length_cons, List.length_nil, List.length_map, List.length_take, List.length_drop] at *; omega) | (rw [wrap64_id (by omega) (by omega)]; omega) | (simp; done)))); (try simp only [hb, go_sem])))
  refine hK3 _ ?_; clear hK3 K3
  refine AWP.seqk fun K4 hK4 => ?_
  refine AWP.region ?_
  simp only [go_sem] -- region 3
  repeat' (first | (refine AGet.haveM (by assumption) ?_; (try simp only [go_sem])) | (refine AGet.have' (by assumption) ?_; (try simp only [go_sem])) | ((first | refine AGet.nth ?_ (fun b hb => ?_) | refine AGet.nth1 ?_ (fun b hb => ?_) | with_reducible refine And.intro ?_ ?_); (focus ((first | omega | exact List.length_pos_iff.2 (by assumption) | (simp only [List.length_append, List.length_cons, List.length_nil, List.length_map, List.length_take, List.length_drop] at *; omega) | (rw [wrap64_id (by omega) (by omega)]; omega) | (simp; done)))); (try simp only [hb, go_sem])))
  refine hK4 _ ?_; clear hK4 K4
  refine AWP.seqk fun K5 hK5 => ?_
  refine AWP.block ?_ -- 0
  refine AWP.seqk fun K6 hK6 => ?_
  refine AWP.region ?_
  simp only [go_sem] -- region 4
  repeat' (first | (refine ACall.one (oright_c _ (by omega)) (by kernel_rfl) rfl ?_; simp only [go_sem]) | (refine ACall.one (omay_c ⟨o.id, o.acc, o.sym, o.buy, o.qty, o.price, 0, true⟩) (by kernel_rfl) rfl ?_; simp only [go_sem]) | (refine AGuard.splitN (fun h => ?_) (fun h => ?_) <;> simp only [h, go_sem] <;> try simp only [dD] at h) | (refine AGuard.split (fun h => ?_) (fun h => ?_) <;> simp only [h, go_sem] <;> try simp only [dD] at h) | (refine AGet.haveM (by assumption) ?_; (try simp only [go_sem])) | (refine AGet.have' (by assumption) ?_; (try simp only [go_sem])) | ((first | refine AGet.nth ?_ (fun b hb => ?_) | refine AGet.nth1 ?_ (fun b hb => ?_) | with_reducible refine And.intro ?_ ?_); (focus ((first | omega | exact List.length_pos_iff.2 (by assumption) | (simp only [List.length_append, List.length_cons, List.length_nil, List.length_map, List.length_take, List.length_drop] at *; omega) | (rw [wrap64_id (by omega) (by omega)]; omega) | (simp; done)))); (try simp only [hb, go_sem])))
  all_goals (
    refine hK6 _ ?_; clear hK6 K6
    refine AWP.cond rfl (fun c10 => ?_) (fun c10 => ?_)
    · first | exact Bool.noConfusion c10 | (
        try simp only [dD] at c10
        refine AWP.seqk fun K7 hK7 => ?_
        refine AWP.region ?_
        simp only [go_sem] -- region 5
        repeat' (first | (refine AGet.haveM (by assumption) ?_; (try simp only [go_sem])) | (refine AGet.have' (by assumption) ?_; (try simp only [go_sem])) | ((first | refine AGet.nth ?_ (fun b hb => ?_) | refine AGet.nth1 ?_ (fun b hb => ?_) | with_reducible refine And.intro ?_ ?_); (focus ((first | omega | exact List.length_pos_iff.2 (by assumption) | (simp only [List.length_append, List.length_cons, List.length_nil, List.length_map, List.length_take, List.length_drop] at *; omega) | (rw [wrap64_id (by omega) (by omega)]; omega) | (simp; done)))); (try simp only [hb, go_sem])))
        refine hK7 _ ?_; clear hK7 K7
        refine AWP.ret ?_
        try simp only [go_sem]
        clear hK5 K5
        first
        | exact ⟨[], .tup [.any, .v _], rfl, ⟨trivial, rfl, trivial⟩, res_err (new_e1 (by assumption)) (by decide), rfl⟩
        | exact ⟨[], .tup [.any, .v _], rfl, ⟨trivial, rfl, trivial⟩, res_err (new_e1' (by assumption)) (by decide), rfl⟩
        | exact ⟨[], .tup [.any, .v _], rfl, ⟨trivial, rfl, trivial⟩, res_err (new_e7 (by assumption) (by assumption) (by assumption)) (by decide), rfl⟩
        | exact ⟨[], .tup [.any, .v _], rfl, ⟨trivial, rfl, trivial⟩, res_err (new_e5 (by assumption) (by assumption) (by assumption) (by omega)) (by decide), rfl⟩
        | exact ⟨[], .tup [.sl none 8 _, .v _], rfl, ⟨⟨rfl, by rw [List.map_append]; rfl⟩, rfl, trivial⟩, res_ok (new_ok (by assumption) (by assumption) (by assumption) (by omega)), rfl⟩
        | skip)
    · first | exact Bool.noConfusion c10 | (
        try simp only [dD] at c10
        refine AWP.seqk fun K8 hK8 => ?_
        refine AWP.region ?_
        simp only [go_sem] -- region 6
        repeat' (first | (refine ACall.one (oplace_c _ _ (by first | omega | (simp only [List.length_take]; omega))) (by kernel_rfl) rfl ?_; simp only [go_sem]) | (refine AGet.haveM (by assumption) ?_; (try simp only [go_sem])) | (refine AGet.have' (by assumption) ?_; (try simp only [go_sem])) | ((first | refine AGet.nth ?_ (fun b hb => ?_) | refine AGet.nth1 ?_ (fun b hb => ?_) | with_reducible refine And.intro ?_ ?_); (focus ((first | omega | exact List.length_pos_iff.2 (by assumption) | (simp only [List.length_append, List.length_cons, List.length_nil, List.length_map, List.length_take, List.length_drop] at *; omega) | (rw [wrap64_id (by omega) (by omega)]; omega) | (simp; done)))); (try simp only [hb, go_sem])))
        refine hK8 _ ?_; clear hK8 K8
        refine AWP.cond rfl (fun c20 => ?_) (fun c20 => ?_)
        · first | exact Bool.noConfusion c20 | (
            try simp only [dD] at c20
            refine AWP.seqk fun K9 hK9 => ?_
            refine AWP.region ?_
            simp only [go_sem] -- region 7
            repeat' (first | (refine AGet.haveM (by assumption) ?_; (try simp only [go_sem])) | (refine AGet.have' (by assumption) ?_; (try simp only [go_sem])) | ((first | refine AGet.nth ?_ (fun b hb => ?_) | refine AGet.nth1 ?_ (fun b hb => ?_) | with_reducible refine And.intro ?_ ?_); (focus ((first | omega | exact List.length_pos_iff.2 (by assumption) | (simp only [List.length_append, List.length_cons, List.length_nil, List.length_map, List.length_take, List.length_drop] at *; omega) | (rw [wrap64_id (by omega) (by omega)]; omega) | (simp; done)))); (try simp only [hb, go_sem])))
            refine hK9 _ ?_; clear hK9 K9
            refine AWP.ret ?_
            try simp only [go_sem]
            clear hK5 K5
            first
            | exact ⟨[], .tup [.any, .v _], rfl, ⟨trivial, rfl, trivial⟩, res_err (new_e1 (by assumption)) (by decide), rfl⟩
            | exact ⟨[], .tup [.any, .v _], rfl, ⟨trivial, rfl, trivial⟩, res_err (new_e1' (by assumption)) (by decide), rfl⟩
            | exact ⟨[], .tup [.any, .v _], rfl, ⟨trivial, rfl, trivial⟩, res_err (new_e7 (by assumption) (by assumption) (by assumption)) (by decide), rfl⟩
            | exact ⟨[], .tup [.any, .v _], rfl, ⟨trivial, rfl, trivial⟩, res_err (new_e5 (by assumption) (by assumption) (by assumption) (by omega)) (by decide), rfl⟩
            | exact ⟨[], .tup [.sl none 8 _, .v _], rfl, ⟨⟨rfl, by rw [List.map_append]; rfl⟩, rfl, trivial⟩, res_ok (new_ok (by assumption) (by assumption) (by assumption) (by omega)), rfl⟩
            | skip)
        · first | exact Bool.noConfusion c20 | (
            try simp only [dD] at c20
            refine AWP.seqk fun K10 hK10 => ?_
            refine AWP.region ?_
            simp only [go_sem] -- region 8
            repeat' (first | (refine AGet.haveM (by assumption) ?_; (try simp only [go_sem])) | (refine AGet.have' (by assumption) ?_; (try simp only [go_sem])) | ((first | refine AGet.nth ?_ (fun b hb => ?_) | refine AGet.nth1 ?_ (fun b hb => ?_) | with_reducible refine And.intro ?_ ?_); (focus ((first | omega | exact List.length_pos_iff.2 (by assumption) | (simp only [List.length_append, List.length_cons, List.length_nil, List.length_map, List.length_take, List.length_drop] at *; omega) | (rw [wrap64_id (by omega) (by omega)]; omega) | (simp; done)))); (try simp only [hb, go_sem])))
            refine hK10 _ ?_; clear hK10 K10
            refine AWP.cond rfl (fun c27 => ?_) (fun c27 => ?_)
            · first | exact Bool.noConfusion c27 | (
                try simp only [dD] at c27
                refine AWP.seqk fun K11 hK11 => ?_
                refine AWP.region ?_
                simp only [go_sem] -- region 9
                repeat' (first | (refine AGet.haveM (by assumption) ?_; (try simp only [go_sem])) | (refine AGet.have' (by assumption) ?_; (try simp only [go_sem])) | ((first | refine AGet.nth ?_ (fun b hb => ?_) | refine AGet.nth1 ?_ (fun b hb => ?_) | with_reducible refine And.intro ?_ ?_); (focus ((first | omega | exact List.length_pos_iff.2 (by assumption) | (simp only [List.length_append, List.length_cons, List.length_nil, List.length_map, List.length_take, List.length_drop] at *; omega) | (rw [wrap64_id (by omega) (by omega)]; omega) | (simp; done)))); (try simp only [hb, go_sem])))
                refine hK11 _ ?_; clear hK11 K11
                refine AWP.ret ?_
                try simp only [go_sem]
                clear hK5 K5
                first
                | exact ⟨[], .tup [.any, .v _], rfl, ⟨trivial, rfl, trivial⟩, res_err (new_e1 (by assumption)) (by decide), rfl⟩
                | exact ⟨[], .tup [.any, .v _], rfl, ⟨trivial, rfl, trivial⟩, res_err (new_e1' (by assumption)) (by decide), rfl⟩
                | exact ⟨[], .tup [.any, .v _], rfl, ⟨trivial, rfl, trivial⟩, res_err (new_e7 (by assumption) (by assumption) (by assumption)) (by decide), rfl⟩
                | exact ⟨[], .tup [.any, .v _], rfl, ⟨trivial, rfl, trivial⟩, res_err (new_e5 (by assumption) (by assumption) (by assumption) (by omega)) (by decide), rfl⟩
                | exact ⟨[], .tup [.sl none 8 _, .v _], rfl, ⟨⟨rfl, by rw [List.map_append]; rfl⟩, rfl, trivial⟩, res_ok (new_ok (by assumption) (by assumption) (by assumption) (by omega)), rfl⟩
                | skip)
            · first | exact Bool.noConfusion c27 | (
                try simp only [dD] at c27
                refine AWP.skip ?_
                refine hK5 _ ?_; clear hK5 K5
                refine AWP.seqk fun K12 hK12 => ?_
                refine AWP.region ?_
                simp only [go_sem] -- region 10
                repeat' (first | (refine AGet.haveM (by assumption) ?_; (try simp only [go_sem])) | (refine AGet.have' (by assumption) ?_; (try simp only [go_sem])) | ((first | refine AGet.nth ?_ (fun b hb => ?_) | refine AGet.nth1 ?_ (fun b hb => ?_) | with_reducible refine And.intro ?_ ?_); (focus ((first | omega | exact List.length_pos_iff.2 (by assumption) | (simp only [List.length_append, List.length_cons, List.length_nil, List.length_map, List.length_take, List.length_drop] at *; omega) | (rw [wrap64_id (by omega) (by omega)]; omega) | (simp; done)))); (try simp only [hb, go_sem])))
                refine hK12 _ ?_; clear hK12 K12
                refine AWP.ret ?_
                try simp only [go_sem]
                first
                | exact ⟨[], .tup [.any, .v _], rfl, ⟨trivial, rfl, trivial⟩, res_err (new_e1 (by assumption)) (by decide), rfl⟩
                | exact ⟨[], .tup [.any, .v _], rfl, ⟨trivial, rfl, trivial⟩, res_err (new_e1' (by assumption)) (by decide), rfl⟩
                | exact ⟨[], .tup [.any, .v _], rfl, ⟨trivial, rfl, trivial⟩, res_err (new_e7 (by assumption) (by assumption) (by assumption)) (by decide), rfl⟩
                | exact ⟨[], .tup [.any, .v _], rfl, ⟨trivial, rfl, trivial⟩, res_err (new_e5 (by assumption) (by assumption) (by assumption) (by omega)) (by decide), rfl⟩
                | exact ⟨[], .tup [.sl none 8 _, .v _], rfl, ⟨⟨rfl, by rw [List.map_append]; rfl⟩, rfl, trivial⟩, res_ok (new_ok (by assumption) (by assumption) (by assumption) (by omega)), rfl⟩
                | skip))))


end Go.Proofs.Ytlhdnenlgceeeaa
