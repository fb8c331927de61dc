import Derived.Test.YtobaignbahnjbaaDoorN5
namespace Go.Proofs.YtobaignbahnjbaaDoor
open Go Go.Abs Go.RowKit Go.Fld
set_option linter.unusedVariables false
set_option linter.unusedSimpArgs false

theorem fread_c (s : Bs) (hs : s.length < 4294967281) : ACalls E 42 [str s] (fun r t => r = .tup [fldV (readR s).1, bl (readR s).2] ∧ t = []) := by -- checkroll/field.read
  refine ACalls.of_awp (n := 41) (rs := [.cell 2 46, .tmp 3]) Tryd.func42 rfl Tryd.ntmps42 rfl ?_
  refine AWP.seqk fun K1 hK1 => ?_
  refine AWP.region ?_
  simp only [go_sem] -- region 0
  repeat' (first | (refine AGet.haveM (by assumption) ?_; (try simp only [go_sem])) | (refine AGet.have' (by assumption) ?_; (try simp only [go_sem])) | ((first | refine AGet.nth ?_ (fun b hb => ?_) | refine AGet.nth1 ?_ (fun b hb => ?_) | with_reducible refine And.intro ?_ ?_); (focus ((first | omega | exact List.length_pos_iff.2 (by assumption) | (simp only [List.length_append, List.length_cons, List.length_nil, List.length_map, List.length_take, List.length_drop] at *; omega) | (rw [wrap64_id (by omega) (by omega)]; omega) | (simp; done)))); (try simp only [hb, go_sem])))
  refine hK1 _ ?_; clear hK1 K1
  refine AWP.seqk fun K2 hK2 => ?_
  refine AWP.region ?_
  simp only [go_sem] -- region 1
  repeat' (first | (refine ACall.of (sCut_c _ 61 (by omega)) (by kernel_rfl) rfl ?_; rintro r t ⟨rfl, rfl⟩ <;> rcases hc : cutB 61 s with _ | ⟨a, v⟩ <;> simp only [hc] <;> simp only [go_sem]) | (refine AGet.haveM (by assumption) ?_; (try simp only [go_sem])) | (refine AGet.have' (by assumption) ?_; (try simp only [go_sem])) | ((first | refine AGet.nth ?_ (fun b hb => ?_) | refine AGet.nth1 ?_ (fun b hb => ?_) | with_reducible refine And.intro ?_ ?_); (focus ((first | omega | exact List.length_pos_iff.2 (by assumption) | (simp only [List.length_append, List.length_cons, List.length_nil, List.length_map, List.length_take, List.length_drop] at *; omega) | (rw [wrap64_id (by omega) (by omega)]; omega) | (simp; done)))); (try simp only [hb, go_sem])))
  all_goals (
    refine hK2 _ ?_; clear hK2 K2
    refine AWP.seqk fun K3 hK3 => ?_
    refine AWP.seqk fun K4 hK4 => ?_
    refine AWP.region ?_
    simp only [go_sem] -- region 2
    repeat' (first | (refine AGet.haveM (by assumption) ?_; (try simp only [go_sem])) | (refine AGet.have' (by assumption) ?_; (try simp only [go_sem])) | ((first | refine AGet.nth ?_ (fun b hb => ?_) | refine AGet.nth1 ?_ (fun b hb => ?_) | with_reducible refine And.intro ?_ ?_); (focus ((first | omega | exact List.length_pos_iff.2 (by assumption) | (simp only [List.length_append, List.length_cons, List.length_nil, List.length_map, List.length_take, List.length_drop] at *; omega) | (rw [wrap64_id (by omega) (by omega)]; omega) | (simp; done)))); (try simp only [hb, go_sem])))
    refine hK4 _ ?_; clear hK4 K4
    refine AWP.cond rfl (fun c17 => ?_) (fun c17 => ?_)
    · first | exact Bool.noConfusion c17 | (
        try simp only [dD] at c17
        refine AWP.seqk fun K5 hK5 => ?_
        refine AWP.region ?_
        simp only [go_sem] -- region 3
        repeat' (first | (refine AGet.haveM (by assumption) ?_; (try simp only [go_sem])) | (refine AGet.have' (by assumption) ?_; (try simp only [go_sem])) | ((first | refine AGet.nth ?_ (fun b hb => ?_) | refine AGet.nth1 ?_ (fun b hb => ?_) | with_reducible refine And.intro ?_ ?_); (focus ((first | omega | exact List.length_pos_iff.2 (by assumption) | (simp only [List.length_append, List.length_cons, List.length_nil, List.length_map, List.length_take, List.length_drop] at *; omega) | (rw [wrap64_id (by omega) (by omega)]; omega) | (simp; done)))); (try simp only [hb, go_sem])))
        refine hK5 _ ?_; clear hK5 K5
        refine AWP.ret ?_
        try simp only [go_sem]
        clear hK3 K3
        first
        | exact ⟨[], .tup [.agg [.v _, .v _], .v _], rfl, ⟨⟨rfl, rfl, trivial⟩, rfl, trivial⟩, by rw [readR_none hc], rfl⟩
        | exact ⟨[], .tup [.agg [.v _, .v _], .v _], rfl, ⟨⟨rfl, rfl, trivial⟩, rfl, trivial⟩, by rw [readR_bad hc (by omega)], rfl⟩
        | exact ⟨[], .tup [.agg [.v _, .v _], .v _], rfl, ⟨⟨rfl, rfl, trivial⟩, rfl, trivial⟩, by rw [readR_at hc (by omega)], rfl⟩)
    · first | exact Bool.noConfusion c17 | (
        try simp only [dD] at c17
        refine AWP.skip ?_
        refine hK3 _ ?_; clear hK3 K3
        refine AWP.seqk fun K6 hK6 => ?_
        refine AWP.region ?_
        simp only [go_sem] -- region 4
        repeat' (first | (refine ACall.one (nparse_c _) (by kernel_rfl) rfl ?_; simp only [go_sem]) | (refine AGet.haveM (by assumption) ?_; (try simp only [go_sem])) | (refine AGet.have' (by assumption) ?_; (try simp only [go_sem])) | ((first | refine AGet.nth ?_ (fun b hb => ?_) | refine AGet.nth1 ?_ (fun b hb => ?_) | with_reducible refine And.intro ?_ ?_); (focus ((first | omega | exact List.length_pos_iff.2 (by assumption) | (simp only [List.length_append, List.length_cons, List.length_nil, List.length_map, List.length_take, List.length_drop] at *; omega) | (rw [wrap64_id (by omega) (by omega)]; omega) | (simp; done)))); (try simp only [hb, go_sem])))
        refine hK6 _ ?_; clear hK6 K6
        refine AWP.seqk fun K7 hK7 => ?_
        refine AWP.seqk fun K8 hK8 => ?_
        refine AWP.region ?_
        simp only [go_sem] -- region 5
        repeat' (first | (refine AGuard.splitN (fun h => ?_) (fun h => ?_) <;> simp only [h, go_sem] <;> try simp only [dD] at h) | (refine AGuard.split (fun h => ?_) (fun h => ?_) <;> simp only [h, go_sem] <;> try simp only [dD] at h) | (refine AGet.haveM (by assumption) ?_; (try simp only [go_sem])) | (refine AGet.have' (by assumption) ?_; (try simp only [go_sem])) | ((first | refine AGet.nth ?_ (fun b hb => ?_) | refine AGet.nth1 ?_ (fun b hb => ?_) | with_reducible refine And.intro ?_ ?_); (focus ((first | omega | exact List.length_pos_iff.2 (by assumption) | (simp only [List.length_append, List.length_cons, List.length_nil, List.length_map, List.length_take, List.length_drop] at *; omega) | (rw [wrap64_id (by omega) (by omega)]; omega) | (simp; done)))); (try simp only [hb, go_sem])))
        all_goals (
          refine hK8 _ ?_; clear hK8 K8
          refine AWP.cond rfl (fun c33 => ?_) (fun c33 => ?_)
          · first | exact Bool.noConfusion c33 | (
              try simp only [dD] at c33
              refine AWP.seqk fun K9 hK9 => ?_
              refine AWP.region ?_
              simp only [go_sem] -- region 6
              repeat' (first | (refine AGet.haveM (by assumption) ?_; (try simp only [go_sem])) | (refine AGet.have' (by assumption) ?_; (try simp only [go_sem])) | ((first | refine AGet.nth ?_ (fun b hb => ?_) | refine AGet.nth1 ?_ (fun b hb => ?_) | with_reducible refine And.intro ?_ ?_); (focus ((first | omega | exact List.length_pos_iff.2 (by assumption) | (simp only [List.length_append, List.length_cons, List.length_nil, List.length_map, List.length_take, List.length_drop] at *; omega) | (rw [wrap64_id (by omega) (by omega)]; omega) | (simp; done)))); (try simp only [hb, go_sem])))
              refine hK9 _ ?_; clear hK9 K9
              refine AWP.ret ?_
              try simp only [go_sem]
              clear hK7 K7
              first
              | exact ⟨[], .tup [.agg [.v _, .v _], .v _], rfl, ⟨⟨rfl, rfl, trivial⟩, rfl, trivial⟩, by rw [readR_none hc], rfl⟩
              | exact ⟨[], .tup [.agg [.v _, .v _], .v _], rfl, ⟨⟨rfl, rfl, trivial⟩, rfl, trivial⟩, by rw [readR_bad hc (by omega)], rfl⟩
              | exact ⟨[], .tup [.agg [.v _, .v _], .v _], rfl, ⟨⟨rfl, rfl, trivial⟩, rfl, trivial⟩, by rw [readR_at hc (by omega)], rfl⟩)
          · first | exact Bool.noConfusion c33 | (
              try simp only [dD] at c33
              refine AWP.skip ?_
              refine hK7 _ ?_; clear hK7 K7
              refine AWP.seqk fun K10 hK10 => ?_
              refine AWP.region ?_
              simp only [go_sem] -- region 7
              repeat' (first | (refine AGet.haveM (by assumption) ?_; (try simp only [go_sem])) | (refine AGet.have' (by assumption) ?_; (try simp only [go_sem])) | ((first | refine AGet.nth ?_ (fun b hb => ?_) | refine AGet.nth1 ?_ (fun b hb => ?_) | with_reducible refine And.intro ?_ ?_); (focus ((first | omega | exact List.length_pos_iff.2 (by assumption) | (simp only [List.length_append, List.length_cons, List.length_nil, List.length_map, List.length_take, List.length_drop] at *; omega) | (rw [wrap64_id (by omega) (by omega)]; omega) | (simp; done)))); (try simp only [hb, go_sem])))
              refine hK10 _ ?_; clear hK10 K10
              refine AWP.seqk fun K11 hK11 => ?_
              refine AWP.regionAs [0, 1, 2, 3, 4] [[], [], [1], [0, 1, 2], [0, 1, 2, 3]] [] (by kernel_rfl) (by kernel_rfl) (by decide) rfl ?_
              simp only [go_sem] -- region 8
              repeat' (first | (refine ACall.one (fright_c (_, _)) (by kernel_rfl) rfl ?_; simp only [go_sem]) | (refine AGet.haveM (by assumption) ?_; (try simp only [go_sem])) | (refine AGet.have' (by assumption) ?_; (try simp only [go_sem])) | ((first | refine AGet.nth ?_ (fun b hb => ?_) | refine AGet.nth1 ?_ (fun b hb => ?_) | with_reducible refine And.intro ?_ ?_); (focus ((first | omega | exact List.length_pos_iff.2 (by assumption) | (simp only [List.length_append, List.length_cons, List.length_nil, List.length_map, List.length_take, List.length_drop] at *; omega) | (rw [wrap64_id (by omega) (by omega)]; omega) | (simp; done)))); (try simp only [hb, go_sem])))
              refine hK11 _ ?_; clear hK11 K11
              refine AWP.ret ?_
              try simp only [go_sem]
              first
              | exact ⟨[], .tup [.agg [.v _, .v _], .v _], rfl, ⟨⟨rfl, rfl, trivial⟩, rfl, trivial⟩, by rw [readR_none hc], rfl⟩
              | exact ⟨[], .tup [.agg [.v _, .v _], .v _], rfl, ⟨⟨rfl, rfl, trivial⟩, rfl, trivial⟩, by rw [readR_bad hc (by omega)], rfl⟩
              | exact ⟨[], .tup [.agg [.v _, .v _], .v _], rfl, ⟨⟨rfl, rfl, trivial⟩, rfl, trivial⟩, by rw [readR_at hc (by omega)], rfl⟩))))


theorem fparse_c (b : Bs) : ACalls E 19 [bytesV b] (fun r t => r = .tup [.sl (some 0) 2 ((parseL b).1.map fldV), i64 (parseL b).2] ∧ t = [(parseL b).1.length]) := by -- checkroll/field.Parse
  refine ACalls.of_awp (n := 40) (rs := [.tmp 2, .tmp 3]) Tryd.func19 rfl Tryd.ntmps19 rfl ?_
  refine AWP.seqk fun K1 hK1 => ?_
  refine AWP.region ?_
  simp only [go_sem] -- region 0
  repeat' (first | (refine AGet.haveM (by assumption) ?_; (try simp only [go_sem])) | (refine AGet.have' (by assumption) ?_; (try simp only [go_sem])) | ((first | refine AGet.nth ?_ (fun b hb => ?_) | refine AGet.nth1 ?_ (fun b hb => ?_) | with_reducible refine And.intro ?_ ?_); (focus ((first | omega | exact List.length_pos_iff.2 (by assumption) | (simp only [List.length_append, List.length_cons, List.length_nil, List.length_map, List.length_take, List.length_drop] at *; omega) | (rw [wrap64_id (by omega) (by omega)]; omega) | (simp; done)))); (try simp only [hb, go_sem])))
  refine hK1 _ ?_; clear hK1 K1
  refine AWP.seqk fun K2 hK2 => ?_
  refine AWP.seqk fun K3 hK3 => ?_
  refine AWP.region ?_
  simp only [go_sem] -- region 1
  repeat' (first | (refine AGet.haveM (by assumption) ?_; (try simp only [go_sem])) | (refine AGet.have' (by assumption) ?_; (try simp only [go_sem])) | ((first | refine AGet.nth ?_ (fun b hb => ?_) | refine AGet.nth1 ?_ (fun b hb => ?_) | with_reducible refine And.intro ?_ ?_); (focus ((first | omega | exact List.length_pos_iff.2 (by assumption) | (simp only [List.length_append, List.length_cons, List.length_nil, List.length_map, List.length_take, List.length_drop] at *; omega) | (rw [wrap64_id (by omega) (by omega)]; omega) | (simp; done)))); (try simp only [hb, go_sem])))
  refine hK3 _ ?_; clear hK3 K3
  refine AWP.cond rfl (fun c10 => ?_) (fun c10 => ?_)
  · first | exact Bool.noConfusion c10 | (
      try simp only [dD] at c10
      refine AWP.seqk fun K4 hK4 => ?_
      refine AWP.region ?_
      simp only [go_sem] -- region 2
      repeat' (first | (refine AGet.haveM (by assumption) ?_; (try simp only [go_sem])) | (refine AGet.have' (by assumption) ?_; (try simp only [go_sem])) | ((first | refine AGet.nth ?_ (fun b hb => ?_) | refine AGet.nth1 ?_ (fun b hb => ?_) | with_reducible refine And.intro ?_ ?_); (focus ((first | omega | exact List.length_pos_iff.2 (by assumption) | (simp only [List.length_append, List.length_cons, List.length_nil, List.length_map, List.length_take, List.length_drop] at *; omega) | (rw [wrap64_id (by omega) (by omega)]; omega) | (simp; done)))); (try simp only [hb, go_sem])))
      refine hK4 _ ?_; clear hK4 K4
      refine AWP.ret ?_
      try simp only [go_sem]
      clear hK2 K2
      first
      | exact ⟨[(false, 2)], .tup [.sl (some 0) 2 [], .v _], rfl, ⟨rfl, rfl, trivial⟩, by rw [pl_long (by omega)]; rfl, by rw [pl_long (by omega)]; rfl⟩
      | exact ⟨[(false, 2)], .tup [.sl (some 0) 2 [], .v _], rfl, ⟨rfl, rfl, trivial⟩, by rw [pl_short (by omega) h1 (by omega) hc]; rfl, by rw [pl_short (by omega) h1 (by omega) hc]; rfl⟩
      | exact ⟨[(false, 2)], .tup [.sl (some 0) 2 [], .v _], rfl, ⟨rfl, rfl, trivial⟩, by rw [pl_form (by omega) h1 hc (readF_no (by rw [ht] at c27; exact c27))]; rfl, by rw [pl_form (by omega) h1 hc (readF_no (by rw [ht] at c27; exact c27))]; rfl⟩
      | exact ⟨[(false, 2)], .tup [.sl (some 0) 2 [], .v _], rfl, ⟨rfl, rfl, trivial⟩, by rw [pl_many (by omega) h1 hc (readF_yes (by rw [ht] at c27; exact c27)) (by omega)]; rfl, by rw [pl_many (by omega) h1 hc (readF_yes (by rw [ht] at c27; exact c27)) (by omega)]; rfl⟩
      | exact ⟨[(true, 0)], .tup [.sl (some 0) 2 _, .v _], rfl, ⟨⟨rfl, rfl, rfl⟩, rfl, trivial⟩, by rw [pl_end (by omega) h1 (by omega)], by rw [pl_end (by omega) h1 (by omega)]; rfl⟩
      | skip)
  · first | exact Bool.noConfusion c10 | (
      try simp only [dD] at c10
      refine AWP.skip ?_
      refine hK2 _ ?_; clear hK2 K2
      refine AWP.seqk fun K5 hK5 => ?_
      refine AWP.region ?_
      simp only [go_sem] -- region 3
      repeat' (first | (refine AGet.haveM (by assumption) ?_; (try simp only [go_sem])) | (refine AGet.have' (by assumption) ?_; (try simp only [go_sem])) | ((first | refine AGet.nth ?_ (fun b hb => ?_) | refine AGet.nth1 ?_ (fun b hb => ?_) | with_reducible refine And.intro ?_ ?_); (focus ((first | omega | exact List.length_pos_iff.2 (by assumption) | (simp only [List.length_append, List.length_cons, List.length_nil, List.length_map, List.length_take, List.length_drop] at *; omega) | (rw [wrap64_id (by omega) (by omega)]; omega) | (simp; done)))); (try simp only [hb, go_sem])))
      refine hK5 _ ?_; clear hK5 K5
      refine AWP.seqk fun K6 hK6 => ?_
      refine AWP.block ?_ -- 0
      refine AWP.nilTok 4 2 rfl ?_
      simp only [go_sem]
      refine AWP.loopO (ι := List Fld.Fd × Bs) [2, 3, 5, 6, 7, 11, 12, 13, 14, 15, 16, 17, 18, 19, 20, 21, 22, 23, 24, 25, 26, 27, 28, 29, 30, 31, 32, 33, 34, 35, 36, 37, 38] (fun ⟨acc, rest⟩ => [(0, bytesV rest), (4, .sl (some 0) 2 (acc.map fldV))]) (fun ⟨acc, rest⟩ => []) (fun ⟨acc, rest⟩ => [acc.length]) (fun ⟨acc, rest⟩ => parseGo [] b = parseGo acc rest ∧ acc.length ≤ 100 ∧ rest.length ≤ 65536) (fun ⟨acc, rest⟩ => rest.length) (([], b)) ?_ ?_ ?_
      · (try simp only [go_sem]); try (simp; done)
      · exact ⟨rfl, by simp, by omega⟩
      rintro ⟨acc, rest⟩ ⟨h1, h2, h3⟩
      simp only [go_sem]
      refine AWP.seqk fun K7 hK7 => ?_
      refine AWP.seqk fun K8 hK8 => ?_
      refine AWP.region ?_
      simp only [go_sem] -- region 4
      repeat' (first | (refine AGet.haveM (by assumption) ?_; (try simp only [go_sem])) | (refine AGet.have' (by assumption) ?_; (try simp only [go_sem])) | ((first | refine AGet.nth ?_ (fun b hb => ?_) | refine AGet.nth1 ?_ (fun b hb => ?_) | with_reducible refine And.intro ?_ ?_); (focus ((first | omega | exact List.length_pos_iff.2 (by assumption) | (simp only [List.length_append, List.length_cons, List.length_nil, List.length_map, List.length_take, List.length_drop] at *; omega) | (rw [wrap64_id (by omega) (by omega)]; omega) | (simp; done)))); (try simp only [hb, go_sem])))
      refine hK8 _ ?_; clear hK8 K8
      refine AWP.cond rfl (fun c13 => ?_) (fun c13 => ?_)
      · first | exact Bool.noConfusion c13 | (
          try simp only [dD] at c13
          refine AWP.skip ?_
          refine hK7 _ ?_; clear hK7 K7
          refine AWP.block ?_ -- 1
          refine AWP.seqk fun K9 hK9 => ?_
          refine AWP.region ?_
          simp only [go_sem] -- region 5
          repeat' (first | (refine ACall.one (bIndex_c _ 1) (by kernel_rfl) rfl ?_; simp only [go_sem]) | (refine AGet.haveM (by assumption) ?_; (try simp only [go_sem])) | (refine AGet.have' (by assumption) ?_; (try simp only [go_sem])) | ((first | refine AGet.nth ?_ (fun b hb => ?_) | refine AGet.nth1 ?_ (fun b hb => ?_) | with_reducible refine And.intro ?_ ?_); (focus ((first | omega | exact List.length_pos_iff.2 (by assumption) | (simp only [List.length_append, List.length_cons, List.length_nil, List.length_map, List.length_take, List.length_drop] at *; omega) | (rw [wrap64_id (by omega) (by omega)]; omega) | (simp; done)))); (try simp only [hb, go_sem])))
          have hi := index_cut (c := 1) (l := rest)
          rcases hc : cutB 1 rest with _ | ⟨a, v⟩ <;> simp only [hc] at hi <;> simp only [hi]
          all_goals (
            refine hK9 _ ?_; clear hK9 K9
            refine AWP.seqk fun K10 hK10 => ?_
            refine AWP.seqk fun K11 hK11 => ?_
            refine AWP.region ?_
            simp only [go_sem] -- region 6
            repeat' (first | (refine AGet.haveM (by assumption) ?_; (try simp only [go_sem])) | (refine AGet.have' (by assumption) ?_; (try simp only [go_sem])) | ((first | refine AGet.nth ?_ (fun b hb => ?_) | refine AGet.nth1 ?_ (fun b hb => ?_) | with_reducible refine And.intro ?_ ?_); (focus ((first | omega | exact List.length_pos_iff.2 (by assumption) | (simp only [List.length_append, List.length_cons, List.length_nil, List.length_map, List.length_take, List.length_drop] at *; omega) | (rw [wrap64_id (by omega) (by omega)]; omega) | (simp; done)))); (try simp only [hb, go_sem])))
            refine hK11 _ ?_; clear hK11 K11
            refine AWP.cond rfl (fun c17 => ?_) (fun c17 => ?_)
            · first | exact Bool.noConfusion c17 | (
                try simp only [dD] at c17
                refine AWP.seqk fun K12 hK12 => ?_
                refine AWP.region ?_
                simp only [go_sem] -- region 7
                repeat' (first | (refine AGet.haveM (by assumption) ?_; (try simp only [go_sem])) | (refine AGet.have' (by assumption) ?_; (try simp only [go_sem])) | ((first | refine AGet.nth ?_ (fun b hb => ?_) | refine AGet.nth1 ?_ (fun b hb => ?_) | with_reducible refine And.intro ?_ ?_); (focus ((first | omega | exact List.length_pos_iff.2 (by assumption) | (simp only [List.length_append, List.length_cons, List.length_nil, List.length_map, List.length_take, List.length_drop] at *; omega) | (rw [wrap64_id (by omega) (by omega)]; omega) | (simp; done)))); (try simp only [hb, go_sem])))
                refine hK12 _ ?_; clear hK12 K12
                refine AWP.ret ?_
                try simp only [go_sem]
                clear hK10 K10 hK6 K6
                first
                | exact ⟨[(false, 2)], .tup [.sl (some 0) 2 [], .v _], rfl, ⟨rfl, rfl, trivial⟩, by rw [pl_long (by omega)]; rfl, by rw [pl_long (by omega)]; rfl⟩
                | exact ⟨[(false, 2)], .tup [.sl (some 0) 2 [], .v _], rfl, ⟨rfl, rfl, trivial⟩, by rw [pl_short (by omega) h1 (by omega) hc]; rfl, by rw [pl_short (by omega) h1 (by omega) hc]; rfl⟩
                | exact ⟨[(false, 2)], .tup [.sl (some 0) 2 [], .v _], rfl, ⟨rfl, rfl, trivial⟩, by rw [pl_form (by omega) h1 hc (readF_no (by rw [ht] at c27; exact c27))]; rfl, by rw [pl_form (by omega) h1 hc (readF_no (by rw [ht] at c27; exact c27))]; rfl⟩
                | exact ⟨[(false, 2)], .tup [.sl (some 0) 2 [], .v _], rfl, ⟨rfl, rfl, trivial⟩, by rw [pl_many (by omega) h1 hc (readF_yes (by rw [ht] at c27; exact c27)) (by omega)]; rfl, by rw [pl_many (by omega) h1 hc (readF_yes (by rw [ht] at c27; exact c27)) (by omega)]; rfl⟩
                | exact ⟨[(true, 0)], .tup [.sl (some 0) 2 _, .v _], rfl, ⟨⟨rfl, rfl, rfl⟩, rfl, trivial⟩, by rw [pl_end (by omega) h1 (by omega)], by rw [pl_end (by omega) h1 (by omega)]; rfl⟩
                | skip)
            · first | exact Bool.noConfusion c17 | (
                try simp only [dD] at c17
                refine AWP.skip ?_
                refine hK10 _ ?_; clear hK10 K10
                refine AWP.seqk fun K13 hK13 => ?_
                obtain ⟨ht, hd, hn⟩ := cut_take hc
                refine AWP.region ?_
                simp only [go_sem] -- region 8
                repeat' (first | (refine ACall.one (fread_c _ (by simp only [List.length_take]; omega)) (by kernel_rfl) rfl ?_; simp only [go_sem]) | (refine AGet.haveM (by assumption) ?_; (try simp only [go_sem])) | (refine AGet.have' (by assumption) ?_; (try simp only [go_sem])) | ((first | refine AGet.nth ?_ (fun b hb => ?_) | refine AGet.nth1 ?_ (fun b hb => ?_) | with_reducible refine And.intro ?_ ?_); (focus ((first | omega | exact List.length_pos_iff.2 (by assumption) | (simp only [List.length_append, List.length_cons, List.length_nil, List.length_map, List.length_take, List.length_drop] at *; omega) | (rw [wrap64_id (by omega) (by omega)]; omega) | (simp; done)))); (try simp only [hb, go_sem])))
                refine hK13 _ ?_; clear hK13 K13
                refine AWP.seqk fun K14 hK14 => ?_
                refine AWP.seqk fun K15 hK15 => ?_
                refine AWP.region ?_
                simp only [go_sem] -- region 9
                repeat' (first | (refine AGet.haveM (by assumption) ?_; (try simp only [go_sem])) | (refine AGet.have' (by assumption) ?_; (try simp only [go_sem])) | ((first | refine AGet.nth ?_ (fun b hb => ?_) | refine AGet.nth1 ?_ (fun b hb => ?_) | with_reducible refine And.intro ?_ ?_); (focus ((first | omega | exact List.length_pos_iff.2 (by assumption) | (simp only [List.length_append, List.length_cons, List.length_nil, List.length_map, List.length_take, List.length_drop] at *; omega) | (rw [wrap64_id (by omega) (by omega)]; omega) | (simp; done)))); (try simp only [hb, go_sem])))
                refine hK15 _ ?_; clear hK15 K15
                refine AWP.cond rfl (fun c27 => ?_) (fun c27 => ?_)
                · first | exact Bool.noConfusion c27 | (
                    try simp only [dD] at c27
                    refine AWP.seqk fun K16 hK16 => ?_
                    refine AWP.region ?_
                    simp only [go_sem] -- region 10
                    repeat' (first | (refine AGet.haveM (by assumption) ?_; (try simp only [go_sem])) | (refine AGet.have' (by assumption) ?_; (try simp only [go_sem])) | ((first | refine AGet.nth ?_ (fun b hb => ?_) | refine AGet.nth1 ?_ (fun b hb => ?_) | with_reducible refine And.intro ?_ ?_); (focus ((first | omega | exact List.length_pos_iff.2 (by assumption) | (simp only [List.length_append, List.length_cons, List.length_nil, List.length_map, List.length_take, List.length_drop] at *; omega) | (rw [wrap64_id (by omega) (by omega)]; omega) | (simp; done)))); (try simp only [hb, go_sem])))
                    refine hK16 _ ?_; clear hK16 K16
                    refine AWP.ret ?_
                    try simp only [go_sem]
                    clear hK14 K14 hK6 K6
                    first
                    | exact ⟨[(false, 2)], .tup [.sl (some 0) 2 [], .v _], rfl, ⟨rfl, rfl, trivial⟩, by rw [pl_long (by omega)]; rfl, by rw [pl_long (by omega)]; rfl⟩
                    | exact ⟨[(false, 2)], .tup [.sl (some 0) 2 [], .v _], rfl, ⟨rfl, rfl, trivial⟩, by rw [pl_short (by omega) h1 (by omega) hc]; rfl, by rw [pl_short (by omega) h1 (by omega) hc]; rfl⟩
                    | exact ⟨[(false, 2)], .tup [.sl (some 0) 2 [], .v _], rfl, ⟨rfl, rfl, trivial⟩, by rw [pl_form (by omega) h1 hc (readF_no (by rw [ht] at c27; exact c27))]; rfl, by rw [pl_form (by omega) h1 hc (readF_no (by rw [ht] at c27; exact c27))]; rfl⟩
                    | exact ⟨[(false, 2)], .tup [.sl (some 0) 2 [], .v _], rfl, ⟨rfl, rfl, trivial⟩, by rw [pl_many (by omega) h1 hc (readF_yes (by rw [ht] at c27; exact c27)) (by omega)]; rfl, by rw [pl_many (by omega) h1 hc (readF_yes (by rw [ht] at c27; exact c27)) (by omega)]; rfl⟩
                    | exact ⟨[(true, 0)], .tup [.sl (some 0) 2 _, .v _], rfl, ⟨⟨rfl, rfl, rfl⟩, rfl, trivial⟩, by rw [pl_end (by omega) h1 (by omega)], by rw [pl_end (by omega) h1 (by omega)]; rfl⟩
                    | skip)
                · first | exact Bool.noConfusion c27 | (
                    try simp only [dD] at c27
                    refine AWP.skip ?_
                    refine hK14 _ ?_; clear hK14 K14
                    refine AWP.seqk fun K17 hK17 => ?_
                    refine AWP.seqk fun K18 hK18 => ?_
                    refine AWP.region ?_
                    simp only [go_sem] -- region 11
                    repeat' (first | (refine AGet.haveM (by assumption) ?_; (try simp only [go_sem])) | (refine AGet.have' (by assumption) ?_; (try simp only [go_sem])) | ((first | refine AGet.nth ?_ (fun b hb => ?_) | refine AGet.nth1 ?_ (fun b hb => ?_) | with_reducible refine And.intro ?_ ?_); (focus ((first | omega | exact List.length_pos_iff.2 (by assumption) | (simp only [List.length_append, List.length_cons, List.length_nil, List.length_map, List.length_take, List.length_drop] at *; omega) | (rw [wrap64_id (by omega) (by omega)]; omega) | (simp; done)))); (try simp only [hb, go_sem])))
                    refine hK18 _ ?_; clear hK18 K18
                    refine AWP.cond rfl (fun c30 => ?_) (fun c30 => ?_)
                    · first | exact Bool.noConfusion c30 | (
                        try simp only [dD] at c30
                        refine AWP.seqk fun K19 hK19 => ?_
                        refine AWP.region ?_
                        simp only [go_sem] -- region 12
                        repeat' (first | (refine AGet.haveM (by assumption) ?_; (try simp only [go_sem])) | (refine AGet.have' (by assumption) ?_; (try simp only [go_sem])) | ((first | refine AGet.nth ?_ (fun b hb => ?_) | refine AGet.nth1 ?_ (fun b hb => ?_) | with_reducible refine And.intro ?_ ?_); (focus ((first | omega | exact List.length_pos_iff.2 (by assumption) | (simp only [List.length_append, List.length_cons, List.length_nil, List.length_map, List.length_take, List.length_drop] at *; omega) | (rw [wrap64_id (by omega) (by omega)]; omega) | (simp; done)))); (try simp only [hb, go_sem])))
                        refine hK19 _ ?_; clear hK19 K19
                        refine AWP.ret ?_
                        try simp only [go_sem]
                        clear hK17 K17 hK6 K6
                        first
                        | exact ⟨[(false, 2)], .tup [.sl (some 0) 2 [], .v _], rfl, ⟨rfl, rfl, trivial⟩, by rw [pl_long (by omega)]; rfl, by rw [pl_long (by omega)]; rfl⟩
                        | exact ⟨[(false, 2)], .tup [.sl (some 0) 2 [], .v _], rfl, ⟨rfl, rfl, trivial⟩, by rw [pl_short (by omega) h1 (by omega) hc]; rfl, by rw [pl_short (by omega) h1 (by omega) hc]; rfl⟩
                        | exact ⟨[(false, 2)], .tup [.sl (some 0) 2 [], .v _], rfl, ⟨rfl, rfl, trivial⟩, by rw [pl_form (by omega) h1 hc (readF_no (by rw [ht] at c27; exact c27))]; rfl, by rw [pl_form (by omega) h1 hc (readF_no (by rw [ht] at c27; exact c27))]; rfl⟩
                        | exact ⟨[(false, 2)], .tup [.sl (some 0) 2 [], .v _], rfl, ⟨rfl, rfl, trivial⟩, by rw [pl_many (by omega) h1 hc (readF_yes (by rw [ht] at c27; exact c27)) (by omega)]; rfl, by rw [pl_many (by omega) h1 hc (readF_yes (by rw [ht] at c27; exact c27)) (by omega)]; rfl⟩
                        | exact ⟨[(true, 0)], .tup [.sl (some 0) 2 _, .v _], rfl, ⟨⟨rfl, rfl, rfl⟩, rfl, trivial⟩, by rw [pl_end (by omega) h1 (by omega)], by rw [pl_end (by omega) h1 (by omega)]; rfl⟩
                        | skip)
                    · first | exact Bool.noConfusion c30 | (
                        try simp only [dD] at c30
                        refine AWP.skip ?_
                        refine hK17 _ ?_; clear hK17 K17
                        refine AWP.seqk fun K20 hK20 => ?_
                        refine AWP.region ?_
                        simp only [go_sem] -- region 13
                        repeat' (first | (refine AGet.haveM (by assumption) ?_; (try simp only [go_sem])) | (refine AGet.have' (by assumption) ?_; (try simp only [go_sem])) | ((first | refine AGet.nth ?_ (fun b hb => ?_) | refine AGet.nth1 ?_ (fun b hb => ?_) | with_reducible refine And.intro ?_ ?_); (focus ((first | omega | exact List.length_pos_iff.2 (by assumption) | (simp only [List.length_append, List.length_cons, List.length_nil, List.length_map, List.length_take, List.length_drop] at *; omega) | (rw [wrap64_id (by omega) (by omega)]; omega) | (simp; done)))); (try simp only [hb, go_sem])))
                        refine hK20 _ ?_; clear hK20 K20
                        refine AWP.region ?_
                        simp only [go_sem] -- region 14
                        repeat' (first | (refine AGet.haveM (by assumption) ?_; (try simp only [go_sem])) | (refine AGet.have' (by assumption) ?_; (try simp only [go_sem])) | ((first | refine AGet.nth ?_ (fun b hb => ?_) | refine AGet.nth1 ?_ (fun b hb => ?_) | with_reducible refine And.intro ?_ ?_); (focus ((first | omega | exact List.length_pos_iff.2 (by assumption) | (simp only [List.length_append, List.length_cons, List.length_nil, List.length_map, List.length_take, List.length_drop] at *; omega) | (rw [wrap64_id (by omega) (by omega)]; omega) | (simp; done)))); (try simp only [hb, go_sem])))
                        clear hK6 K6
                        refine ⟨(acc ++ [(readR a).1], v), ?_, ?_, ?_⟩
                        · rw [wrap64_id (by omega) (by omega), ht]
                          refine ⟨⟨.inr ?_, .inr ?_⟩, ?_⟩
                          · show bytesV v = _; rw [show ((a.length : Int) + 1).toNat = a.length + 1 from by omega, hd]
                          · simp
                          · simp
                        · exact ⟨pl_step h1 hc (readF_yes (by rw [ht] at c27; exact c27)) (by omega), by simp; omega, (show v.length ≤ 65536 by omega)⟩
                        · show v.length < rest.length; omega)))))
      · first | exact Bool.noConfusion c13 | (
          try simp only [dD] at c13
          refine AWP.exit ?_
          simp only [go_sem]
          clear hK7 K7
          refine hK6 _ ?_; clear hK6 K6
          refine AWP.seqk fun K21 hK21 => ?_
          refine AWP.region ?_
          simp only [go_sem] -- region 15
          repeat' (first | (refine AGet.haveM (by assumption) ?_; (try simp only [go_sem])) | (refine AGet.have' (by assumption) ?_; (try simp only [go_sem])) | ((first | refine AGet.nth ?_ (fun b hb => ?_) | refine AGet.nth1 ?_ (fun b hb => ?_) | with_reducible refine And.intro ?_ ?_); (focus ((first | omega | exact List.length_pos_iff.2 (by assumption) | (simp only [List.length_append, List.length_cons, List.length_nil, List.length_map, List.length_take, List.length_drop] at *; omega) | (rw [wrap64_id (by omega) (by omega)]; omega) | (simp; done)))); (try simp only [hb, go_sem])))
          refine hK21 _ ?_; clear hK21 K21
          refine AWP.ret ?_
          try simp only [go_sem]
          first
          | exact ⟨[(false, 2)], .tup [.sl (some 0) 2 [], .v _], rfl, ⟨rfl, rfl, trivial⟩, by rw [pl_long (by omega)]; rfl, by rw [pl_long (by omega)]; rfl⟩
          | exact ⟨[(false, 2)], .tup [.sl (some 0) 2 [], .v _], rfl, ⟨rfl, rfl, trivial⟩, by rw [pl_short (by omega) h1 (by omega) hc]; rfl, by rw [pl_short (by omega) h1 (by omega) hc]; rfl⟩
          | exact ⟨[(false, 2)], .tup [.sl (some 0) 2 [], .v _], rfl, ⟨rfl, rfl, trivial⟩, by rw [pl_form (by omega) h1 hc (readF_no (by rw [ht] at c27; exact c27))]; rfl, by rw [pl_form (by omega) h1 hc (readF_no (by rw [ht] at c27; exact c27))]; rfl⟩
          | exact ⟨[(false, 2)], .tup [.sl (some 0) 2 [], .v _], rfl, ⟨rfl, rfl, trivial⟩, by rw [pl_many (by omega) h1 hc (readF_yes (by rw [ht] at c27; exact c27)) (by omega)]; rfl, by rw [pl_many (by omega) h1 hc (readF_yes (by rw [ht] at c27; exact c27)) (by omega)]; rfl⟩
          | exact ⟨[(true, 0)], .tup [.sl (some 0) 2 _, .v _], rfl, ⟨⟨rfl, rfl, rfl⟩, rfl, trivial⟩, by rw [pl_end (by omega) h1 (by omega)], by rw [pl_end (by omega) h1 (by omega)]; rfl⟩
          | skip))


theorem fget_c (l : List Fld.Fd) (tag : Int) (hl : l.length ≤ 9223372036854775807) : ACalls E 49 [fldsV l, i64 tag] (fun r t => r = .tup [str (getF l tag).1, bl (getF l tag).2] ∧ t = []) := by -- checkroll/field.Get
  refine ACalls.of_awp (n := 21) (rs := [.tmp 4, .tmp 5]) Tryd.func49 rfl Tryd.ntmps49 rfl ?_
  refine AWP.seqk fun K1 hK1 => ?_
  refine AWP.region ?_
  simp only [go_sem] -- region 0
  repeat' (first | (refine AGet.haveM (by assumption) ?_; (try simp only [go_sem])) | (refine AGet.have' (by assumption) ?_; (try simp only [go_sem])) | ((first | refine AGet.nth ?_ (fun b hb => ?_) | refine AGet.nth1 ?_ (fun b hb => ?_) | with_reducible refine And.intro ?_ ?_); (focus ((first | omega | exact List.length_pos_iff.2 (by assumption) | (simp only [List.length_append, List.length_cons, List.length_nil, List.length_map, List.length_take, List.length_drop] at *; omega) | (rw [wrap64_id (by omega) (by omega)]; omega) | (simp; done)))); (try simp only [hb, go_sem])))
  refine hK1 _ ?_; clear hK1 K1
  refine AWP.seqk fun K2 hK2 => ?_
  refine AWP.seqk fun K3 hK3 => ?_
  refine AWP.region ?_
  simp only [go_sem] -- region 1
  repeat' (first | (refine AGet.haveM (by assumption) ?_; (try simp only [go_sem])) | (refine AGet.have' (by assumption) ?_; (try simp only [go_sem])) | ((first | refine AGet.nth ?_ (fun b hb => ?_) | refine AGet.nth1 ?_ (fun b hb => ?_) | with_reducible refine And.intro ?_ ?_); (focus ((first | omega | exact List.length_pos_iff.2 (by assumption) | (simp only [List.length_append, List.length_cons, List.length_nil, List.length_map, List.length_take, List.length_drop] at *; omega) | (rw [wrap64_id (by omega) (by omega)]; omega) | (simp; done)))); (try simp only [hb, go_sem])))
  refine hK3 _ ?_; clear hK3 K3
  refine AWP.block ?_ -- 0
  refine AWP.loopH (ι := Nat) [4, 5, 7, 11, 12, 13, 14, 15, 16, 17, 18, 19, 20] (fun (i : Nat) => [(10, i64 i)]) (fun (i : Nat) => i ≤ l.length ∧ getF l tag = getF (l.drop i) tag) (fun (i : Nat) => l.length - i) (0) ?_ ?_ ?_
  · (try simp only [go_sem]); try (simp; done)
  · exact ⟨by omega, rfl⟩
  rintro i ⟨h1, h2⟩
  simp only [go_sem]
  refine AWP.seqk fun K4 hK4 => ?_
  refine AWP.region ?_
  simp only [go_sem] -- region 2
  repeat' (first | (refine AGet.haveM (by assumption) ?_; (try simp only [go_sem])) | (refine AGet.have' (by assumption) ?_; (try simp only [go_sem])) | ((first | refine AGet.nth ?_ (fun b hb => ?_) | refine AGet.nth1 ?_ (fun b hb => ?_) | with_reducible refine And.intro ?_ ?_); (focus ((first | omega | exact List.length_pos_iff.2 (by assumption) | (simp only [List.length_append, List.length_cons, List.length_nil, List.length_map, List.length_take, List.length_drop] at *; omega) | (rw [wrap64_id (by omega) (by omega)]; omega) | (simp; done)))); (try simp only [hb, go_sem])))
  refine hK4 _ ?_; clear hK4 K4
  refine AWP.seqk fun K5 hK5 => ?_
  refine AWP.cond rfl (fun c11 => ?_) (fun c11 => ?_)
  · first | exact Bool.noConfusion c11 | (
      try simp only [dD] at c11
      refine AWP.skip ?_
      refine hK5 _ ?_; clear hK5 K5
      refine AWP.seqk fun K6 hK6 => ?_
      refine AWP.block ?_ -- 1
      refine AWP.seqk fun K7 hK7 => ?_
      refine AWP.region ?_
      simp only [go_sem] -- region 3
      repeat' (first | (refine AGet.haveM (by assumption) ?_; (try simp only [go_sem])) | (refine AGet.have' (by assumption) ?_; (try simp only [go_sem])) | ((first | refine AGet.nth ?_ (fun b hb => ?_) | refine AGet.nth1 ?_ (fun b hb => ?_) | with_reducible refine And.intro ?_ ?_); (focus ((first | omega | exact List.length_pos_iff.2 (by assumption) | (simp only [List.length_append, List.length_cons, List.length_nil, List.length_map, List.length_take, List.length_drop] at *; omega) | (rw [wrap64_id (by omega) (by omega)]; omega) | (simp; done)))); (try simp only [hb, go_sem])))
      refine hK7 _ ?_; clear hK7 K7
      refine AWP.seqk fun K8 hK8 => ?_
      refine AWP.region ?_
      simp only [go_sem] -- region 4
      repeat' (first | (refine AGet.haveM (by assumption) ?_; (try simp only [go_sem])) | (refine AGet.have' (by assumption) ?_; (try simp only [go_sem])) | ((first | refine AGet.nth ?_ (fun b hb => ?_) | refine AGet.nth1 ?_ (fun b hb => ?_) | with_reducible refine And.intro ?_ ?_); (focus ((first | omega | exact List.length_pos_iff.2 (by assumption) | (simp only [List.length_append, List.length_cons, List.length_nil, List.length_map, List.length_take, List.length_drop] at *; omega) | (rw [wrap64_id (by omega) (by omega)]; omega) | (simp; done)))); (try simp only [hb, go_sem])))
      refine hK8 _ ?_; clear hK8 K8
      refine AWP.cond rfl (fun c17 => ?_) (fun c17 => ?_)
      · first | exact Bool.noConfusion c17 | (
          try simp only [dD] at c17
          refine AWP.seqk fun K9 hK9 => ?_
          refine AWP.region ?_
          simp only [go_sem] -- region 5
          repeat' (first | (refine AGet.haveM (by assumption) ?_; (try simp only [go_sem])) | (refine AGet.have' (by assumption) ?_; (try simp only [go_sem])) | ((first | refine AGet.nth ?_ (fun b hb => ?_) | refine AGet.nth1 ?_ (fun b hb => ?_) | with_reducible refine And.intro ?_ ?_); (focus ((first | omega | exact List.length_pos_iff.2 (by assumption) | (simp only [List.length_append, List.length_cons, List.length_nil, List.length_map, List.length_take, List.length_drop] at *; omega) | (rw [wrap64_id (by omega) (by omega)]; omega) | (simp; done)))); (try simp only [hb, go_sem])))
          refine hK9 _ ?_; clear hK9 K9
          refine AWP.ret ?_
          try simp only [go_sem]
          clear hK6 K6 hK2 K2
          first
          | exact ⟨[], .tup [.v _, .v _], rfl, ⟨rfl, rfl, trivial⟩, by rw [get_hit h2 hb c17], rfl⟩
          | exact ⟨[], .tup [.v _, .v _], rfl, ⟨rfl, rfl, trivial⟩, by rw [get_end h2 c11], rfl⟩)
      · first | exact Bool.noConfusion c17 | (
          try simp only [dD] at c17
          refine AWP.skip ?_
          refine hK6 _ ?_; clear hK6 K6
          refine AWP.region ?_
          simp only [go_sem] -- region 6
          repeat' (first | (refine AGet.haveM (by assumption) ?_; (try simp only [go_sem])) | (refine AGet.have' (by assumption) ?_; (try simp only [go_sem])) | ((first | refine AGet.nth ?_ (fun b hb => ?_) | refine AGet.nth1 ?_ (fun b hb => ?_) | with_reducible refine And.intro ?_ ?_); (focus ((first | omega | exact List.length_pos_iff.2 (by assumption) | (simp only [List.length_append, List.length_cons, List.length_nil, List.length_map, List.length_take, List.length_drop] at *; omega) | (rw [wrap64_id (by omega) (by omega)]; omega) | (simp; done)))); (try simp only [hb, go_sem])))
          clear hK2 K2
          refine ⟨i + 1, ?_, ?_, ?_⟩
          · (try simp only [go_sem]); (try rw [wrap64_id (by omega) (by omega)]); simp
          · exact ⟨by omega, get_miss h2 hb (by assumption)⟩
          · omega))
  · first | exact Bool.noConfusion c11 | (
      try simp only [dD] at c11
      refine AWP.exit ?_
      simp only [go_sem]
      clear hK5 K5
      refine hK2 _ ?_; clear hK2 K2
      refine AWP.seqk fun K10 hK10 => ?_
      refine AWP.region ?_
      simp only [go_sem] -- region 7
      repeat' (first | (refine AGet.haveM (by assumption) ?_; (try simp only [go_sem])) | (refine AGet.have' (by assumption) ?_; (try simp only [go_sem])) | ((first | refine AGet.nth ?_ (fun b hb => ?_) | refine AGet.nth1 ?_ (fun b hb => ?_) | with_reducible refine And.intro ?_ ?_); (focus ((first | omega | exact List.length_pos_iff.2 (by assumption) | (simp only [List.length_append, List.length_cons, List.length_nil, List.length_map, List.length_take, List.length_drop] at *; omega) | (rw [wrap64_id (by omega) (by omega)]; omega) | (simp; done)))); (try simp only [hb, go_sem])))
      refine hK10 _ ?_; clear hK10 K10
      refine AWP.ret ?_
      try simp only [go_sem]
      first
      | exact ⟨[], .tup [.v _, .v _], rfl, ⟨rfl, rfl, trivial⟩, by rw [get_hit h2 hb c17], rfl⟩
      | exact ⟨[], .tup [.v _, .v _], rfl, ⟨rfl, rfl, trivial⟩, by rw [get_end h2 c11], rfl⟩)


end Go.Proofs.YtobaignbahnjbaaDoor
