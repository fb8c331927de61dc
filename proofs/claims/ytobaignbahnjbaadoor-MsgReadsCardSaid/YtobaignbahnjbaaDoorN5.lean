import Derived.Test.YtobaignbahnjbaaDoorN4
namespace Go.Proofs.YtobaignbahnjbaaDoor
open Go Go.Abs Go.RowKit Go.Fld
set_option linter.unusedVariables false
set_option linter.unusedSimpArgs false

theorem fright_c (f : Fld.Fd) : ACalls E 44 [fldV f] (fun r t => r = bl (rightF f) ∧ t = []) := by -- checkroll/field.Right
  refine ACalls.of_awp (n := 29) (rs := [.tmp 2]) Tryd.func44 rfl Tryd.ntmps44 rfl ?_
  refine AWP.seqk fun K1 hK1 => ?_
  refine AWP.region ?_
  simp only [go_sem] -- region 0
  repeat' (first | (refine AGet.haveM (by assumption) ?_; (try simp only [go_sem])) | (refine AGet.have' (by assumption) ?_; (try simp only [go_sem])) | ((first | refine AGet.nth ?_ (fun b hb => ?_) | refine AGet.nth1 ?_ (fun b hb => ?_) | with_reducible refine And.intro ?_ ?_); (focus ((first | omega | exact List.length_pos_iff.2 (by assumption) | (simp only [List.length_append, List.length_cons, List.length_nil, List.length_map, List.length_take, List.length_drop] at *; omega) | (rw [wrap64_id (by omega) (by omega)]; omega) | (simp; done)))); (try simp only [hb, go_sem])))
  refine hK1 _ ?_; clear hK1 K1
  refine AWP.seqk fun K2 hK2 => ?_
  refine AWP.region ?_
  simp only [go_sem] -- region 1
  repeat' (first | (refine ACall.one (sIndex_c _ 1) (by kernel_rfl) rfl ?_; simp only [go_sem]) | (refine AGuard.splitN (fun h => ?_) (fun h => ?_) <;> simp only [h, go_sem] <;> try simp only [dD] at h) | (refine AGuard.split (fun h => ?_) (fun h => ?_) <;> simp only [h, go_sem] <;> try simp only [dD] at h) | (refine AGet.haveM (by assumption) ?_; (try simp only [go_sem])) | (refine AGet.have' (by assumption) ?_; (try simp only [go_sem])) | ((first | refine AGet.nth ?_ (fun b hb => ?_) | refine AGet.nth1 ?_ (fun b hb => ?_) | with_reducible refine And.intro ?_ ?_); (focus ((first | omega | exact List.length_pos_iff.2 (by assumption) | (simp only [List.length_append, List.length_cons, List.length_nil, List.length_map, List.length_take, List.length_drop] at *; omega) | (rw [wrap64_id (by omega) (by omega)]; omega) | (simp; done)))); (try simp only [hb, go_sem])))
  all_goals (
    refine hK2 _ ?_; clear hK2 K2
    refine AWP.ret ?_
    try simp only [go_sem]
    refine ⟨[], .v _, rfl, rfl, congrArg bl (right_eq ?_), rfl⟩
    constructor
    · intro e
      first
      | exact absurd e (by decide)
      | (simp only [decide_eq_true_eq, Bool.false_eq_true, index_neg] at e; exact ⟨by omega, by omega, by omega, by omega, e⟩)
    · rintro ⟨g1, g2, g3, g4, g5⟩
      first
      | (simp only [decide_eq_true_eq, index_neg]; exact g5)
      | (exfalso; omega))


theorem fput_c (l : List Fld.Fd) : ACalls E 24 [fldsV l] (fun r t => r = .tup [.sl (some 0) 1 ((putF l).1.map u8), i64 (putF l).2] ∧ t = [(putF l).1.length]) := by -- checkroll/field.Put
  refine ACalls.of_awp (n := 36) (rs := [.tmp 2, .tmp 3]) Tryd.func24 rfl Tryd.ntmps24 rfl ?_
  refine AWP.seqk fun K1 hK1 => ?_
  refine AWP.region ?_
  simp only [go_sem] -- region 0
  repeat' (first | (refine AGet.haveM (by assumption) ?_; (try simp only [go_sem])) | (refine AGet.have' (by assumption) ?_; (try simp only [go_sem])) | ((first | refine AGet.nth ?_ (fun b hb => ?_) | refine AGet.nth1 ?_ (fun b hb => ?_) | with_reducible refine And.intro ?_ ?_); (focus ((first | omega | exact List.length_pos_iff.2 (by assumption) | (simp only [List.length_append, List.length_cons, List.length_nil, List.length_map, List.length_take, List.length_drop] at *; omega) | (rw [wrap64_id (by omega) (by omega)]; omega) | (simp; done)))); (try simp only [hb, go_sem])))
  refine hK1 _ ?_; clear hK1 K1
  refine AWP.seqk fun K2 hK2 => ?_
  refine AWP.seqk fun K3 hK3 => ?_
  refine AWP.region ?_
  simp only [go_sem] -- region 1
  repeat' (first | (refine AGet.haveM (by assumption) ?_; (try simp only [go_sem])) | (refine AGet.have' (by assumption) ?_; (try simp only [go_sem])) | ((first | refine AGet.nth ?_ (fun b hb => ?_) | refine AGet.nth1 ?_ (fun b hb => ?_) | with_reducible refine And.intro ?_ ?_); (focus ((first | omega | exact List.length_pos_iff.2 (by assumption) | (simp only [List.length_append, List.length_cons, List.length_nil, List.length_map, List.length_take, List.length_drop] at *; omega) | (rw [wrap64_id (by omega) (by omega)]; omega) | (simp; done)))); (try simp only [hb, go_sem])))
  refine hK3 _ ?_; clear hK3 K3
  refine AWP.cond rfl (fun c9 => ?_) (fun c9 => ?_)
  · first | exact Bool.noConfusion c9 | (
      try simp only [dD] at c9
      refine AWP.seqk fun K4 hK4 => ?_
      refine AWP.region ?_
      simp only [go_sem] -- region 2
      repeat' (first | (refine AGet.haveM (by assumption) ?_; (try simp only [go_sem])) | (refine AGet.have' (by assumption) ?_; (try simp only [go_sem])) | ((first | refine AGet.nth ?_ (fun b hb => ?_) | refine AGet.nth1 ?_ (fun b hb => ?_) | with_reducible refine And.intro ?_ ?_); (focus ((first | omega | exact List.length_pos_iff.2 (by assumption) | (simp only [List.length_append, List.length_cons, List.length_nil, List.length_map, List.length_take, List.length_drop] at *; omega) | (rw [wrap64_id (by omega) (by omega)]; omega) | (simp; done)))); (try simp only [hb, go_sem])))
      refine hK4 _ ?_; clear hK4 K4
      refine AWP.ret ?_
      try simp only [go_sem]
      clear hK2 K2
      first
      | exact ⟨[(false, 1)], .tup [.sl (some 0) 1 [], .v _], rfl, ⟨rfl, rfl, trivial⟩, by rw [put_long (by omega)]; rfl, by rw [put_long (by omega)]; rfl⟩
      | exact ⟨[(false, 1)], .tup [.sl (some 0) 1 [], .v _], rfl, ⟨rfl, rfl, trivial⟩, by rw [put_bad (by omega) hb c18]; rfl, by rw [put_bad (by omega) hb c18]; rfl⟩
      | exact ⟨[(true, 0)], .tup [.sl (some 0) 1 _, .v _], rfl, ⟨⟨rfl, rfl, rfl⟩, rfl, trivial⟩, by rw [put_ok (by omega) c13 h2], by rw [put_ok (by omega) c13 h2]; rfl⟩)
  · first | exact Bool.noConfusion c9 | (
      try simp only [dD] at c9
      refine AWP.skip ?_
      refine hK2 _ ?_; clear hK2 K2
      refine AWP.seqk fun K5 hK5 => ?_
      refine AWP.region ?_
      simp only [go_sem] -- region 3
      repeat' (first | (refine AGet.haveM (by assumption) ?_; (try simp only [go_sem])) | (refine AGet.have' (by assumption) ?_; (try simp only [go_sem])) | ((first | refine AGet.nth ?_ (fun b hb => ?_) | refine AGet.nth1 ?_ (fun b hb => ?_) | with_reducible refine And.intro ?_ ?_); (focus ((first | omega | exact List.length_pos_iff.2 (by assumption) | (simp only [List.length_append, List.length_cons, List.length_nil, List.length_map, List.length_take, List.length_drop] at *; omega) | (rw [wrap64_id (by omega) (by omega)]; omega) | (simp; done)))); (try simp only [hb, go_sem])))
      refine hK5 _ ?_; clear hK5 K5
      refine AWP.seqk fun K6 hK6 => ?_
      refine AWP.seqk fun K7 hK7 => ?_
      refine AWP.region ?_
      simp only [go_sem] -- region 4
      repeat' (first | (refine AGet.haveM (by assumption) ?_; (try simp only [go_sem])) | (refine AGet.have' (by assumption) ?_; (try simp only [go_sem])) | ((first | refine AGet.nth ?_ (fun b hb => ?_) | refine AGet.nth1 ?_ (fun b hb => ?_) | with_reducible refine And.intro ?_ ?_); (focus ((first | omega | exact List.length_pos_iff.2 (by assumption) | (simp only [List.length_append, List.length_cons, List.length_nil, List.length_map, List.length_take, List.length_drop] at *; omega) | (rw [wrap64_id (by omega) (by omega)]; omega) | (simp; done)))); (try simp only [hb, go_sem])))
      refine hK7 _ ?_; clear hK7 K7
      refine AWP.block ?_ -- 0
      refine AWP.nilTok 4 1 rfl ?_
      simp only [go_sem]
      refine AWP.loopO (ι := Nat) [2, 3, 6, 13, 14, 15, 16, 17, 18, 19, 20, 21, 22, 23, 24, 25, 26, 27, 28, 29, 30, 31, 32, 33, 34] (fun (i : Nat) => [(4, .sl (some 0) 1 ((encL (l.take i)).map u8)), (12, i64 i)]) (fun (i : Nat) => []) (fun (i : Nat) => [(encL (l.take i)).length]) (fun (i : Nat) => i ≤ l.length ∧ (l.take i).all rightF = true) (fun (i : Nat) => l.length - i) (0) ?_ ?_ ?_
      · (try simp only [go_sem]); simp [encL]
      · simp
      rintro i ⟨h1, h2⟩
      simp only [go_sem]
      refine AWP.seqk fun K8 hK8 => ?_
      refine AWP.region ?_
      simp only [go_sem] -- region 5
      repeat' (first | (refine AGet.haveM (by assumption) ?_; (try simp only [go_sem])) | (refine AGet.have' (by assumption) ?_; (try simp only [go_sem])) | ((first | refine AGet.nth ?_ (fun b hb => ?_) | refine AGet.nth1 ?_ (fun b hb => ?_) | with_reducible refine And.intro ?_ ?_); (focus ((first | omega | exact List.length_pos_iff.2 (by assumption) | (simp only [List.length_append, List.length_cons, List.length_nil, List.length_map, List.length_take, List.length_drop] at *; omega) | (rw [wrap64_id (by omega) (by omega)]; omega) | (simp; done)))); (try simp only [hb, go_sem])))
      refine hK8 _ ?_; clear hK8 K8
      refine AWP.seqk fun K9 hK9 => ?_
      refine AWP.cond rfl (fun c13 => ?_) (fun c13 => ?_)
      · first | exact Bool.noConfusion c13 | (
          try simp only [dD] at c13
          refine AWP.skip ?_
          refine hK9 _ ?_; clear hK9 K9
          refine AWP.seqk fun K10 hK10 => ?_
          refine AWP.block ?_ -- 1
          refine AWP.seqk fun K11 hK11 => ?_
          refine AWP.region ?_
          simp only [go_sem] -- region 6
          repeat' (first | (refine AGet.haveM (by assumption) ?_; (try simp only [go_sem])) | (refine AGet.have' (by assumption) ?_; (try simp only [go_sem])) | ((first | refine AGet.nth ?_ (fun b hb => ?_) | refine AGet.nth1 ?_ (fun b hb => ?_) | with_reducible refine And.intro ?_ ?_); (focus ((first | omega | exact List.length_pos_iff.2 (by assumption) | (simp only [List.length_append, List.length_cons, List.length_nil, List.length_map, List.length_take, List.length_drop] at *; omega) | (rw [wrap64_id (by omega) (by omega)]; omega) | (simp; done)))); (try simp only [hb, go_sem])))
          refine hK11 _ ?_; clear hK11 K11
          refine AWP.seqk fun K12 hK12 => ?_
          refine AWP.seqk fun K13 hK13 => ?_
          refine AWP.region ?_
          simp only [go_sem] -- region 7
          repeat' (first | (refine ACall.one (fright_c (_, _)) (by kernel_rfl) rfl ?_; simp only [go_sem]) | (refine AGet.haveM (by assumption) ?_; (try simp only [go_sem])) | (refine AGet.have' (by assumption) ?_; (try simp only [go_sem])) | ((first | refine AGet.nth ?_ (fun b hb => ?_) | refine AGet.nth1 ?_ (fun b hb => ?_) | with_reducible refine And.intro ?_ ?_); (focus ((first | omega | exact List.length_pos_iff.2 (by assumption) | (simp only [List.length_append, List.length_cons, List.length_nil, List.length_map, List.length_take, List.length_drop] at *; omega) | (rw [wrap64_id (by omega) (by omega)]; omega) | (simp; done)))); (try simp only [hb, go_sem])))
          refine hK13 _ ?_; clear hK13 K13
          refine AWP.cond rfl (fun c18 => ?_) (fun c18 => ?_)
          · first | exact Bool.noConfusion c18 | (
              try simp only [dD] at c18
              refine AWP.seqk fun K14 hK14 => ?_
              refine AWP.region ?_
              simp only [go_sem] -- region 8
              repeat' (first | (refine AGet.haveM (by assumption) ?_; (try simp only [go_sem])) | (refine AGet.have' (by assumption) ?_; (try simp only [go_sem])) | ((first | refine AGet.nth ?_ (fun b hb => ?_) | refine AGet.nth1 ?_ (fun b hb => ?_) | with_reducible refine And.intro ?_ ?_); (focus ((first | omega | exact List.length_pos_iff.2 (by assumption) | (simp only [List.length_append, List.length_cons, List.length_nil, List.length_map, List.length_take, List.length_drop] at *; omega) | (rw [wrap64_id (by omega) (by omega)]; omega) | (simp; done)))); (try simp only [hb, go_sem])))
              refine hK14 _ ?_; clear hK14 K14
              refine AWP.ret ?_
              try simp only [go_sem]
              clear hK12 K12 hK10 K10 hK6 K6
              first
              | exact ⟨[(false, 1)], .tup [.sl (some 0) 1 [], .v _], rfl, ⟨rfl, rfl, trivial⟩, by rw [put_long (by omega)]; rfl, by rw [put_long (by omega)]; rfl⟩
              | exact ⟨[(false, 1)], .tup [.sl (some 0) 1 [], .v _], rfl, ⟨rfl, rfl, trivial⟩, by rw [put_bad (by omega) hb c18]; rfl, by rw [put_bad (by omega) hb c18]; rfl⟩
              | exact ⟨[(true, 0)], .tup [.sl (some 0) 1 _, .v _], rfl, ⟨⟨rfl, rfl, rfl⟩, rfl, trivial⟩, by rw [put_ok (by omega) c13 h2], by rw [put_ok (by omega) c13 h2]; rfl⟩)
          · first | exact Bool.noConfusion c18 | (
              try simp only [dD] at c18
              refine AWP.skip ?_
              refine hK12 _ ?_; clear hK12 K12
              refine AWP.seqk fun K15 hK15 => ?_
              have hl0 := enc_take h2
              have hl1 := show_len b.1
              have hl2 := rightF_iff.1 c18
              refine AWP.region ?_
              simp only [go_sem] -- region 9
              repeat' (first | (refine ACall.one (nshow_c _) (by kernel_rfl) rfl ?_; simp only [go_sem]) | (refine AGet.haveM (by assumption) ?_; (try simp only [go_sem])) | (refine AGet.have' (by assumption) ?_; (try simp only [go_sem])) | ((first | refine AGet.nth ?_ (fun b hb => ?_) | refine AGet.nth1 ?_ (fun b hb => ?_) | with_reducible refine And.intro ?_ ?_); (focus ((first | omega | exact List.length_pos_iff.2 (by assumption) | (simp only [List.length_append, List.length_cons, List.length_nil, List.length_map, List.length_take, List.length_drop] at *; omega) | (rw [wrap64_id (by omega) (by omega)]; omega) | (simp; done)))); (try simp only [hb, go_sem])))
              refine hK15 _ ?_; clear hK15 K15
              refine AWP.seqk fun K16 hK16 => ?_
              refine AWP.region ?_
              simp only [go_sem] -- region 10
              repeat' (first | (refine AGet.haveM (by assumption) ?_; (try simp only [go_sem])) | (refine AGet.have' (by assumption) ?_; (try simp only [go_sem])) | ((first | refine AGet.nth ?_ (fun b hb => ?_) | refine AGet.nth1 ?_ (fun b hb => ?_) | with_reducible refine And.intro ?_ ?_); (focus ((first | omega | exact List.length_pos_iff.2 (by assumption) | (simp only [List.length_append, List.length_cons, List.length_nil, List.length_map, List.length_take, List.length_drop] at *; omega) | (rw [wrap64_id (by omega) (by omega)]; omega) | (simp; done)))); (try simp only [hb, go_sem])))
              refine hK16 _ ?_; clear hK16 K16
              refine AWP.seqk fun K17 hK17 => ?_
              refine AWP.region ?_
              simp only [go_sem] -- region 11
              repeat' (first | (refine AGet.haveM (by assumption) ?_; (try simp only [go_sem])) | (refine AGet.have' (by assumption) ?_; (try simp only [go_sem])) | ((first | refine AGet.nth ?_ (fun b hb => ?_) | refine AGet.nth1 ?_ (fun b hb => ?_) | with_reducible refine And.intro ?_ ?_); (focus ((first | omega | exact List.length_pos_iff.2 (by assumption) | (simp only [List.length_append, List.length_cons, List.length_nil, List.length_map, List.length_take, List.length_drop] at *; omega) | (rw [wrap64_id (by omega) (by omega)]; omega) | (simp; done)))); (try simp only [hb, go_sem])))
              refine hK17 _ ?_; clear hK17 K17
              refine AWP.region ?_
              simp only [go_sem] -- region 12
              repeat' (first | (refine AGet.haveM (by assumption) ?_; (try simp only [go_sem])) | (refine AGet.have' (by assumption) ?_; (try simp only [go_sem])) | ((first | refine AGet.nth ?_ (fun b hb => ?_) | refine AGet.nth1 ?_ (fun b hb => ?_) | with_reducible refine And.intro ?_ ?_); (focus ((first | omega | exact List.length_pos_iff.2 (by assumption) | (simp only [List.length_append, List.length_cons, List.length_nil, List.length_map, List.length_take, List.length_drop] at *; omega) | (rw [wrap64_id (by omega) (by omega)]; omega) | (simp; done)))); (try simp only [hb, go_sem])))
              refine hK10 _ ?_; clear hK10 K10
              refine AWP.region ?_
              simp only [go_sem] -- region 13
              repeat' (first | (refine AGet.haveM (by assumption) ?_; (try simp only [go_sem])) | (refine AGet.have' (by assumption) ?_; (try simp only [go_sem])) | ((first | refine AGet.nth ?_ (fun b hb => ?_) | refine AGet.nth1 ?_ (fun b hb => ?_) | with_reducible refine And.intro ?_ ?_); (focus ((first | omega | exact List.length_pos_iff.2 (by assumption) | (simp only [List.length_append, List.length_cons, List.length_nil, List.length_map, List.length_take, List.length_drop] at *; omega) | (rw [wrap64_id (by omega) (by omega)]; omega) | (simp; done)))); (try simp only [hb, go_sem])))
              clear hK6 K6
              refine ⟨i + 1, ?_, ?_, ?_⟩
              · rw [enc_next hb, wrap64_id (by omega) (by omega)]; simp; try omega
              · exact ⟨by omega, by rw [take_next hb, List.all_append, h2]; simp [c18]⟩
              · omega))
      · first | exact Bool.noConfusion c13 | (
          try simp only [dD] at c13
          refine AWP.exit ?_
          simp only [go_sem]
          clear hK9 K9
          refine hK6 _ ?_; clear hK6 K6
          refine AWP.seqk fun K18 hK18 => ?_
          refine AWP.region ?_
          simp only [go_sem] -- region 14
          repeat' (first | (refine AGet.haveM (by assumption) ?_; (try simp only [go_sem])) | (refine AGet.have' (by assumption) ?_; (try simp only [go_sem])) | ((first | refine AGet.nth ?_ (fun b hb => ?_) | refine AGet.nth1 ?_ (fun b hb => ?_) | with_reducible refine And.intro ?_ ?_); (focus ((first | omega | exact List.length_pos_iff.2 (by assumption) | (simp only [List.length_append, List.length_cons, List.length_nil, List.length_map, List.length_take, List.length_drop] at *; omega) | (rw [wrap64_id (by omega) (by omega)]; omega) | (simp; done)))); (try simp only [hb, go_sem])))
          refine hK18 _ ?_; clear hK18 K18
          refine AWP.ret ?_
          try simp only [go_sem]
          first
          | exact ⟨[(false, 1)], .tup [.sl (some 0) 1 [], .v _], rfl, ⟨rfl, rfl, trivial⟩, by rw [put_long (by omega)]; rfl, by rw [put_long (by omega)]; rfl⟩
          | exact ⟨[(false, 1)], .tup [.sl (some 0) 1 [], .v _], rfl, ⟨rfl, rfl, trivial⟩, by rw [put_bad (by omega) hb c18]; rfl, by rw [put_bad (by omega) hb c18]; rfl⟩
          | exact ⟨[(true, 0)], .tup [.sl (some 0) 1 _, .v _], rfl, ⟨⟨rfl, rfl, rfl⟩, rfl, trivial⟩, by rw [put_ok (by omega) c13 h2], by rw [put_ok (by omega) c13 h2]; rfl⟩))


theorem r2put_c (l : List Fld.Fd) (hl : ∀ f ∈ l, f.2.length ≤ 9223372036854775807) : ACalls E 26 [fldsV l] (fun r t => r = .tup [.sl (some 0) 1 ((putF l).1.map u8), i64 (putF l).2] ∧ t = [(putF l).1.length]) := by -- checkroll/checkrollref02.Put
  refine ACalls.of_awp (n := 45) (rs := [.tmp 2, .tmp 3]) Tryd.func26 rfl Tryd.ntmps26 rfl ?_
  refine AWP.seqk fun K1 hK1 => ?_
  refine AWP.region ?_
  simp only [go_sem] -- region 0
  repeat' (first | (refine AGet.haveM (by assumption) ?_; (try simp only [go_sem])) | (refine AGet.have' (by assumption) ?_; (try simp only [go_sem])) | ((first | refine AGet.nth ?_ (fun b hb => ?_) | refine AGet.nth1 ?_ (fun b hb => ?_) | with_reducible refine And.intro ?_ ?_); (focus ((first | omega | exact List.length_pos_iff.2 (by assumption) | (simp only [List.length_append, List.length_cons, List.length_nil, List.length_map, List.length_take, List.length_drop] at *; omega) | (rw [wrap64_id (by omega) (by omega)]; omega) | (simp; done)))); (try simp only [hb, go_sem])))
  refine hK1 _ ?_; clear hK1 K1
  refine AWP.seqk fun K2 hK2 => ?_
  refine AWP.seqk fun K3 hK3 => ?_
  refine AWP.region ?_
  simp only [go_sem] -- region 1
  repeat' (first | (refine AGet.haveM (by assumption) ?_; (try simp only [go_sem])) | (refine AGet.have' (by assumption) ?_; (try simp only [go_sem])) | ((first | refine AGet.nth ?_ (fun b hb => ?_) | refine AGet.nth1 ?_ (fun b hb => ?_) | with_reducible refine And.intro ?_ ?_); (focus ((first | omega | exact List.length_pos_iff.2 (by assumption) | (simp only [List.length_append, List.length_cons, List.length_nil, List.length_map, List.length_take, List.length_drop] at *; omega) | (rw [wrap64_id (by omega) (by omega)]; omega) | (simp; done)))); (try simp only [hb, go_sem])))
  refine hK3 _ ?_; clear hK3 K3
  refine AWP.cond rfl (fun c8 => ?_) (fun c8 => ?_)
  · first | exact Bool.noConfusion c8 | (
      try simp only [dD] at c8
      refine AWP.seqk fun K4 hK4 => ?_
      refine AWP.region ?_
      simp only [go_sem] -- region 2
      repeat' (first | (refine AGet.haveM (by assumption) ?_; (try simp only [go_sem])) | (refine AGet.have' (by assumption) ?_; (try simp only [go_sem])) | ((first | refine AGet.nth ?_ (fun b hb => ?_) | refine AGet.nth1 ?_ (fun b hb => ?_) | with_reducible refine And.intro ?_ ?_); (focus ((first | omega | exact List.length_pos_iff.2 (by assumption) | (simp only [List.length_append, List.length_cons, List.length_nil, List.length_map, List.length_take, List.length_drop] at *; omega) | (rw [wrap64_id (by omega) (by omega)]; omega) | (simp; done)))); (try simp only [hb, go_sem])))
      refine hK4 _ ?_; clear hK4 K4
      refine AWP.ret ?_
      try simp only [go_sem]
      clear hK2 K2
      first
      | exact ⟨[(false, 1)], .tup [.sl (some 0) 1 [], .v _], rfl, ⟨rfl, rfl, trivial⟩, by rw [put_long (by omega)]; rfl, by rw [put_long (by omega)]; rfl⟩
      | exact ⟨[(false, 1)], .tup [.sl (some 0) 1 [], .v _], rfl, ⟨rfl, rfl, trivial⟩, by rw [put_bad (by omega) hb c20]; rfl, by rw [put_bad (by omega) hb c20]; rfl⟩
      | exact ⟨[(true, 0)], .tup [.sl (some 0) 1 _, .v _], rfl, ⟨⟨rfl, rfl, rfl⟩, rfl, trivial⟩, by rw [put_ok (by omega) c12 h2], by rw [put_ok (by omega) c12 h2]; rfl⟩
      | skip)
  · first | exact Bool.noConfusion c8 | (
      try simp only [dD] at c8
      refine AWP.skip ?_
      refine hK2 _ ?_; clear hK2 K2
      refine AWP.seqk fun K5 hK5 => ?_
      refine AWP.region ?_
      simp only [go_sem] -- region 3
      repeat' (first | (refine AGet.haveM (by assumption) ?_; (try simp only [go_sem])) | (refine AGet.have' (by assumption) ?_; (try simp only [go_sem])) | ((first | refine AGet.nth ?_ (fun b hb => ?_) | refine AGet.nth1 ?_ (fun b hb => ?_) | with_reducible refine And.intro ?_ ?_); (focus ((first | omega | exact List.length_pos_iff.2 (by assumption) | (simp only [List.length_append, List.length_cons, List.length_nil, List.length_map, List.length_take, List.length_drop] at *; omega) | (rw [wrap64_id (by omega) (by omega)]; omega) | (simp; done)))); (try simp only [hb, go_sem])))
      refine hK5 _ ?_; clear hK5 K5
      refine AWP.seqk fun K6 hK6 => ?_
      refine AWP.seqk fun K7 hK7 => ?_
      refine AWP.region ?_
      simp only [go_sem] -- region 4
      repeat' (first | (refine AGet.haveM (by assumption) ?_; (try simp only [go_sem])) | (refine AGet.have' (by assumption) ?_; (try simp only [go_sem])) | ((first | refine AGet.nth ?_ (fun b hb => ?_) | refine AGet.nth1 ?_ (fun b hb => ?_) | with_reducible refine And.intro ?_ ?_); (focus ((first | omega | exact List.length_pos_iff.2 (by assumption) | (simp only [List.length_append, List.length_cons, List.length_nil, List.length_map, List.length_take, List.length_drop] at *; omega) | (rw [wrap64_id (by omega) (by omega)]; omega) | (simp; done)))); (try simp only [hb, go_sem])))
      refine hK7 _ ?_; clear hK7 K7
      refine AWP.block ?_ -- 0
      refine AWP.nilTok 4 1 rfl ?_
      simp only [go_sem]
      refine AWP.loopO (ι := Nat) [2, 3, 9, 10, 11, 12, 13, 14, 15, 16, 17, 18, 19, 20, 21, 22, 23, 24, 25, 26, 27, 28, 29, 30, 31, 32, 33, 34, 35, 36, 37, 38, 39, 40, 41, 42, 43] (fun (i : Nat) => [(4, .sl (some 0) 1 ((encL (l.take i)).map u8)), (5, i64 i)]) (fun (i : Nat) => []) (fun (i : Nat) => [(encL (l.take i)).length]) (fun (i : Nat) => i ≤ l.length ∧ (l.take i).all rightF = true) (fun (i : Nat) => l.length - i) (0) ?_ ?_ ?_
      · (try simp only [go_sem]); simp [encL]
      · simp
      rintro i ⟨h1, h2⟩
      simp only [go_sem]
      refine AWP.seqk fun K8 hK8 => ?_
      refine AWP.seqk fun K9 hK9 => ?_
      refine AWP.region ?_
      simp only [go_sem] -- region 5
      repeat' (first | (refine AGet.haveM (by assumption) ?_; (try simp only [go_sem])) | (refine AGet.have' (by assumption) ?_; (try simp only [go_sem])) | ((first | refine AGet.nth ?_ (fun b hb => ?_) | refine AGet.nth1 ?_ (fun b hb => ?_) | with_reducible refine And.intro ?_ ?_); (focus ((first | omega | exact List.length_pos_iff.2 (by assumption) | (simp only [List.length_append, List.length_cons, List.length_nil, List.length_map, List.length_take, List.length_drop] at *; omega) | (rw [wrap64_id (by omega) (by omega)]; omega) | (simp; done)))); (try simp only [hb, go_sem])))
      refine hK9 _ ?_; clear hK9 K9
      refine AWP.cond rfl (fun c12 => ?_) (fun c12 => ?_)
      · first | exact Bool.noConfusion c12 | (
          try simp only [dD] at c12
          refine AWP.skip ?_
          refine hK8 _ ?_; clear hK8 K8
          refine AWP.seqk fun K10 hK10 => ?_
          refine AWP.block ?_ -- 1
          refine AWP.seqk fun K11 hK11 => ?_
          refine AWP.seqk fun K12 hK12 => ?_
          refine AWP.region ?_
          simp only [go_sem] -- region 7
          repeat' (first | (refine ACall.one (r2right_c (_, _) (by first | exact hl _ (List.mem_of_getElem? hb) | (simp only [List.length_drop, List.length_take]; omega))) (by kernel_rfl) rfl ?_; simp only [go_sem]) | (refine AGet.haveM (by assumption) ?_; (try simp only [go_sem])) | (refine AGet.have' (by assumption) ?_; (try simp only [go_sem])) | ((first | refine AGet.nth ?_ (fun b hb => ?_) | refine AGet.nth1 ?_ (fun b hb => ?_) | with_reducible refine And.intro ?_ ?_); (focus ((first | omega | exact List.length_pos_iff.2 (by assumption) | (simp only [List.length_append, List.length_cons, List.length_nil, List.length_map, List.length_take, List.length_drop] at *; omega) | (rw [wrap64_id (by omega) (by omega)]; omega) | (simp; done)))); (try simp only [hb, go_sem])))
          refine hK12 _ ?_; clear hK12 K12
          refine AWP.cond rfl (fun c20 => ?_) (fun c20 => ?_)
          · first | exact Bool.noConfusion c20 | (
              try simp only [dD] at c20
              refine AWP.seqk fun K13 hK13 => ?_
              refine AWP.region ?_
              simp only [go_sem] -- region 8
              repeat' (first | (refine AGet.haveM (by assumption) ?_; (try simp only [go_sem])) | (refine AGet.have' (by assumption) ?_; (try simp only [go_sem])) | ((first | refine AGet.nth ?_ (fun b hb => ?_) | refine AGet.nth1 ?_ (fun b hb => ?_) | with_reducible refine And.intro ?_ ?_); (focus ((first | omega | exact List.length_pos_iff.2 (by assumption) | (simp only [List.length_append, List.length_cons, List.length_nil, List.length_map, List.length_take, List.length_drop] at *; omega) | (rw [wrap64_id (by omega) (by omega)]; omega) | (simp; done)))); (try simp only [hb, go_sem])))
              refine hK13 _ ?_; clear hK13 K13
              refine AWP.ret ?_
              try simp only [go_sem]
              clear hK11 K11 hK10 K10 hK6 K6
              first
              | exact ⟨[(false, 1)], .tup [.sl (some 0) 1 [], .v _], rfl, ⟨rfl, rfl, trivial⟩, by rw [put_long (by omega)]; rfl, by rw [put_long (by omega)]; rfl⟩
              | exact ⟨[(false, 1)], .tup [.sl (some 0) 1 [], .v _], rfl, ⟨rfl, rfl, trivial⟩, by rw [put_bad (by omega) hb c20]; rfl, by rw [put_bad (by omega) hb c20]; rfl⟩
              | exact ⟨[(true, 0)], .tup [.sl (some 0) 1 _, .v _], rfl, ⟨⟨rfl, rfl, rfl⟩, rfl, trivial⟩, by rw [put_ok (by omega) c12 h2], by rw [put_ok (by omega) c12 h2]; rfl⟩
              | skip)
          · first | exact Bool.noConfusion c20 | (
              try simp only [dD] at c20
              refine AWP.skip ?_
              refine hK11 _ ?_; clear hK11 K11
              refine AWP.seqk fun K14 hK14 => ?_
              have hl0 := enc_take h2
              have hl1 := show_len b.1
              have hl2 := rightF_iff.1 c20
              refine AWP.region ?_
              simp only [go_sem] -- region 9
              repeat' (first | (refine ACall.one (r1show_c _) (by kernel_rfl) rfl ?_; simp only [go_sem]) | (refine AGet.haveM (by assumption) ?_; (try simp only [go_sem])) | (refine AGet.have' (by assumption) ?_; (try simp only [go_sem])) | ((first | refine AGet.nth ?_ (fun b hb => ?_) | refine AGet.nth1 ?_ (fun b hb => ?_) | with_reducible refine And.intro ?_ ?_); (focus ((first | omega | exact List.length_pos_iff.2 (by assumption) | (simp only [List.length_append, List.length_cons, List.length_nil, List.length_map, List.length_take, List.length_drop] at *; omega) | (rw [wrap64_id (by omega) (by omega)]; omega) | (simp; done)))); (try simp only [hb, go_sem])))
              refine hK14 _ ?_; clear hK14 K14
              refine AWP.seqk fun K15 hK15 => ?_
              refine AWP.region ?_
              simp only [go_sem] -- region 10
              repeat' (first | (refine AGet.haveM (by assumption) ?_; (try simp only [go_sem])) | (refine AGet.have' (by assumption) ?_; (try simp only [go_sem])) | ((first | refine AGet.nth ?_ (fun b hb => ?_) | refine AGet.nth1 ?_ (fun b hb => ?_) | with_reducible refine And.intro ?_ ?_); (focus ((first | omega | exact List.length_pos_iff.2 (by assumption) | (simp only [List.length_append, List.length_cons, List.length_nil, List.length_map, List.length_take, List.length_drop] at *; omega) | (rw [wrap64_id (by omega) (by omega)]; omega) | (simp; done)))); (try simp only [hb, go_sem])))
              refine hK15 _ ?_; clear hK15 K15
              refine AWP.seqk fun K16 hK16 => ?_
              refine AWP.region ?_
              simp only [go_sem] -- region 11
              repeat' (first | (refine AGet.haveM (by assumption) ?_; (try simp only [go_sem])) | (refine AGet.have' (by assumption) ?_; (try simp only [go_sem])) | ((first | refine AGet.nth ?_ (fun b hb => ?_) | refine AGet.nth1 ?_ (fun b hb => ?_) | with_reducible refine And.intro ?_ ?_); (focus ((first | omega | exact List.length_pos_iff.2 (by assumption) | (simp only [List.length_append, List.length_cons, List.length_nil, List.length_map, List.length_take, List.length_drop] at *; omega) | (rw [wrap64_id (by omega) (by omega)]; omega) | (simp; done)))); (try simp only [hb, go_sem])))
              refine hK16 _ ?_; clear hK16 K16
              refine AWP.region ?_
              simp only [go_sem] -- region 12
              repeat' (first | (refine AGet.haveM (by assumption) ?_; (try simp only [go_sem])) | (refine AGet.have' (by assumption) ?_; (try simp only [go_sem])) | ((first | refine AGet.nth ?_ (fun b hb => ?_) | refine AGet.nth1 ?_ (fun b hb => ?_) | with_reducible refine And.intro ?_ ?_); (focus ((first | omega | exact List.length_pos_iff.2 (by assumption) | (simp only [List.length_append, List.length_cons, List.length_nil, List.length_map, List.length_take, List.length_drop] at *; omega) | (rw [wrap64_id (by omega) (by omega)]; omega) | (simp; done)))); (try simp only [hb, go_sem])))
              refine hK10 _ ?_; clear hK10 K10
              refine AWP.region ?_
              simp only [go_sem] -- region 6
              repeat' (first | (refine AGet.haveM (by assumption) ?_; (try simp only [go_sem])) | (refine AGet.have' (by assumption) ?_; (try simp only [go_sem])) | ((first | refine AGet.nth ?_ (fun b hb => ?_) | refine AGet.nth1 ?_ (fun b hb => ?_) | with_reducible refine And.intro ?_ ?_); (focus ((first | omega | exact List.length_pos_iff.2 (by assumption) | (simp only [List.length_append, List.length_cons, List.length_nil, List.length_map, List.length_take, List.length_drop] at *; omega) | (rw [wrap64_id (by omega) (by omega)]; omega) | (simp; done)))); (try simp only [hb, go_sem])))
              clear hK6 K6
              refine ⟨i + 1, ?_, ?_, ?_⟩
              · rw [enc_next hb, wrap64_id (by omega) (by omega)]; simp; try omega
              · exact ⟨by omega, by rw [take_next hb, List.all_append, h2]; simp [c20]⟩
              · omega))
      · first | exact Bool.noConfusion c12 | (
          try simp only [dD] at c12
          refine AWP.exit ?_
          simp only [go_sem]
          clear hK8 K8
          refine hK6 _ ?_; clear hK6 K6
          refine AWP.seqk fun K17 hK17 => ?_
          refine AWP.region ?_
          simp only [go_sem] -- region 13
          repeat' (first | (refine AGet.haveM (by assumption) ?_; (try simp only [go_sem])) | (refine AGet.have' (by assumption) ?_; (try simp only [go_sem])) | ((first | refine AGet.nth ?_ (fun b hb => ?_) | refine AGet.nth1 ?_ (fun b hb => ?_) | with_reducible refine And.intro ?_ ?_); (focus ((first | omega | exact List.length_pos_iff.2 (by assumption) | (simp only [List.length_append, List.length_cons, List.length_nil, List.length_map, List.length_take, List.length_drop] at *; omega) | (rw [wrap64_id (by omega) (by omega)]; omega) | (simp; done)))); (try simp only [hb, go_sem])))
          refine hK17 _ ?_; clear hK17 K17
          refine AWP.ret ?_
          try simp only [go_sem]
          first
          | exact ⟨[(false, 1)], .tup [.sl (some 0) 1 [], .v _], rfl, ⟨rfl, rfl, trivial⟩, by rw [put_long (by omega)]; rfl, by rw [put_long (by omega)]; rfl⟩
          | exact ⟨[(false, 1)], .tup [.sl (some 0) 1 [], .v _], rfl, ⟨rfl, rfl, trivial⟩, by rw [put_bad (by omega) hb c20]; rfl, by rw [put_bad (by omega) hb c20]; rfl⟩
          | exact ⟨[(true, 0)], .tup [.sl (some 0) 1 _, .v _], rfl, ⟨⟨rfl, rfl, rfl⟩, rfl, trivial⟩, by rw [put_ok (by omega) c12 h2], by rw [put_ok (by omega) c12 h2]; rfl⟩
          | skip))


end Go.Proofs.YtobaignbahnjbaaDoor
