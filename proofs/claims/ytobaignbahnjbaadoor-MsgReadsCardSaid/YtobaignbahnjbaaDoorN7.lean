import Derived.Test.YtobaignbahnjbaaDoorN6
namespace Go.Proofs.YtobaignbahnjbaaDoor
open Go Go.Abs Go.RowKit Go.Fld
set_option linter.unusedVariables false
set_option linter.unusedSimpArgs false

theorem r1parse_c (s : Bs) : ACalls E 52 [str s] (fun r t => r = .tup [i64 (parseF s).1, i64 (parseF s).2] ∧ t = []) := by -- checkroll/checkrollref01.Parse
  have hsg := (sg_drop s).2
  refine ACalls.of_awp (n := 76) (rs := [.tmp 2, .tmp 3]) Tryd.func52 rfl Tryd.ntmps52 rfl ?_
  refine AWP.seqk fun K1 hK1 => ?_
  refine AWP.region ?_
  simp only [go_sem] -- region 0
  repeat' (first | (refine AGet.haveM (by assumption) ?_; (try simp only [go_sem])) | (refine AGet.have' (by assumption) ?_; (try simp only [go_sem])) | ((first | refine AGet.nth ?_ (fun b hb => ?_) | refine AGet.nth1 ?_ (fun b hb => ?_) | with_reducible refine And.intro ?_ ?_); (focus ((first | omega | exact List.length_pos_iff.2 (by assumption) | (simp only [List.length_append, List.length_cons, List.length_nil, List.length_map, List.length_take, List.length_drop] at *; omega) | (rw [wrap64_id (by omega) (by omega)]; omega) | (simp; done)))); (try simp only [hb, go_sem])))
  refine hK1 _ ?_; clear hK1 K1
  refine AWP.seqk fun K2 hK2 => ?_
  refine AWP.seqk fun K3 hK3 => ?_
  refine AWP.region ?_
  simp only [go_sem] -- region 1
  repeat' (first | (refine AGet.haveM (by assumption) ?_; (try simp only [go_sem])) | (refine AGet.have' (by assumption) ?_; (try simp only [go_sem])) | ((first | refine AGet.nth ?_ (fun b hb => ?_) | refine AGet.nth1 ?_ (fun b hb => ?_) | with_reducible refine And.intro ?_ ?_); (focus ((first | omega | exact List.length_pos_iff.2 (by assumption) | (simp only [List.length_append, List.length_cons, List.length_nil, List.length_map, List.length_take, List.length_drop] at *; omega) | (rw [wrap64_id (by omega) (by omega)]; omega) | (simp; done)))); (try simp only [hb, go_sem])))
  refine hK3 _ ?_; clear hK3 K3
  refine AWP.cond rfl (fun c10 => ?_) (fun c10 => ?_)
  · first | exact Bool.noConfusion c10 | (
      try simp only [dD] at c10
      refine AWP.seqk fun K4 hK4 => ?_
      refine AWP.region ?_
      simp only [go_sem] -- region 2
      repeat' (first | (refine AGet.haveM (by assumption) ?_; (try simp only [go_sem])) | (refine AGet.have' (by assumption) ?_; (try simp only [go_sem])) | ((first | refine AGet.nth ?_ (fun b hb => ?_) | refine AGet.nth1 ?_ (fun b hb => ?_) | with_reducible refine And.intro ?_ ?_); (focus ((first | omega | exact List.length_pos_iff.2 (by assumption) | (simp only [List.length_append, List.length_cons, List.length_nil, List.length_map, List.length_take, List.length_drop] at *; omega) | (rw [wrap64_id (by omega) (by omega)]; omega) | (simp; done)))); (try simp only [hb, go_sem])))
      refine hK4 _ ?_; clear hK4 K4
      refine AWP.ret ?_
      try simp only [go_sem]
      clear hK2 K2
      first
      | exact ⟨[], .tup [.v _, .v _], rfl, ⟨rfl, rfl, trivial⟩, tupP (parse_long (by omega)), rfl⟩
      | exact ⟨[], .tup [.v _, .v _], rfl, ⟨rfl, rfl, trivial⟩, tupP (parse_form (by omega) (r1_yes1 hJ (by assumption))), rfl⟩
      | exact ⟨[], .tup [.v _, .v _], rfl, ⟨rfl, rfl, trivial⟩, tupP (parse_form (by omega) (r1_yes2 hJ hb (by assumption) (by assumption))), rfl⟩
      | exact ⟨[], .tup [.v _, .v _], rfl, ⟨rfl, rfl, trivial⟩, tupP (parse_dig (by omega) (all_not (r1_get hJ hb) (.inl (by assumption)))), rfl⟩
      | exact ⟨[], .tup [.v _, .v _], rfl, ⟨rfl, rfl, trivial⟩, tupP (parse_dig (by omega) (all_not (r1_get hJ hb) (.inr (by assumption)))), rfl⟩
      | (have he := r1_end hJ h1 c38
         rw [he] at h2 h3 h4
         exact ⟨[], .tup [.v _, .v _], rfl, ⟨rfl, rfl, trivial⟩, tupP (parse_over (by omega) hF h2 (h4 (by assumption))), rfl⟩)
      | (have he := r1_end hJ h1 c38
         rw [he] at h2 h3 h4
         exact ⟨[], .tup [.v _, .v _], rfl, ⟨rfl, rfl, trivial⟩, tupP (parse_over (by omega) hF h2 (by have := (h3 (by assumption)).1; omega)), rfl⟩)
      | (have he := r1_end hJ h1 c38
         rw [he] at h2 h3 h4
         have hn := (h3 (by assumption)).1
         have hw := wrapn c68
         simp only [hw.1, hw.2]
         have ho := parse_ok (l := s) (by omega) hF h2 (by omega)
         rw [← hn] at ho
         first
         | (rw [if_pos (sg_yes hJ c70)] at ho
            exact ⟨[], .tup [.v _, .v _], rfl, ⟨rfl, rfl, trivial⟩, tupP ho, rfl⟩)
         | (rw [if_neg (by rw [sg_no hJ c70]; simp)] at ho
            exact ⟨[], .tup [.v _, .v _], rfl, ⟨rfl, rfl, trivial⟩, tupP ho, rfl⟩)))
  · first | exact Bool.noConfusion c10 | (
      try simp only [dD] at c10
      refine AWP.skip ?_
      refine hK2 _ ?_; clear hK2 K2
      refine AWP.seqk fun K5 hK5 => ?_
      refine AWP.region ?_
      simp only [go_sem] -- region 3
      repeat' (first | (refine AGet.haveM (by assumption) ?_; (try simp only [go_sem])) | (refine AGet.have' (by assumption) ?_; (try simp only [go_sem])) | ((first | refine AGet.nth ?_ (fun b hb => ?_) | refine AGet.nth1 ?_ (fun b hb => ?_) | with_reducible refine And.intro ?_ ?_); (focus ((first | omega | exact List.length_pos_iff.2 (by assumption) | (simp only [List.length_append, List.length_cons, List.length_nil, List.length_map, List.length_take, List.length_drop] at *; omega) | (rw [wrap64_id (by omega) (by omega)]; omega) | (simp; done)))); (try simp only [hb, go_sem])))
      refine hK5 _ ?_; clear hK5 K5
      refine AWP.seqJ (ι := Nat) [11, 12, 13, 14, 15, 16, 17, 18] (fun (i0 : Nat) => [(4, i64 i0)]) (fun (i0 : Nat) => []) (fun (i0 : Nat) => []) (fun (i0 : Nat) => i0 = sg s) ?_ ?_
      · refine AWP.seqk fun K6 hK6 => ?_
        refine AWP.region ?_
        simp only [go_sem] -- region 4
        repeat' (first | (refine AGuard.splitN (fun h => ?_) (fun h => ?_) <;> simp only [h, go_sem] <;> try simp only [dD] at h) | (refine AGuard.split (fun h => ?_) (fun h => ?_) <;> simp only [h, go_sem] <;> try simp only [dD] at h) | (refine AGet.haveM (by assumption) ?_; (try simp only [go_sem])) | (refine AGet.have' (by assumption) ?_; (try simp only [go_sem])) | ((first | refine AGet.nth ?_ (fun b hb => ?_) | refine AGet.nth1 ?_ (fun b hb => ?_) | with_reducible refine And.intro ?_ ?_); (focus ((first | omega | exact List.length_pos_iff.2 (by assumption) | (simp only [List.length_append, List.length_cons, List.length_nil, List.length_map, List.length_take, List.length_drop] at *; omega) | (rw [wrap64_id (by omega) (by omega)]; omega) | (simp; done)))); (try simp only [hb, go_sem])))
        all_goals (
          refine hK6 _ ?_; clear hK6 K6
          refine AWP.cond rfl (fun c18 => ?_) (fun c18 => ?_)
          · first | exact Bool.noConfusion c18 | (
              try simp only [dD] at c18
              refine AWP.region ?_
              simp only [go_sem] -- region 5
              repeat' (first | (refine AGet.haveM (by assumption) ?_; (try simp only [go_sem])) | (refine AGet.have' (by assumption) ?_; (try simp only [go_sem])) | ((first | refine AGet.nth ?_ (fun b hb => ?_) | refine AGet.nth1 ?_ (fun b hb => ?_) | with_reducible refine And.intro ?_ ?_); (focus ((first | omega | exact List.length_pos_iff.2 (by assumption) | (simp only [List.length_append, List.length_cons, List.length_nil, List.length_map, List.length_take, List.length_drop] at *; omega) | (rw [wrap64_id (by omega) (by omega)]; omega) | (simp; done)))); (try simp only [hb, go_sem])))
              first
              | (refine ⟨1, ?_, ?_⟩
                 · exact (sg_one (by assumption) (by assumption)).symm
                 · (try simp only [go_sem]); (try simp); done)
              | (refine ⟨0, ?_, ?_⟩
                 · first | exact (sg_zero1 (by omega)).symm | exact (sg_zero2 (by assumption) (by assumption)).symm
                 · (try simp only [go_sem]); (try simp); done))
          · first | exact Bool.noConfusion c18 | (
              try simp only [dD] at c18
              refine AWP.skip ?_
              first
              | (refine ⟨1, ?_, ?_⟩
                 · exact (sg_one (by assumption) (by assumption)).symm
                 · (try simp only [go_sem]); (try simp); done)
              | (refine ⟨0, ?_, ?_⟩
                 · first | exact (sg_zero1 (by omega)).symm | exact (sg_zero2 (by assumption) (by assumption)).symm
                 · (try simp only [go_sem]); (try simp); done)))
      rintro i0 hJ
      simp only [go_sem]
      refine AWP.seqJ (ι := Unit) [2, 3, 19, 20, 21, 22, 23, 24, 25, 26, 27, 28, 29, 30, 31, 32, 33] (fun (c : Unit) => []) (fun (c : Unit) => []) (fun (c : Unit) => []) (fun (c : Unit) => ¬ ((signed s).1 = [] ∨ ((signed s).1.head? = some 48 ∧ 1 < s.length))) ?_ ?_
      · refine AWP.seqk fun K7 hK7 => ?_
        refine AWP.region ?_
        simp only [go_sem] -- region 6
        repeat' (first | (refine AGuard.splitN (fun h => ?_) (fun h => ?_) <;> simp only [h, go_sem] <;> try simp only [dD] at h) | (refine AGuard.split (fun h => ?_) (fun h => ?_) <;> simp only [h, go_sem] <;> try simp only [dD] at h) | (refine AGet.haveM (by assumption) ?_; (try simp only [go_sem])) | (refine AGet.have' (by assumption) ?_; (try simp only [go_sem])) | ((first | refine AGet.nth ?_ (fun b hb => ?_) | refine AGet.nth1 ?_ (fun b hb => ?_) | with_reducible refine And.intro ?_ ?_); (focus ((first | omega | exact List.length_pos_iff.2 (by assumption) | (simp only [List.length_append, List.length_cons, List.length_nil, List.length_map, List.length_take, List.length_drop] at *; omega) | (rw [wrap64_id (by omega) (by omega)]; omega) | (simp; done)))); (try simp only [hb, go_sem])))
        all_goals (
          refine hK7 _ ?_; clear hK7 K7
          refine AWP.cond rfl (fun c33 => ?_) (fun c33 => ?_)
          · first | exact Bool.noConfusion c33 | (
              try simp only [dD] at c33
              refine AWP.seqk fun K8 hK8 => ?_
              refine AWP.region ?_
              simp only [go_sem] -- region 7
              repeat' (first | (refine AGet.haveM (by assumption) ?_; (try simp only [go_sem])) | (refine AGet.have' (by assumption) ?_; (try simp only [go_sem])) | ((first | refine AGet.nth ?_ (fun b hb => ?_) | refine AGet.nth1 ?_ (fun b hb => ?_) | with_reducible refine And.intro ?_ ?_); (focus ((first | omega | exact List.length_pos_iff.2 (by assumption) | (simp only [List.length_append, List.length_cons, List.length_nil, List.length_map, List.length_take, List.length_drop] at *; omega) | (rw [wrap64_id (by omega) (by omega)]; omega) | (simp; done)))); (try simp only [hb, go_sem])))
              refine hK8 _ ?_; clear hK8 K8
              refine AWP.ret ?_
              try simp only [go_sem]
              first
              | exact ⟨[], .tup [.v _, .v _], rfl, ⟨rfl, rfl, trivial⟩, tupP (parse_long (by omega)), rfl⟩
              | exact ⟨[], .tup [.v _, .v _], rfl, ⟨rfl, rfl, trivial⟩, tupP (parse_form (by omega) (r1_yes1 hJ (by assumption))), rfl⟩
              | exact ⟨[], .tup [.v _, .v _], rfl, ⟨rfl, rfl, trivial⟩, tupP (parse_form (by omega) (r1_yes2 hJ hb (by assumption) (by assumption))), rfl⟩
              | exact ⟨[], .tup [.v _, .v _], rfl, ⟨rfl, rfl, trivial⟩, tupP (parse_dig (by omega) (all_not (r1_get hJ hb) (.inl (by assumption)))), rfl⟩
              | exact ⟨[], .tup [.v _, .v _], rfl, ⟨rfl, rfl, trivial⟩, tupP (parse_dig (by omega) (all_not (r1_get hJ hb) (.inr (by assumption)))), rfl⟩
              | (have he := r1_end hJ h1 c38
                 rw [he] at h2 h3 h4
                 exact ⟨[], .tup [.v _, .v _], rfl, ⟨rfl, rfl, trivial⟩, tupP (parse_over (by omega) hF h2 (h4 (by assumption))), rfl⟩)
              | (have he := r1_end hJ h1 c38
                 rw [he] at h2 h3 h4
                 exact ⟨[], .tup [.v _, .v _], rfl, ⟨rfl, rfl, trivial⟩, tupP (parse_over (by omega) hF h2 (by have := (h3 (by assumption)).1; omega)), rfl⟩)
              | (have he := r1_end hJ h1 c38
                 rw [he] at h2 h3 h4
                 have hn := (h3 (by assumption)).1
                 have hw := wrapn c68
                 simp only [hw.1, hw.2]
                 have ho := parse_ok (l := s) (by omega) hF h2 (by omega)
                 rw [← hn] at ho
                 first
                 | (rw [if_pos (sg_yes hJ c70)] at ho
                    exact ⟨[], .tup [.v _, .v _], rfl, ⟨rfl, rfl, trivial⟩, tupP ho, rfl⟩)
                 | (rw [if_neg (by rw [sg_no hJ c70]; simp)] at ho
                    exact ⟨[], .tup [.v _, .v _], rfl, ⟨rfl, rfl, trivial⟩, tupP ho, rfl⟩)))
          · first | exact Bool.noConfusion c33 | (
              try simp only [dD] at c33
              refine AWP.skip ?_
              refine ⟨(), ?_, ?_⟩
              · first | exact r1_no hJ hb (.inl (by assumption)) | exact r1_no hJ hb (.inr (by assumption))
              · (try simp only [go_sem]); (try simp); done))
      rintro c hF
      simp only [go_sem]
      refine AWP.seqk fun K9 hK9 => ?_
      refine AWP.region ?_
      simp only [go_sem] -- region 8
      repeat' (first | (refine AGet.haveM (by assumption) ?_; (try simp only [go_sem])) | (refine AGet.have' (by assumption) ?_; (try simp only [go_sem])) | ((first | refine AGet.nth ?_ (fun b hb => ?_) | refine AGet.nth1 ?_ (fun b hb => ?_) | with_reducible refine And.intro ?_ ?_); (focus ((first | omega | exact List.length_pos_iff.2 (by assumption) | (simp only [List.length_append, List.length_cons, List.length_nil, List.length_map, List.length_take, List.length_drop] at *; omega) | (rw [wrap64_id (by omega) (by omega)]; omega) | (simp; done)))); (try simp only [hb, go_sem])))
      refine hK9 _ ?_; clear hK9 K9
      refine AWP.seqk fun K10 hK10 => ?_
      refine AWP.region ?_
      simp only [go_sem] -- region 9
      repeat' (first | (refine AGet.haveM (by assumption) ?_; (try simp only [go_sem])) | (refine AGet.have' (by assumption) ?_; (try simp only [go_sem])) | ((first | refine AGet.nth ?_ (fun b hb => ?_) | refine AGet.nth1 ?_ (fun b hb => ?_) | with_reducible refine And.intro ?_ ?_); (focus ((first | omega | exact List.length_pos_iff.2 (by assumption) | (simp only [List.length_append, List.length_cons, List.length_nil, List.length_map, List.length_take, List.length_drop] at *; omega) | (rw [wrap64_id (by omega) (by omega)]; omega) | (simp; done)))); (try simp only [hb, go_sem])))
      refine hK10 _ ?_; clear hK10 K10
      refine AWP.seqk fun K11 hK11 => ?_
      refine AWP.seqk fun K12 hK12 => ?_
      refine AWP.region ?_
      simp only [go_sem] -- region 10
      repeat' (first | (refine AGet.haveM (by assumption) ?_; (try simp only [go_sem])) | (refine AGet.have' (by assumption) ?_; (try simp only [go_sem])) | ((first | refine AGet.nth ?_ (fun b hb => ?_) | refine AGet.nth1 ?_ (fun b hb => ?_) | with_reducible refine And.intro ?_ ?_); (focus ((first | omega | exact List.length_pos_iff.2 (by assumption) | (simp only [List.length_append, List.length_cons, List.length_nil, List.length_map, List.length_take, List.length_drop] at *; omega) | (rw [wrap64_id (by omega) (by omega)]; omega) | (simp; done)))); (try simp only [hb, go_sem])))
      refine hK12 _ ?_; clear hK12 K12
      refine AWP.block ?_ -- 0
      refine AWP.loopH (ι := Nat × Nat × Bool) [2, 3, 35, 36, 37, 38, 39, 40, 41, 42, 43, 44, 45, 46, 47, 48, 49, 50, 51, 52, 53, 54, 55, 56, 57, 58, 59, 60, 61, 62, 63] (fun ⟨j, n, ov⟩ => [(7, i64 ((i0 + j : Nat) : Int)), (5, .v (.int .u64 n)), (6, bl ov)]) (fun ⟨j, n, ov⟩ => j ≤ (signed s).1.length ∧ ((signed s).1.take j).all isDig = true ∧ (ov = false → n = decVal 0 ((signed s).1.take j) ∧ n ≤ 4611686018427387909) ∧ (ov = true → 4611686018427387904 < decVal 0 ((signed s).1.take j))) (fun ⟨j, n, ov⟩ => (signed s).1.length - j) ((0, 0, false)) ?_ ?_ ?_
      · (try simp only [go_sem]); try (simp; done)
      · simp [decVal_nil]
      rintro ⟨j, n, ov⟩ ⟨h1, h2, h3, h4⟩
      simp only [go_sem]
      refine AWP.seqk fun K13 hK13 => ?_
      refine AWP.seqk fun K14 hK14 => ?_
      refine AWP.region ?_
      simp only [go_sem] -- region 11
      repeat' (first | (refine AGet.haveM (by assumption) ?_; (try simp only [go_sem])) | (refine AGet.have' (by assumption) ?_; (try simp only [go_sem])) | ((first | refine AGet.nth ?_ (fun b hb => ?_) | refine AGet.nth1 ?_ (fun b hb => ?_) | with_reducible refine And.intro ?_ ?_); (focus ((first | omega | exact List.length_pos_iff.2 (by assumption) | (simp only [List.length_append, List.length_cons, List.length_nil, List.length_map, List.length_take, List.length_drop] at *; omega) | (rw [wrap64_id (by omega) (by omega)]; omega) | (simp; done)))); (try simp only [hb, go_sem])))
      refine hK14 _ ?_; clear hK14 K14
      refine AWP.cond rfl (fun c38 => ?_) (fun c38 => ?_)
      · first | exact Bool.noConfusion c38 | (
          try simp only [dD] at c38
          refine AWP.skip ?_
          refine hK13 _ ?_; clear hK13 K13
          refine AWP.seqk fun K15 hK15 => ?_
          refine AWP.block ?_ -- 1
          refine AWP.seqk fun K16 hK16 => ?_
          refine AWP.seqk fun K17 hK17 => ?_
          refine AWP.region ?_
          simp only [go_sem] -- region 13
          repeat' (first | (refine AGuard.splitN (fun h => ?_) (fun h => ?_) <;> simp only [h, go_sem] <;> try simp only [dD] at h) | (refine AGuard.split (fun h => ?_) (fun h => ?_) <;> simp only [h, go_sem] <;> try simp only [dD] at h) | (refine AGet.haveM (by assumption) ?_; (try simp only [go_sem])) | (refine AGet.have' (by assumption) ?_; (try simp only [go_sem])) | ((first | refine AGet.nth ?_ (fun b hb => ?_) | refine AGet.nth1 ?_ (fun b hb => ?_) | with_reducible refine And.intro ?_ ?_); (focus ((first | omega | exact List.length_pos_iff.2 (by assumption) | (simp only [List.length_append, List.length_cons, List.length_nil, List.length_map, List.length_take, List.length_drop] at *; omega) | (rw [wrap64_id (by omega) (by omega)]; omega) | (simp; done)))); (try simp only [hb, go_sem])))
          all_goals (
            refine hK17 _ ?_; clear hK17 K17
            refine AWP.cond rfl (fun c50 => ?_) (fun c50 => ?_)
            · first | exact Bool.noConfusion c50 | (
                try simp only [dD] at c50
                refine AWP.seqk fun K18 hK18 => ?_
                refine AWP.region ?_
                simp only [go_sem] -- region 14
                repeat' (first | (refine AGet.haveM (by assumption) ?_; (try simp only [go_sem])) | (refine AGet.have' (by assumption) ?_; (try simp only [go_sem])) | ((first | refine AGet.nth ?_ (fun b hb => ?_) | refine AGet.nth1 ?_ (fun b hb => ?_) | with_reducible refine And.intro ?_ ?_); (focus ((first | omega | exact List.length_pos_iff.2 (by assumption) | (simp only [List.length_append, List.length_cons, List.length_nil, List.length_map, List.length_take, List.length_drop] at *; omega) | (rw [wrap64_id (by omega) (by omega)]; omega) | (simp; done)))); (try simp only [hb, go_sem])))
                refine hK18 _ ?_; clear hK18 K18
                refine AWP.ret ?_
                try simp only [go_sem]
                clear hK16 K16 hK15 K15 hK11 K11
                first
                | exact ⟨[], .tup [.v _, .v _], rfl, ⟨rfl, rfl, trivial⟩, tupP (parse_long (by omega)), rfl⟩
                | exact ⟨[], .tup [.v _, .v _], rfl, ⟨rfl, rfl, trivial⟩, tupP (parse_form (by omega) (r1_yes1 hJ (by assumption))), rfl⟩
                | exact ⟨[], .tup [.v _, .v _], rfl, ⟨rfl, rfl, trivial⟩, tupP (parse_form (by omega) (r1_yes2 hJ hb (by assumption) (by assumption))), rfl⟩
                | exact ⟨[], .tup [.v _, .v _], rfl, ⟨rfl, rfl, trivial⟩, tupP (parse_dig (by omega) (all_not (r1_get hJ hb) (.inl (by assumption)))), rfl⟩
                | exact ⟨[], .tup [.v _, .v _], rfl, ⟨rfl, rfl, trivial⟩, tupP (parse_dig (by omega) (all_not (r1_get hJ hb) (.inr (by assumption)))), rfl⟩
                | (have he := r1_end hJ h1 c38
                   rw [he] at h2 h3 h4
                   exact ⟨[], .tup [.v _, .v _], rfl, ⟨rfl, rfl, trivial⟩, tupP (parse_over (by omega) hF h2 (h4 (by assumption))), rfl⟩)
                | (have he := r1_end hJ h1 c38
                   rw [he] at h2 h3 h4
                   exact ⟨[], .tup [.v _, .v _], rfl, ⟨rfl, rfl, trivial⟩, tupP (parse_over (by omega) hF h2 (by have := (h3 (by assumption)).1; omega)), rfl⟩)
                | (have he := r1_end hJ h1 c38
                   rw [he] at h2 h3 h4
                   have hn := (h3 (by assumption)).1
                   have hw := wrapn c68
                   simp only [hw.1, hw.2]
                   have ho := parse_ok (l := s) (by omega) hF h2 (by omega)
                   rw [← hn] at ho
                   first
                   | (rw [if_pos (sg_yes hJ c70)] at ho
                      exact ⟨[], .tup [.v _, .v _], rfl, ⟨rfl, rfl, trivial⟩, tupP ho, rfl⟩)
                   | (rw [if_neg (by rw [sg_no hJ c70]; simp)] at ho
                      exact ⟨[], .tup [.v _, .v _], rfl, ⟨rfl, rfl, trivial⟩, tupP ho, rfl⟩)))
            · first | exact Bool.noConfusion c50 | (
                try simp only [dD] at c50
                refine AWP.skip ?_
                refine hK16 _ ?_; clear hK16 K16
                refine AWP.seqk fun K19 hK19 => ?_
                refine AWP.seqk fun K20 hK20 => ?_
                refine AWP.region ?_
                simp only [go_sem] -- region 15
                repeat' (first | (refine AGuard.splitN (fun h => ?_) (fun h => ?_) <;> simp only [h, go_sem] <;> try simp only [dD] at h) | (refine AGuard.split (fun h => ?_) (fun h => ?_) <;> simp only [h, go_sem] <;> try simp only [dD] at h) | (refine AGet.haveM (by assumption) ?_; (try simp only [go_sem])) | (refine AGet.have' (by assumption) ?_; (try simp only [go_sem])) | ((first | refine AGet.nth ?_ (fun b hb => ?_) | refine AGet.nth1 ?_ (fun b hb => ?_) | with_reducible refine And.intro ?_ ?_); (focus ((first | omega | exact List.length_pos_iff.2 (by assumption) | (simp only [List.length_append, List.length_cons, List.length_nil, List.length_map, List.length_take, List.length_drop] at *; omega) | (rw [wrap64_id (by omega) (by omega)]; omega) | (simp; done)))); (try simp only [hb, go_sem])))
                all_goals (
                  refine hK20 _ ?_; clear hK20 K20
                  refine AWP.cond rfl (fun c55 => ?_) (fun c55 => ?_)
                  · first | exact Bool.noConfusion c55 | (
                      try simp only [dD] at c55
                      refine AWP.seqk fun K21 hK21 => ?_
                      refine AWP.region ?_
                      simp only [go_sem] -- region 16
                      repeat' (first | (refine AGet.haveM (by assumption) ?_; (try simp only [go_sem])) | (refine AGet.have' (by assumption) ?_; (try simp only [go_sem])) | ((first | refine AGet.nth ?_ (fun b hb => ?_) | refine AGet.nth1 ?_ (fun b hb => ?_) | with_reducible refine And.intro ?_ ?_); (focus ((first | omega | exact List.length_pos_iff.2 (by assumption) | (simp only [List.length_append, List.length_cons, List.length_nil, List.length_map, List.length_take, List.length_drop] at *; omega) | (rw [wrap64_id (by omega) (by omega)]; omega) | (simp; done)))); (try simp only [hb, go_sem])))
                      refine hK21 _ ?_; clear hK21 K21
                      refine AWP.exit ?_
                      simp only [go_sem]
                      clear hK19 K19
                      refine hK15 _ ?_; clear hK15 K15
                      refine AWP.region ?_
                      simp only [go_sem] -- region 12
                      repeat' (first | (refine AGet.haveM (by assumption) ?_; (try simp only [go_sem])) | (refine AGet.have' (by assumption) ?_; (try simp only [go_sem])) | ((first | refine AGet.nth ?_ (fun b hb => ?_) | refine AGet.nth1 ?_ (fun b hb => ?_) | with_reducible refine And.intro ?_ ?_); (focus ((first | omega | exact List.length_pos_iff.2 (by assumption) | (simp only [List.length_append, List.length_cons, List.length_nil, List.length_map, List.length_take, List.length_drop] at *; omega) | (rw [wrap64_id (by omega) (by omega)]; omega) | (simp; done)))); (try simp only [hb, go_sem])))
                      clear hK11 K11
                      have hb' := r1_get hJ hb
                      have hlt := get_lt hb'
                      have hd := all_next hb' h2 (by assumption) c50
                      first
                      | (have hov := h4 (by assumption)
                         refine ⟨(j + 1, n, true), ?_, ⟨hlt, hd, fun e => Bool.noConfusion e, fun _ => r1_over1 hb' hov⟩, (show (signed s).1.length - (j + 1) < (signed s).1.length - j by omega)⟩
                         rw [wrap64_id (by omega) (by omega)]; simp [(by assumption : ov = true)]; try omega)
                      | (obtain ⟨hn, hn2⟩ := h3 (by assumption)
                         refine ⟨(j + 1, n, true), ?_, ⟨hlt, hd, fun e => Bool.noConfusion e, fun _ => r1_over2 hb' hn c55⟩, (show (signed s).1.length - (j + 1) < (signed s).1.length - j by omega)⟩
                         rw [wrap64_id (by omega) (by omega)]; simp; try omega)
                      | (obtain ⟨hn, hn2⟩ := h3 (by assumption)
                         refine ⟨(j + 1, n * 10 + (b.toNat - 48), false), ?_, ⟨hlt, hd, fun _ => ⟨by rw [val_next hb', hn], (show n * 10 + (b.toNat - 48) ≤ 4611686018427387909 by omega)⟩, fun e => Bool.noConfusion e⟩, (show (signed s).1.length - (j + 1) < (signed s).1.length - j by omega)⟩
                         rw [wrap64_id (by omega) (by omega), r1_add (by assumption) (by assumption) (by assumption)]; simp; try omega))
                  · first | exact Bool.noConfusion c55 | (
                      try simp only [dD] at c55
                      refine AWP.skip ?_
                      refine hK19 _ ?_; clear hK19 K19
                      refine AWP.region ?_
                      simp only [go_sem] -- region 17
                      repeat' (first | (refine AGet.haveM (by assumption) ?_; (try simp only [go_sem])) | (refine AGet.have' (by assumption) ?_; (try simp only [go_sem])) | ((first | refine AGet.nth ?_ (fun b hb => ?_) | refine AGet.nth1 ?_ (fun b hb => ?_) | with_reducible refine And.intro ?_ ?_); (focus ((first | omega | exact List.length_pos_iff.2 (by assumption) | (simp only [List.length_append, List.length_cons, List.length_nil, List.length_map, List.length_take, List.length_drop] at *; omega) | (rw [wrap64_id (by omega) (by omega)]; omega) | (simp; done)))); (try simp only [hb, go_sem])))
                      refine hK15 _ ?_; clear hK15 K15
                      refine AWP.region ?_
                      simp only [go_sem] -- region 12
                      repeat' (first | (refine AGet.haveM (by assumption) ?_; (try simp only [go_sem])) | (refine AGet.have' (by assumption) ?_; (try simp only [go_sem])) | ((first | refine AGet.nth ?_ (fun b hb => ?_) | refine AGet.nth1 ?_ (fun b hb => ?_) | with_reducible refine And.intro ?_ ?_); (focus ((first | omega | exact List.length_pos_iff.2 (by assumption) | (simp only [List.length_append, List.length_cons, List.length_nil, List.length_map, List.length_take, List.length_drop] at *; omega) | (rw [wrap64_id (by omega) (by omega)]; omega) | (simp; done)))); (try simp only [hb, go_sem])))
                      clear hK11 K11
                      have hb' := r1_get hJ hb
                      have hlt := get_lt hb'
                      have hd := all_next hb' h2 (by assumption) c50
                      first
                      | (have hov := h4 (by assumption)
                         refine ⟨(j + 1, n, true), ?_, ⟨hlt, hd, fun e => Bool.noConfusion e, fun _ => r1_over1 hb' hov⟩, (show (signed s).1.length - (j + 1) < (signed s).1.length - j by omega)⟩
                         rw [wrap64_id (by omega) (by omega)]; simp [(by assumption : ov = true)]; try omega)
                      | (obtain ⟨hn, hn2⟩ := h3 (by assumption)
                         refine ⟨(j + 1, n, true), ?_, ⟨hlt, hd, fun e => Bool.noConfusion e, fun _ => r1_over2 hb' hn c55⟩, (show (signed s).1.length - (j + 1) < (signed s).1.length - j by omega)⟩
                         rw [wrap64_id (by omega) (by omega)]; simp; try omega)
                      | (obtain ⟨hn, hn2⟩ := h3 (by assumption)
                         refine ⟨(j + 1, n * 10 + (b.toNat - 48), false), ?_, ⟨hlt, hd, fun _ => ⟨by rw [val_next hb', hn], (show n * 10 + (b.toNat - 48) ≤ 4611686018427387909 by omega)⟩, fun e => Bool.noConfusion e⟩, (show (signed s).1.length - (j + 1) < (signed s).1.length - j by omega)⟩
                         rw [wrap64_id (by omega) (by omega), r1_add (by assumption) (by assumption) (by assumption)]; simp; try omega))))))
      · first | exact Bool.noConfusion c38 | (
          try simp only [dD] at c38
          refine AWP.exit ?_
          simp only [go_sem]
          clear hK13 K13
          refine hK11 _ ?_; clear hK11 K11
          refine AWP.seqk fun K22 hK22 => ?_
          refine AWP.seqk fun K23 hK23 => ?_
          refine AWP.region ?_
          simp only [go_sem] -- region 18
          repeat' (first | (refine AGuard.splitN (fun h => ?_) (fun h => ?_) <;> simp only [h, go_sem] <;> try simp only [dD] at h) | (refine AGuard.split (fun h => ?_) (fun h => ?_) <;> simp only [h, go_sem] <;> try simp only [dD] at h) | (refine AGet.haveM (by assumption) ?_; (try simp only [go_sem])) | (refine AGet.have' (by assumption) ?_; (try simp only [go_sem])) | ((first | refine AGet.nth ?_ (fun b hb => ?_) | refine AGet.nth1 ?_ (fun b hb => ?_) | with_reducible refine And.intro ?_ ?_); (focus ((first | omega | exact List.length_pos_iff.2 (by assumption) | (simp only [List.length_append, List.length_cons, List.length_nil, List.length_map, List.length_take, List.length_drop] at *; omega) | (rw [wrap64_id (by omega) (by omega)]; omega) | (simp; done)))); (try simp only [hb, go_sem])))
          all_goals (
            refine hK23 _ ?_; clear hK23 K23
            refine AWP.cond rfl (fun c68 => ?_) (fun c68 => ?_)
            · first | exact Bool.noConfusion c68 | (
                try simp only [dD] at c68
                refine AWP.seqk fun K24 hK24 => ?_
                refine AWP.region ?_
                simp only [go_sem] -- region 19
                repeat' (first | (refine AGet.haveM (by assumption) ?_; (try simp only [go_sem])) | (refine AGet.have' (by assumption) ?_; (try simp only [go_sem])) | ((first | refine AGet.nth ?_ (fun b hb => ?_) | refine AGet.nth1 ?_ (fun b hb => ?_) | with_reducible refine And.intro ?_ ?_); (focus ((first | omega | exact List.length_pos_iff.2 (by assumption) | (simp only [List.length_append, List.length_cons, List.length_nil, List.length_map, List.length_take, List.length_drop] at *; omega) | (rw [wrap64_id (by omega) (by omega)]; omega) | (simp; done)))); (try simp only [hb, go_sem])))
                refine hK24 _ ?_; clear hK24 K24
                refine AWP.ret ?_
                try simp only [go_sem]
                clear hK22 K22
                first
                | exact ⟨[], .tup [.v _, .v _], rfl, ⟨rfl, rfl, trivial⟩, tupP (parse_long (by omega)), rfl⟩
                | exact ⟨[], .tup [.v _, .v _], rfl, ⟨rfl, rfl, trivial⟩, tupP (parse_form (by omega) (r1_yes1 hJ (by assumption))), rfl⟩
                | exact ⟨[], .tup [.v _, .v _], rfl, ⟨rfl, rfl, trivial⟩, tupP (parse_form (by omega) (r1_yes2 hJ hb (by assumption) (by assumption))), rfl⟩
                | exact ⟨[], .tup [.v _, .v _], rfl, ⟨rfl, rfl, trivial⟩, tupP (parse_dig (by omega) (all_not (r1_get hJ hb) (.inl (by assumption)))), rfl⟩
                | exact ⟨[], .tup [.v _, .v _], rfl, ⟨rfl, rfl, trivial⟩, tupP (parse_dig (by omega) (all_not (r1_get hJ hb) (.inr (by assumption)))), rfl⟩
                | (have he := r1_end hJ h1 c38
                   rw [he] at h2 h3 h4
                   exact ⟨[], .tup [.v _, .v _], rfl, ⟨rfl, rfl, trivial⟩, tupP (parse_over (by omega) hF h2 (h4 (by assumption))), rfl⟩)
                | (have he := r1_end hJ h1 c38
                   rw [he] at h2 h3 h4
                   exact ⟨[], .tup [.v _, .v _], rfl, ⟨rfl, rfl, trivial⟩, tupP (parse_over (by omega) hF h2 (by have := (h3 (by assumption)).1; omega)), rfl⟩)
                | (have he := r1_end hJ h1 c38
                   rw [he] at h2 h3 h4
                   have hn := (h3 (by assumption)).1
                   have hw := wrapn c68
                   simp only [hw.1, hw.2]
                   have ho := parse_ok (l := s) (by omega) hF h2 (by omega)
                   rw [← hn] at ho
                   first
                   | (rw [if_pos (sg_yes hJ c70)] at ho
                      exact ⟨[], .tup [.v _, .v _], rfl, ⟨rfl, rfl, trivial⟩, tupP ho, rfl⟩)
                   | (rw [if_neg (by rw [sg_no hJ c70]; simp)] at ho
                      exact ⟨[], .tup [.v _, .v _], rfl, ⟨rfl, rfl, trivial⟩, tupP ho, rfl⟩)))
            · first | exact Bool.noConfusion c68 | (
                try simp only [dD] at c68
                refine AWP.skip ?_
                refine hK22 _ ?_; clear hK22 K22
                refine AWP.seqk fun K25 hK25 => ?_
                refine AWP.seqk fun K26 hK26 => ?_
                refine AWP.region ?_
                simp only [go_sem] -- region 20
                repeat' (first | (refine AGet.haveM (by assumption) ?_; (try simp only [go_sem])) | (refine AGet.have' (by assumption) ?_; (try simp only [go_sem])) | ((first | refine AGet.nth ?_ (fun b hb => ?_) | refine AGet.nth1 ?_ (fun b hb => ?_) | with_reducible refine And.intro ?_ ?_); (focus ((first | omega | exact List.length_pos_iff.2 (by assumption) | (simp only [List.length_append, List.length_cons, List.length_nil, List.length_map, List.length_take, List.length_drop] at *; omega) | (rw [wrap64_id (by omega) (by omega)]; omega) | (simp; done)))); (try simp only [hb, go_sem])))
                refine hK26 _ ?_; clear hK26 K26
                refine AWP.cond rfl (fun c70 => ?_) (fun c70 => ?_)
                · first | exact Bool.noConfusion c70 | (
                    try simp only [dD] at c70
                    refine AWP.seqk fun K27 hK27 => ?_
                    refine AWP.region ?_
                    simp only [go_sem] -- region 21
                    repeat' (first | (refine AGet.haveM (by assumption) ?_; (try simp only [go_sem])) | (refine AGet.have' (by assumption) ?_; (try simp only [go_sem])) | ((first | refine AGet.nth ?_ (fun b hb => ?_) | refine AGet.nth1 ?_ (fun b hb => ?_) | with_reducible refine And.intro ?_ ?_); (focus ((first | omega | exact List.length_pos_iff.2 (by assumption) | (simp only [List.length_append, List.length_cons, List.length_nil, List.length_map, List.length_take, List.length_drop] at *; omega) | (rw [wrap64_id (by omega) (by omega)]; omega) | (simp; done)))); (try simp only [hb, go_sem])))
                    refine hK27 _ ?_; clear hK27 K27
                    refine AWP.ret ?_
                    try simp only [go_sem]
                    clear hK25 K25
                    first
                    | exact ⟨[], .tup [.v _, .v _], rfl, ⟨rfl, rfl, trivial⟩, tupP (parse_long (by omega)), rfl⟩
                    | exact ⟨[], .tup [.v _, .v _], rfl, ⟨rfl, rfl, trivial⟩, tupP (parse_form (by omega) (r1_yes1 hJ (by assumption))), rfl⟩
                    | exact ⟨[], .tup [.v _, .v _], rfl, ⟨rfl, rfl, trivial⟩, tupP (parse_form (by omega) (r1_yes2 hJ hb (by assumption) (by assumption))), rfl⟩
                    | exact ⟨[], .tup [.v _, .v _], rfl, ⟨rfl, rfl, trivial⟩, tupP (parse_dig (by omega) (all_not (r1_get hJ hb) (.inl (by assumption)))), rfl⟩
                    | exact ⟨[], .tup [.v _, .v _], rfl, ⟨rfl, rfl, trivial⟩, tupP (parse_dig (by omega) (all_not (r1_get hJ hb) (.inr (by assumption)))), rfl⟩
                    | (have he := r1_end hJ h1 c38
                       rw [he] at h2 h3 h4
                       exact ⟨[], .tup [.v _, .v _], rfl, ⟨rfl, rfl, trivial⟩, tupP (parse_over (by omega) hF h2 (h4 (by assumption))), rfl⟩)
                    | (have he := r1_end hJ h1 c38
                       rw [he] at h2 h3 h4
                       exact ⟨[], .tup [.v _, .v _], rfl, ⟨rfl, rfl, trivial⟩, tupP (parse_over (by omega) hF h2 (by have := (h3 (by assumption)).1; omega)), rfl⟩)
                    | (have he := r1_end hJ h1 c38
                       rw [he] at h2 h3 h4
                       have hn := (h3 (by assumption)).1
                       have hw := wrapn c68
                       simp only [hw.1, hw.2]
                       have ho := parse_ok (l := s) (by omega) hF h2 (by omega)
                       rw [← hn] at ho
                       first
                       | (rw [if_pos (sg_yes hJ c70)] at ho
                          exact ⟨[], .tup [.v _, .v _], rfl, ⟨rfl, rfl, trivial⟩, tupP ho, rfl⟩)
                       | (rw [if_neg (by rw [sg_no hJ c70]; simp)] at ho
                          exact ⟨[], .tup [.v _, .v _], rfl, ⟨rfl, rfl, trivial⟩, tupP ho, rfl⟩)))
                · first | exact Bool.noConfusion c70 | (
                    try simp only [dD] at c70
                    refine AWP.skip ?_
                    refine hK25 _ ?_; clear hK25 K25
                    refine AWP.seqk fun K28 hK28 => ?_
                    refine AWP.region ?_
                    simp only [go_sem] -- region 22
                    repeat' (first | (refine AGet.haveM (by assumption) ?_; (try simp only [go_sem])) | (refine AGet.have' (by assumption) ?_; (try simp only [go_sem])) | ((first | refine AGet.nth ?_ (fun b hb => ?_) | refine AGet.nth1 ?_ (fun b hb => ?_) | with_reducible refine And.intro ?_ ?_); (focus ((first | omega | exact List.length_pos_iff.2 (by assumption) | (simp only [List.length_append, List.length_cons, List.length_nil, List.length_map, List.length_take, List.length_drop] at *; omega) | (rw [wrap64_id (by omega) (by omega)]; omega) | (simp; done)))); (try simp only [hb, go_sem])))
                    refine hK28 _ ?_; clear hK28 K28
                    refine AWP.ret ?_
                    try simp only [go_sem]
                    first
                    | exact ⟨[], .tup [.v _, .v _], rfl, ⟨rfl, rfl, trivial⟩, tupP (parse_long (by omega)), rfl⟩
                    | exact ⟨[], .tup [.v _, .v _], rfl, ⟨rfl, rfl, trivial⟩, tupP (parse_form (by omega) (r1_yes1 hJ (by assumption))), rfl⟩
                    | exact ⟨[], .tup [.v _, .v _], rfl, ⟨rfl, rfl, trivial⟩, tupP (parse_form (by omega) (r1_yes2 hJ hb (by assumption) (by assumption))), rfl⟩
                    | exact ⟨[], .tup [.v _, .v _], rfl, ⟨rfl, rfl, trivial⟩, tupP (parse_dig (by omega) (all_not (r1_get hJ hb) (.inl (by assumption)))), rfl⟩
                    | exact ⟨[], .tup [.v _, .v _], rfl, ⟨rfl, rfl, trivial⟩, tupP (parse_dig (by omega) (all_not (r1_get hJ hb) (.inr (by assumption)))), rfl⟩
                    | (have he := r1_end hJ h1 c38
                       rw [he] at h2 h3 h4
                       exact ⟨[], .tup [.v _, .v _], rfl, ⟨rfl, rfl, trivial⟩, tupP (parse_over (by omega) hF h2 (h4 (by assumption))), rfl⟩)
                    | (have he := r1_end hJ h1 c38
                       rw [he] at h2 h3 h4
                       exact ⟨[], .tup [.v _, .v _], rfl, ⟨rfl, rfl, trivial⟩, tupP (parse_over (by omega) hF h2 (by have := (h3 (by assumption)).1; omega)), rfl⟩)
                    | (have he := r1_end hJ h1 c38
                       rw [he] at h2 h3 h4
                       have hn := (h3 (by assumption)).1
                       have hw := wrapn c68
                       simp only [hw.1, hw.2]
                       have ho := parse_ok (l := s) (by omega) hF h2 (by omega)
                       rw [← hn] at ho
                       first
                       | (rw [if_pos (sg_yes hJ c70)] at ho
                          exact ⟨[], .tup [.v _, .v _], rfl, ⟨rfl, rfl, trivial⟩, tupP ho, rfl⟩)
                       | (rw [if_neg (by rw [sg_no hJ c70]; simp)] at ho
                          exact ⟨[], .tup [.v _, .v _], rfl, ⟨rfl, rfl, trivial⟩, tupP ho, rfl⟩)))))))


set_option maxRecDepth 8000 in
set_option maxHeartbeats 2000000 in
theorem r2parse_c (bs : Bs) : ACalls E 35 [bytesV bs] (fun r t => r = .tup [.sl (some 0) 2 ((parseL bs).1.map fldV), i64 (parseL bs).2] ∧ t = [(parseL bs).1.length]) := by -- checkroll/checkrollref02.Parse
  refine ACalls.of_awp (n := 113) (rs := [.tmp 2, .tmp 3]) Tryd.func35 rfl Tryd.ntmps35 rfl ?_
  refine AWP.seqk fun K1 hK1 => ?_
  refine AWP.region ?_
  simp only [go_sem] -- region 0
  repeat' (first | (refine AGet.haveM (by assumption) ?_; (try simp only [go_sem])) | (refine AGet.have' (by assumption) ?_; (try simp only [go_sem])) | ((first | refine AGet.nth ?_ (fun b hb => ?_) | refine AGet.nth1 ?_ (fun b hb => ?_) | with_reducible refine And.intro ?_ ?_); (focus ((first | omega | exact List.length_pos_iff.2 (by assumption) | (simp only [List.length_append, List.length_cons, List.length_nil, List.length_map, List.length_take, List.length_drop] at *; omega) | (rw [wrap64_id (by omega) (by omega)]; omega) | (simp; done)))); (try simp only [hb, go_sem])))
  refine hK1 _ ?_; clear hK1 K1
  refine AWP.seqk fun K2 hK2 => ?_
  refine AWP.seqk fun K3 hK3 => ?_
  refine AWP.region ?_
  simp only [go_sem] -- region 1
  repeat' (first | (refine AGet.haveM (by assumption) ?_; (try simp only [go_sem])) | (refine AGet.have' (by assumption) ?_; (try simp only [go_sem])) | ((first | refine AGet.nth ?_ (fun b hb => ?_) | refine AGet.nth1 ?_ (fun b hb => ?_) | with_reducible refine And.intro ?_ ?_); (focus ((first | omega | exact List.length_pos_iff.2 (by assumption) | (simp only [List.length_append, List.length_cons, List.length_nil, List.length_map, List.length_take, List.length_drop] at *; omega) | (rw [wrap64_id (by omega) (by omega)]; omega) | (simp; done)))); (try simp only [hb, go_sem])))
  refine hK3 _ ?_; clear hK3 K3
  refine AWP.cond rfl (fun c12 => ?_) (fun c12 => ?_)
  · first | exact Bool.noConfusion c12 | (
      try simp only [dD] at c12
      refine AWP.seqk fun K4 hK4 => ?_
      refine AWP.region ?_
      simp only [go_sem] -- region 2
      repeat' (first | (refine AGet.haveM (by assumption) ?_; (try simp only [go_sem])) | (refine AGet.have' (by assumption) ?_; (try simp only [go_sem])) | ((first | refine AGet.nth ?_ (fun b hb => ?_) | refine AGet.nth1 ?_ (fun b hb => ?_) | with_reducible refine And.intro ?_ ?_); (focus ((first | omega | exact List.length_pos_iff.2 (by assumption) | (simp only [List.length_append, List.length_cons, List.length_nil, List.length_map, List.length_take, List.length_drop] at *; omega) | (rw [wrap64_id (by omega) (by omega)]; omega) | (simp; done)))); (try simp only [hb, go_sem])))
      refine hK4 _ ?_; clear hK4 K4
      refine AWP.ret ?_
      try simp only [go_sem]
      clear hK2 K2
      first
      | exact ⟨[(false, 2)], .tup [.sl (some 0) 2 [], .v _], rfl, ⟨rfl, rfl, trivial⟩, by rw [pl_long (by omega)]; rfl, by rw [pl_long (by omega)]; rfl⟩
      | exact ⟨[(false, 2)], .tup [.sl (some 0) 2 [], .v _], rfl, ⟨rfl, rfl, trivial⟩, by rw [pl_short (by omega) h3 (by simp; omega) (p2_none g2 (by omega))]; rfl, by rw [pl_short (by omega) h3 (by simp; omega) (p2_none g2 (by omega))]; rfl⟩
      | exact ⟨[(false, 2)], .tup [.sl (some 0) 2 [], .v _], rfl, ⟨rfl, rfl, trivial⟩, by rw [pl_form (by omega) h3 (p2_cut g2 hhit) (r2_bad g1 hD (.inl (by assumption)))]; rfl, by rw [pl_form (by omega) h3 (p2_cut g2 hhit) (r2_bad g1 hD (.inl (by assumption)))]; rfl⟩
      | exact ⟨[(false, 2)], .tup [.sl (some 0) 2 [], .v _], rfl, ⟨rfl, rfl, trivial⟩, by rw [pl_form (by omega) h3 (p2_cut g2 hhit) (r2_bad g1 hD (.inr (.inl ⟨_, hb, (by assumption), (by assumption)⟩)))]; rfl, by rw [pl_form (by omega) h3 (p2_cut g2 hhit) (r2_bad g1 hD (.inr (.inl ⟨_, hb, (by assumption), (by assumption)⟩)))]; rfl⟩
      | exact ⟨[(false, 2)], .tup [.sl (some 0) 2 [], .v _], rfl, ⟨rfl, rfl, trivial⟩, by rw [pl_form (by omega) h3 (p2_cut g2 hhit) (r2_bad g1 hD (.inr (.inr (.inl (by assumption)))))]; rfl, by rw [pl_form (by omega) h3 (p2_cut g2 hhit) (r2_bad g1 hD (.inr (.inr (.inl (by assumption)))))]; rfl⟩
      | exact ⟨[(false, 2)], .tup [.sl (some 0) 2 [], .v _], rfl, ⟨rfl, rfl, trivial⟩, by rw [pl_form (by omega) h3 (p2_cut g2 hhit) (r2_bad g1 hD (.inr (.inr (.inr ⟨_, hb, (by assumption), c91⟩))))]; rfl, by rw [pl_form (by omega) h3 (p2_cut g2 hhit) (r2_bad g1 hD (.inr (.inr (.inr ⟨_, hb, (by assumption), c91⟩))))]; rfl⟩
      | exact ⟨[(false, 2)], .tup [.sl (some 0) 2 [], .v _], rfl, ⟨rfl, rfl, trivial⟩, by rw [pl_form (by omega) h3 (p2_cut g2 hhit) (ite_no hg c102)]; rfl, by rw [pl_form (by omega) h3 (p2_cut g2 hhit) (ite_no hg c102)]; rfl⟩
      | exact ⟨[(false, 2)], .tup [.sl (some 0) 2 [], .v _], rfl, ⟨rfl, rfl, trivial⟩, by rw [pl_many (by omega) h3 (p2_cut g2 hhit) (ite_yes hg c102) (by omega)]; rfl, by rw [pl_many (by omega) h3 (p2_cut g2 hhit) (ite_yes hg c102) (by omega)]; rfl⟩
      | exact ⟨[(true, 0)], .tup [.sl (some 0) 2 _, .v _], rfl, ⟨⟨rfl, rfl, rfl⟩, rfl, trivial⟩, by rw [pl_end (by omega) h3 (by simp; omega)], by rw [pl_end (by omega) h3 (by simp; omega)]; rfl⟩
      | skip)
  · first | exact Bool.noConfusion c12 | (
      try simp only [dD] at c12
      refine AWP.skip ?_
      refine hK2 _ ?_; clear hK2 K2
      refine AWP.seqk fun K5 hK5 => ?_
      refine AWP.region ?_
      simp only [go_sem] -- region 3
      repeat' (first | (refine AGet.haveM (by assumption) ?_; (try simp only [go_sem])) | (refine AGet.have' (by assumption) ?_; (try simp only [go_sem])) | ((first | refine AGet.nth ?_ (fun b hb => ?_) | refine AGet.nth1 ?_ (fun b hb => ?_) | with_reducible refine And.intro ?_ ?_); (focus ((first | omega | exact List.length_pos_iff.2 (by assumption) | (simp only [List.length_append, List.length_cons, List.length_nil, List.length_map, List.length_take, List.length_drop] at *; omega) | (rw [wrap64_id (by omega) (by omega)]; omega) | (simp; done)))); (try simp only [hb, go_sem])))
      refine hK5 _ ?_; clear hK5 K5
      refine AWP.seqk fun K6 hK6 => ?_
      refine AWP.region ?_
      simp only [go_sem] -- region 4
      repeat' (first | (refine AGet.haveM (by assumption) ?_; (try simp only [go_sem])) | (refine AGet.have' (by assumption) ?_; (try simp only [go_sem])) | ((first | refine AGet.nth ?_ (fun b hb => ?_) | refine AGet.nth1 ?_ (fun b hb => ?_) | with_reducible refine And.intro ?_ ?_); (focus ((first | omega | exact List.length_pos_iff.2 (by assumption) | (simp only [List.length_append, List.length_cons, List.length_nil, List.length_map, List.length_take, List.length_drop] at *; omega) | (rw [wrap64_id (by omega) (by omega)]; omega) | (simp; done)))); (try simp only [hb, go_sem])))
      refine hK6 _ ?_; clear hK6 K6
      refine AWP.seqk fun K7 hK7 => ?_
      refine AWP.block ?_ -- 0
      refine AWP.nilTok 4 2 rfl ?_
      simp only [go_sem]
      refine AWP.loopO (ι := List Fld.Fd × Nat) [2, 3, 6, 7, 8, 9, 13, 14, 15, 16, 17, 18, 19, 20, 21, 22, 23, 24, 25, 26, 27, 28, 29, 30, 31, 32, 33, 34, 35, 36, 37, 38, 39, 40, 41, 42, 43, 44, 45, 46, 47, 48, 49, 50, 51, 52, 53, 54, 55, 56, 57, 58, 59, 60, 61, 62, 63, 64, 65, 66, 67, 68, 69, 70, 71, 72, 73, 74, 75, 76, 77, 78, 79, 80, 81, 82, 83, 84, 85, 86, 87, 88, 89, 90, 91, 92, 93, 94, 95, 96, 97, 98, 99, 100, 101, 102, 103, 104, 105, 106, 107, 108, 109, 110, 111] (fun ⟨out, p⟩ => [(4, .sl (some 0) 2 (out.map fldV)), (5, i64 p)]) (fun ⟨out, p⟩ => []) (fun ⟨out, p⟩ => [out.length]) (fun ⟨out, p⟩ => p ≤ bs.length ∧ out.length ≤ 100 ∧ parseGo [] bs = parseGo out (bs.drop p)) (fun ⟨out, p⟩ => bs.length - p) (([], 0)) ?_ ?_ ?_
      · (try simp only [go_sem]); try (simp; done)
      · exact ⟨by simp, by simp, rfl⟩
      rintro ⟨out, p⟩ ⟨h1, h2, h3⟩
      simp only [go_sem]
      refine AWP.seqk fun K8 hK8 => ?_
      refine AWP.seqk fun K9 hK9 => ?_
      refine AWP.region ?_
      simp only [go_sem] -- region 5
      repeat' (first | (refine AGet.haveM (by assumption) ?_; (try simp only [go_sem])) | (refine AGet.have' (by assumption) ?_; (try simp only [go_sem])) | ((first | refine AGet.nth ?_ (fun b hb => ?_) | refine AGet.nth1 ?_ (fun b hb => ?_) | with_reducible refine And.intro ?_ ?_); (focus ((first | omega | exact List.length_pos_iff.2 (by assumption) | (simp only [List.length_append, List.length_cons, List.length_nil, List.length_map, List.length_take, List.length_drop] at *; omega) | (rw [wrap64_id (by omega) (by omega)]; omega) | (simp; done)))); (try simp only [hb, go_sem])))
      refine hK9 _ ?_; clear hK9 K9
      refine AWP.cond rfl (fun c16 => ?_) (fun c16 => ?_)
      · first | exact Bool.noConfusion c16 | (
          try simp only [dD] at c16
          refine AWP.skip ?_
          refine hK8 _ ?_; clear hK8 K8
          refine AWP.block ?_ -- 1
          refine AWP.seqk fun K10 hK10 => ?_
          refine AWP.region ?_
          simp only [go_sem] -- region 6
          repeat' (first | (refine AGet.haveM (by assumption) ?_; (try simp only [go_sem])) | (refine AGet.have' (by assumption) ?_; (try simp only [go_sem])) | ((first | refine AGet.nth ?_ (fun b hb => ?_) | refine AGet.nth1 ?_ (fun b hb => ?_) | with_reducible refine And.intro ?_ ?_); (focus ((first | omega | exact List.length_pos_iff.2 (by assumption) | (simp only [List.length_append, List.length_cons, List.length_nil, List.length_map, List.length_take, List.length_drop] at *; omega) | (rw [wrap64_id (by omega) (by omega)]; omega) | (simp; done)))); (try simp only [hb, go_sem])))
          refine hK10 _ ?_; clear hK10 K10
          refine AWP.seqJ (ι := Nat) [18, 19, 20, 21, 22, 23, 24, 25, 26, 27, 28, 29, 30] (fun (j : Nat) => [(6, i64 ((p + j : Nat) : Int))]) (fun (j : Nat) => []) (fun (j : Nat) => [out.length]) (fun (j : Nat) => p + j ≤ bs.length ∧ (1 : UInt8) ∉ (bs.drop p).take j ∧ (p + j = bs.length ∨ bs[p + j]? = some 1)) ?_ ?_
          · refine AWP.block ?_ -- 2
            refine AWP.loopH (ι := Nat) [18, 19, 20, 21, 22, 23, 24, 25, 26, 27, 28, 29, 30] (fun (j : Nat) => [(6, i64 ((p + j : Nat) : Int))]) (fun (j : Nat) => p + j ≤ bs.length ∧ (1 : UInt8) ∉ (bs.drop p).take j) (fun (j : Nat) => bs.length - (p + j)) (0) ?_ ?_ ?_
            · (try simp only [go_sem]); try (simp; done)
            · exact ⟨by omega, by simp⟩
            rintro j ⟨g1, g2⟩
            simp only [go_sem]
            refine AWP.seqk fun K11 hK11 => ?_
            refine AWP.seqk fun K12 hK12 => ?_
            refine AWP.region ?_
            simp only [go_sem] -- region 7
            repeat' (first | (refine AGuard.splitN (fun h => ?_) (fun h => ?_) <;> simp only [h, go_sem] <;> try simp only [dD] at h) | (refine AGuard.split (fun h => ?_) (fun h => ?_) <;> simp only [h, go_sem] <;> try simp only [dD] at h) | (refine AGet.haveM (by assumption) ?_; (try simp only [go_sem])) | (refine AGet.have' (by assumption) ?_; (try simp only [go_sem])) | ((first | refine AGet.nth ?_ (fun b hb => ?_) | refine AGet.nth1 ?_ (fun b hb => ?_) | with_reducible refine And.intro ?_ ?_); (focus ((first | omega | exact List.length_pos_iff.2 (by assumption) | (simp only [List.length_append, List.length_cons, List.length_nil, List.length_map, List.length_take, List.length_drop] at *; omega) | (rw [wrap64_id (by omega) (by omega)]; omega) | (simp; done)))); (try simp only [hb, go_sem])))
            all_goals (
              refine hK12 _ ?_; clear hK12 K12
              refine AWP.cond rfl (fun c28 => ?_) (fun c28 => ?_)
              · first | exact Bool.noConfusion c28 | (
                  try simp only [dD] at c28
                  refine AWP.skip ?_
                  refine hK11 _ ?_; clear hK11 K11
                  refine AWP.block ?_ -- 3
                  refine AWP.region ?_
                  simp only [go_sem] -- region 8
                  repeat' (first | (refine AGet.haveM (by assumption) ?_; (try simp only [go_sem])) | (refine AGet.have' (by assumption) ?_; (try simp only [go_sem])) | ((first | refine AGet.nth ?_ (fun b hb => ?_) | refine AGet.nth1 ?_ (fun b hb => ?_) | with_reducible refine And.intro ?_ ?_); (focus ((first | omega | exact List.length_pos_iff.2 (by assumption) | (simp only [List.length_append, List.length_cons, List.length_nil, List.length_map, List.length_take, List.length_drop] at *; omega) | (rw [wrap64_id (by omega) (by omega)]; omega) | (simp; done)))); (try simp only [hb, go_sem])))
                  clear hK7 K7
                  refine ⟨j + 1, ?_, ?_, ?_⟩
                  · (try simp only [go_sem]); rw [wrap64_id (by omega) (by omega)]; simp; try omega
                  · exact ⟨by omega, p2_next g2 hb c28⟩
                  · omega)
              · first | exact Bool.noConfusion c28 | (
                  try simp only [dD] at c28
                  refine AWP.exit ?_
                  simp only [go_sem]
                  clear hK11 K11
                  refine ⟨j, ?_, ?_⟩
                  · first | exact ⟨g1, g2, .inl (by omega)⟩ | exact ⟨g1, g2, .inr (by rw [hb]; exact congrArg some (u8_eq (by assumption) rfl))⟩
                  · (try simp only [go_sem]); (try simp); done))
          rintro j ⟨g1, g2, g3⟩
          simp only [go_sem]
          refine AWP.seqk fun K13 hK13 => ?_
          refine AWP.seqk fun K14 hK14 => ?_
          refine AWP.region ?_
          simp only [go_sem] -- region 9
          repeat' (first | (refine AGet.haveM (by assumption) ?_; (try simp only [go_sem])) | (refine AGet.have' (by assumption) ?_; (try simp only [go_sem])) | ((first | refine AGet.nth ?_ (fun b hb => ?_) | refine AGet.nth1 ?_ (fun b hb => ?_) | with_reducible refine And.intro ?_ ?_); (focus ((first | omega | exact List.length_pos_iff.2 (by assumption) | (simp only [List.length_append, List.length_cons, List.length_nil, List.length_map, List.length_take, List.length_drop] at *; omega) | (rw [wrap64_id (by omega) (by omega)]; omega) | (simp; done)))); (try simp only [hb, go_sem])))
          refine hK14 _ ?_; clear hK14 K14
          refine AWP.cond rfl (fun c34 => ?_) (fun c34 => ?_)
          · first | exact Bool.noConfusion c34 | (
              try simp only [dD] at c34
              refine AWP.seqk fun K15 hK15 => ?_
              refine AWP.region ?_
              simp only [go_sem] -- region 10
              repeat' (first | (refine AGet.haveM (by assumption) ?_; (try simp only [go_sem])) | (refine AGet.have' (by assumption) ?_; (try simp only [go_sem])) | ((first | refine AGet.nth ?_ (fun b hb => ?_) | refine AGet.nth1 ?_ (fun b hb => ?_) | with_reducible refine And.intro ?_ ?_); (focus ((first | omega | exact List.length_pos_iff.2 (by assumption) | (simp only [List.length_append, List.length_cons, List.length_nil, List.length_map, List.length_take, List.length_drop] at *; omega) | (rw [wrap64_id (by omega) (by omega)]; omega) | (simp; done)))); (try simp only [hb, go_sem])))
              refine hK15 _ ?_; clear hK15 K15
              refine AWP.ret ?_
              try simp only [go_sem]
              clear hK13 K13 hK7 K7
              first
              | exact ⟨[(false, 2)], .tup [.sl (some 0) 2 [], .v _], rfl, ⟨rfl, rfl, trivial⟩, by rw [pl_long (by omega)]; rfl, by rw [pl_long (by omega)]; rfl⟩
              | exact ⟨[(false, 2)], .tup [.sl (some 0) 2 [], .v _], rfl, ⟨rfl, rfl, trivial⟩, by rw [pl_short (by omega) h3 (by simp; omega) (p2_none g2 (by omega))]; rfl, by rw [pl_short (by omega) h3 (by simp; omega) (p2_none g2 (by omega))]; rfl⟩
              | exact ⟨[(false, 2)], .tup [.sl (some 0) 2 [], .v _], rfl, ⟨rfl, rfl, trivial⟩, by rw [pl_form (by omega) h3 (p2_cut g2 hhit) (r2_bad g1 hD (.inl (by assumption)))]; rfl, by rw [pl_form (by omega) h3 (p2_cut g2 hhit) (r2_bad g1 hD (.inl (by assumption)))]; rfl⟩
              | exact ⟨[(false, 2)], .tup [.sl (some 0) 2 [], .v _], rfl, ⟨rfl, rfl, trivial⟩, by rw [pl_form (by omega) h3 (p2_cut g2 hhit) (r2_bad g1 hD (.inr (.inl ⟨_, hb, (by assumption), (by assumption)⟩)))]; rfl, by rw [pl_form (by omega) h3 (p2_cut g2 hhit) (r2_bad g1 hD (.inr (.inl ⟨_, hb, (by assumption), (by assumption)⟩)))]; rfl⟩
              | exact ⟨[(false, 2)], .tup [.sl (some 0) 2 [], .v _], rfl, ⟨rfl, rfl, trivial⟩, by rw [pl_form (by omega) h3 (p2_cut g2 hhit) (r2_bad g1 hD (.inr (.inr (.inl (by assumption)))))]; rfl, by rw [pl_form (by omega) h3 (p2_cut g2 hhit) (r2_bad g1 hD (.inr (.inr (.inl (by assumption)))))]; rfl⟩
              | exact ⟨[(false, 2)], .tup [.sl (some 0) 2 [], .v _], rfl, ⟨rfl, rfl, trivial⟩, by rw [pl_form (by omega) h3 (p2_cut g2 hhit) (r2_bad g1 hD (.inr (.inr (.inr ⟨_, hb, (by assumption), c91⟩))))]; rfl, by rw [pl_form (by omega) h3 (p2_cut g2 hhit) (r2_bad g1 hD (.inr (.inr (.inr ⟨_, hb, (by assumption), c91⟩))))]; rfl⟩
              | exact ⟨[(false, 2)], .tup [.sl (some 0) 2 [], .v _], rfl, ⟨rfl, rfl, trivial⟩, by rw [pl_form (by omega) h3 (p2_cut g2 hhit) (ite_no hg c102)]; rfl, by rw [pl_form (by omega) h3 (p2_cut g2 hhit) (ite_no hg c102)]; rfl⟩
              | exact ⟨[(false, 2)], .tup [.sl (some 0) 2 [], .v _], rfl, ⟨rfl, rfl, trivial⟩, by rw [pl_many (by omega) h3 (p2_cut g2 hhit) (ite_yes hg c102) (by omega)]; rfl, by rw [pl_many (by omega) h3 (p2_cut g2 hhit) (ite_yes hg c102) (by omega)]; rfl⟩
              | exact ⟨[(true, 0)], .tup [.sl (some 0) 2 _, .v _], rfl, ⟨⟨rfl, rfl, rfl⟩, rfl, trivial⟩, by rw [pl_end (by omega) h3 (by simp; omega)], by rw [pl_end (by omega) h3 (by simp; omega)]; rfl⟩
              | skip)
          · first | exact Bool.noConfusion c34 | (
              try simp only [dD] at c34
              refine AWP.skip ?_
              refine hK13 _ ?_; clear hK13 K13
              refine AWP.seqk fun K16 hK16 => ?_
              refine AWP.region ?_
              simp only [go_sem] -- region 11
              repeat' (first | (refine AGet.haveM (by assumption) ?_; (try simp only [go_sem])) | (refine AGet.have' (by assumption) ?_; (try simp only [go_sem])) | ((first | refine AGet.nth ?_ (fun b hb => ?_) | refine AGet.nth1 ?_ (fun b hb => ?_) | with_reducible refine And.intro ?_ ?_); (focus ((first | omega | exact List.length_pos_iff.2 (by assumption) | (simp only [List.length_append, List.length_cons, List.length_nil, List.length_map, List.length_take, List.length_drop] at *; omega) | (rw [wrap64_id (by omega) (by omega)]; omega) | (simp; done)))); (try simp only [hb, go_sem])))
              refine hK16 _ ?_; clear hK16 K16
              refine AWP.seqk fun K17 hK17 => ?_
              refine AWP.region ?_
              simp only [go_sem] -- region 12
              repeat' (first | (refine AGet.haveM (by assumption) ?_; (try simp only [go_sem])) | (refine AGet.have' (by assumption) ?_; (try simp only [go_sem])) | ((first | refine AGet.nth ?_ (fun b hb => ?_) | refine AGet.nth1 ?_ (fun b hb => ?_) | with_reducible refine And.intro ?_ ?_); (focus ((first | omega | exact List.length_pos_iff.2 (by assumption) | (simp only [List.length_append, List.length_cons, List.length_nil, List.length_map, List.length_take, List.length_drop] at *; omega) | (rw [wrap64_id (by omega) (by omega)]; omega) | (simp; done)))); (try simp only [hb, go_sem])))
              refine hK17 _ ?_; clear hK17 K17
              refine AWP.seqJ (ι := Nat) [36, 37, 38, 39, 40, 41, 42, 43, 44, 45, 46, 47, 48, 49, 50, 51, 52, 53, 54, 55, 56, 57, 58, 59, 60, 61, 62, 63, 64, 65, 66, 67, 68, 69] (fun (k : Nat) => [(7, i64 ((decVal 0 (((bs.drop p).take j).take k) : Nat) : Int)), (8, i64 ((p + k : Nat) : Int))]) (fun (k : Nat) => []) (fun (k : Nat) => [out.length]) (fun (k : Nat) => Digs ((bs.drop p).take j) k) ?_ ?_
              · refine AWP.block ?_ -- 4
                refine AWP.loopH (ι := Nat) [36, 37, 38, 39, 40, 41, 42, 43, 44, 45, 46, 47, 48, 49, 50, 51, 52, 53, 54, 55, 56, 57, 58, 59, 60, 61, 62, 63, 64, 65, 66, 67, 68, 69] (fun (k : Nat) => [(7, i64 ((decVal 0 (((bs.drop p).take j).take k) : Nat) : Int)), (8, i64 ((p + k : Nat) : Int))]) (fun (k : Nat) => k ≤ 4 ∧ k ≤ j ∧ (((bs.drop p).take j).take k).all isDig = true) (fun (k : Nat) => 4 - k) (0) ?_ ?_ ?_
                · (try simp only [go_sem]); simp [decVal_nil]
                · exact ⟨by omega, by omega, by simp⟩
                rintro k ⟨k1, k2, k3⟩
                simp only [go_sem]
                refine AWP.seqk fun K18 hK18 => ?_
                refine AWP.seqk fun K19 hK19 => ?_
                refine AWP.region ?_
                simp only [go_sem] -- region 13
                repeat' (first | (refine AGuard.splitN (fun h => ?_) (fun h => ?_) <;> simp only [h, go_sem] <;> try simp only [dD] at h) | (refine AGuard.split (fun h => ?_) (fun h => ?_) <;> simp only [h, go_sem] <;> try simp only [dD] at h) | (refine AGet.haveM (by assumption) ?_; (try simp only [go_sem])) | (refine AGet.have' (by assumption) ?_; (try simp only [go_sem])) | ((first | refine AGet.nth ?_ (fun b hb => ?_) | refine AGet.nth1 ?_ (fun b hb => ?_) | with_reducible refine And.intro ?_ ?_); (focus ((first | omega | exact List.length_pos_iff.2 (by assumption) | (simp only [List.length_append, List.length_cons, List.length_nil, List.length_map, List.length_take, List.length_drop] at *; omega) | (rw [wrap64_id (by omega) (by omega)]; omega) | (simp; done)))); (try simp only [hb, go_sem])))
                all_goals (
                  refine hK19 _ ?_; clear hK19 K19
                  refine AWP.cond rfl (fun c58 => ?_) (fun c58 => ?_)
                  · first | exact Bool.noConfusion c58 | (
                      try simp only [dD] at c58
                      refine AWP.skip ?_
                      refine hK18 _ ?_; clear hK18 K18
                      refine AWP.block ?_ -- 5
                      refine AWP.seqk fun K20 hK20 => ?_
                      refine AWP.region ?_
                      simp only [go_sem] -- region 14
                      repeat' (first | (refine AGet.haveM (by assumption) ?_; (try simp only [go_sem])) | (refine AGet.have' (by assumption) ?_; (try simp only [go_sem])) | ((first | refine AGet.nth ?_ (fun b hb => ?_) | refine AGet.nth1 ?_ (fun b hb => ?_) | with_reducible refine And.intro ?_ ?_); (focus ((first | omega | exact List.length_pos_iff.2 (by assumption) | (simp only [List.length_append, List.length_cons, List.length_nil, List.length_map, List.length_take, List.length_drop] at *; omega) | (rw [wrap64_id (by omega) (by omega)]; omega) | (simp; done)))); (try simp only [hb, go_sem])))
                      refine hK20 _ ?_; clear hK20 K20
                      refine AWP.region ?_
                      simp only [go_sem] -- region 15
                      repeat' (first | (refine AGet.haveM (by assumption) ?_; (try simp only [go_sem])) | (refine AGet.have' (by assumption) ?_; (try simp only [go_sem])) | ((first | refine AGet.nth ?_ (fun b hb => ?_) | refine AGet.nth1 ?_ (fun b hb => ?_) | with_reducible refine And.intro ?_ ?_); (focus ((first | omega | exact List.length_pos_iff.2 (by assumption) | (simp only [List.length_append, List.length_cons, List.length_nil, List.length_map, List.length_take, List.length_drop] at *; omega) | (rw [wrap64_id (by omega) (by omega)]; omega) | (simp; done)))); (try simp only [hb, go_sem])))
                      clear hK7 K7
                      rw [wrap64_id (x := (p : Int) + 4) (by omega) (by omega)] at *
                      have hv := p2_val (by omega) (by omega) hb k3 (by assumption) (by assumption)
                      refine ⟨k + 1, ?_, ?_, ?_⟩
                      · rw [hv.1, wrap64_id (by omega) (by omega)]; simp; try omega
                      · exact ⟨by omega, by omega, hv.2⟩
                      · omega)
                  · first | exact Bool.noConfusion c58 | (
                      try simp only [dD] at c58
                      refine AWP.exit ?_
                      simp only [go_sem]
                      clear hK18 K18
                      (try rw [wrap64_id (x := (p : Int) + 4) (by omega) (by omega)] at *)
                      refine ⟨k, ?_, ?_⟩
                      · first | exact p2_stop1 g1 k2 k1 k3 (by omega) | exact p2_stop2 g1 k2 k3 (by omega) | exact p2_stop3 g1 (by omega) k1 k3 hb (.inl (by assumption)) | exact p2_stop3 g1 (by omega) k1 k3 hb (.inr (by assumption))
                      · (try simp only [go_sem]); (try simp); done))
              rintro k hD
              simp only [go_sem]
              refine AWP.seqk fun K21 hK21 => ?_
              refine AWP.seqk fun K22 hK22 => ?_
              have hkj := hD.le
              rw [tk_len g1] at hkj
              have hhit := p2_hit g3 c34
              refine AWP.region ?_
              simp only [go_sem] -- region 16
              repeat' (first | (refine AGuard.splitN (fun h => ?_) (fun h => ?_) <;> simp only [h, go_sem] <;> try simp only [dD] at h) | (refine AGuard.split (fun h => ?_) (fun h => ?_) <;> simp only [h, go_sem] <;> try simp only [dD] at h) | (refine AGet.haveM (by assumption) ?_; (try simp only [go_sem])) | (refine AGet.have' (by assumption) ?_; (try simp only [go_sem])) | ((first | refine AGet.nth ?_ (fun b hb => ?_) | refine AGet.nth1 ?_ (fun b hb => ?_) | with_reducible refine And.intro ?_ ?_); (focus ((first | omega | exact List.length_pos_iff.2 (by assumption) | (simp only [List.length_append, List.length_cons, List.length_nil, List.length_map, List.length_take, List.length_drop] at *; omega) | (rw [wrap64_id (by omega) (by omega)]; omega) | (simp; done)))); (try simp only [hb, go_sem])))
              all_goals (
                refine hK22 _ ?_; clear hK22 K22
                refine AWP.cond rfl (fun c91 => ?_) (fun c91 => ?_)
                · first | exact Bool.noConfusion c91 | (
                    try simp only [dD] at c91
                    refine AWP.seqk fun K23 hK23 => ?_
                    refine AWP.region ?_
                    simp only [go_sem] -- region 17
                    repeat' (first | (refine AGet.haveM (by assumption) ?_; (try simp only [go_sem])) | (refine AGet.have' (by assumption) ?_; (try simp only [go_sem])) | ((first | refine AGet.nth ?_ (fun b hb => ?_) | refine AGet.nth1 ?_ (fun b hb => ?_) | with_reducible refine And.intro ?_ ?_); (focus ((first | omega | exact List.length_pos_iff.2 (by assumption) | (simp only [List.length_append, List.length_cons, List.length_nil, List.length_map, List.length_take, List.length_drop] at *; omega) | (rw [wrap64_id (by omega) (by omega)]; omega) | (simp; done)))); (try simp only [hb, go_sem])))
                    refine hK23 _ ?_; clear hK23 K23
                    refine AWP.ret ?_
                    try simp only [go_sem]
                    clear hK21 K21 hK7 K7
                    first
                    | exact ⟨[(false, 2)], .tup [.sl (some 0) 2 [], .v _], rfl, ⟨rfl, rfl, trivial⟩, by rw [pl_long (by omega)]; rfl, by rw [pl_long (by omega)]; rfl⟩
                    | exact ⟨[(false, 2)], .tup [.sl (some 0) 2 [], .v _], rfl, ⟨rfl, rfl, trivial⟩, by rw [pl_short (by omega) h3 (by simp; omega) (p2_none g2 (by omega))]; rfl, by rw [pl_short (by omega) h3 (by simp; omega) (p2_none g2 (by omega))]; rfl⟩
                    | exact ⟨[(false, 2)], .tup [.sl (some 0) 2 [], .v _], rfl, ⟨rfl, rfl, trivial⟩, by rw [pl_form (by omega) h3 (p2_cut g2 hhit) (r2_bad g1 hD (.inl (by assumption)))]; rfl, by rw [pl_form (by omega) h3 (p2_cut g2 hhit) (r2_bad g1 hD (.inl (by assumption)))]; rfl⟩
                    | exact ⟨[(false, 2)], .tup [.sl (some 0) 2 [], .v _], rfl, ⟨rfl, rfl, trivial⟩, by rw [pl_form (by omega) h3 (p2_cut g2 hhit) (r2_bad g1 hD (.inr (.inl ⟨_, hb, (by assumption), (by assumption)⟩)))]; rfl, by rw [pl_form (by omega) h3 (p2_cut g2 hhit) (r2_bad g1 hD (.inr (.inl ⟨_, hb, (by assumption), (by assumption)⟩)))]; rfl⟩
                    | exact ⟨[(false, 2)], .tup [.sl (some 0) 2 [], .v _], rfl, ⟨rfl, rfl, trivial⟩, by rw [pl_form (by omega) h3 (p2_cut g2 hhit) (r2_bad g1 hD (.inr (.inr (.inl (by assumption)))))]; rfl, by rw [pl_form (by omega) h3 (p2_cut g2 hhit) (r2_bad g1 hD (.inr (.inr (.inl (by assumption)))))]; rfl⟩
                    | exact ⟨[(false, 2)], .tup [.sl (some 0) 2 [], .v _], rfl, ⟨rfl, rfl, trivial⟩, by rw [pl_form (by omega) h3 (p2_cut g2 hhit) (r2_bad g1 hD (.inr (.inr (.inr ⟨_, hb, (by assumption), c91⟩))))]; rfl, by rw [pl_form (by omega) h3 (p2_cut g2 hhit) (r2_bad g1 hD (.inr (.inr (.inr ⟨_, hb, (by assumption), c91⟩))))]; rfl⟩
                    | exact ⟨[(false, 2)], .tup [.sl (some 0) 2 [], .v _], rfl, ⟨rfl, rfl, trivial⟩, by rw [pl_form (by omega) h3 (p2_cut g2 hhit) (ite_no hg c102)]; rfl, by rw [pl_form (by omega) h3 (p2_cut g2 hhit) (ite_no hg c102)]; rfl⟩
                    | exact ⟨[(false, 2)], .tup [.sl (some 0) 2 [], .v _], rfl, ⟨rfl, rfl, trivial⟩, by rw [pl_many (by omega) h3 (p2_cut g2 hhit) (ite_yes hg c102) (by omega)]; rfl, by rw [pl_many (by omega) h3 (p2_cut g2 hhit) (ite_yes hg c102) (by omega)]; rfl⟩
                    | exact ⟨[(true, 0)], .tup [.sl (some 0) 2 _, .v _], rfl, ⟨⟨rfl, rfl, rfl⟩, rfl, trivial⟩, by rw [pl_end (by omega) h3 (by simp; omega)], by rw [pl_end (by omega) h3 (by simp; omega)]; rfl⟩
                    | skip)
                · first | exact Bool.noConfusion c91 | (
                    try simp only [dD] at c91
                    refine AWP.skip ?_
                    refine hK21 _ ?_; clear hK21 K21
                    refine AWP.seqk fun K24 hK24 => ?_
                    have hg := r2_good g1 hD (by assumption) (by assumption) (by assumption) (by assumption) (by assumption) c91
                    refine AWP.region ?_
                    simp only [go_sem] -- region 18
                    repeat' (first | (refine AGet.haveM (by assumption) ?_; (try simp only [go_sem])) | (refine AGet.have' (by assumption) ?_; (try simp only [go_sem])) | ((first | refine AGet.nth ?_ (fun b hb => ?_) | refine AGet.nth1 ?_ (fun b hb => ?_) | with_reducible refine And.intro ?_ ?_); (focus ((first | omega | exact List.length_pos_iff.2 (by assumption) | (simp only [List.length_append, List.length_cons, List.length_nil, List.length_map, List.length_take, List.length_drop] at *; omega) | (rw [wrap64_id (by omega) (by omega)]; omega) | (simp; done)))); (try simp only [hb, go_sem])))
                    rw [wrap64_id (x := ((p + k : Nat) : Int) + 1) (by omega) (by omega), show (((p + k : Nat) : Int) + 1).toNat = p + k + 1 from by omega, p2_val_piece]
                    refine hK24 _ ?_; clear hK24 K24
                    refine AWP.seqk fun K25 hK25 => ?_
                    refine AWP.seqk fun K26 hK26 => ?_
                    refine AWP.region ?_
                    simp only [go_sem] -- region 19
                    repeat' (first | (refine ACall.one (r2right_c (_, _) (by first | exact hl _ (List.mem_of_getElem? hb) | (simp only [List.length_drop, List.length_take]; omega))) (by kernel_rfl) rfl ?_; simp only [go_sem]) | (refine AGet.haveM (by assumption) ?_; (try simp only [go_sem])) | (refine AGet.have' (by assumption) ?_; (try simp only [go_sem])) | ((first | refine AGet.nth ?_ (fun b hb => ?_) | refine AGet.nth1 ?_ (fun b hb => ?_) | with_reducible refine And.intro ?_ ?_); (focus ((first | omega | exact List.length_pos_iff.2 (by assumption) | (simp only [List.length_append, List.length_cons, List.length_nil, List.length_map, List.length_take, List.length_drop] at *; omega) | (rw [wrap64_id (by omega) (by omega)]; omega) | (simp; done)))); (try simp only [hb, go_sem])))
                    refine hK26 _ ?_; clear hK26 K26
                    refine AWP.cond rfl (fun c102 => ?_) (fun c102 => ?_)
                    · first | exact Bool.noConfusion c102 | (
                        try simp only [dD] at c102
                        refine AWP.seqk fun K27 hK27 => ?_
                        refine AWP.region ?_
                        simp only [go_sem] -- region 20
                        repeat' (first | (refine AGet.haveM (by assumption) ?_; (try simp only [go_sem])) | (refine AGet.have' (by assumption) ?_; (try simp only [go_sem])) | ((first | refine AGet.nth ?_ (fun b hb => ?_) | refine AGet.nth1 ?_ (fun b hb => ?_) | with_reducible refine And.intro ?_ ?_); (focus ((first | omega | exact List.length_pos_iff.2 (by assumption) | (simp only [List.length_append, List.length_cons, List.length_nil, List.length_map, List.length_take, List.length_drop] at *; omega) | (rw [wrap64_id (by omega) (by omega)]; omega) | (simp; done)))); (try simp only [hb, go_sem])))
                        refine hK27 _ ?_; clear hK27 K27
                        refine AWP.ret ?_
                        try simp only [go_sem]
                        clear hK25 K25 hK7 K7
                        first
                        | exact ⟨[(false, 2)], .tup [.sl (some 0) 2 [], .v _], rfl, ⟨rfl, rfl, trivial⟩, by rw [pl_long (by omega)]; rfl, by rw [pl_long (by omega)]; rfl⟩
                        | exact ⟨[(false, 2)], .tup [.sl (some 0) 2 [], .v _], rfl, ⟨rfl, rfl, trivial⟩, by rw [pl_short (by omega) h3 (by simp; omega) (p2_none g2 (by omega))]; rfl, by rw [pl_short (by omega) h3 (by simp; omega) (p2_none g2 (by omega))]; rfl⟩
                        | exact ⟨[(false, 2)], .tup [.sl (some 0) 2 [], .v _], rfl, ⟨rfl, rfl, trivial⟩, by rw [pl_form (by omega) h3 (p2_cut g2 hhit) (r2_bad g1 hD (.inl (by assumption)))]; rfl, by rw [pl_form (by omega) h3 (p2_cut g2 hhit) (r2_bad g1 hD (.inl (by assumption)))]; rfl⟩
                        | exact ⟨[(false, 2)], .tup [.sl (some 0) 2 [], .v _], rfl, ⟨rfl, rfl, trivial⟩, by rw [pl_form (by omega) h3 (p2_cut g2 hhit) (r2_bad g1 hD (.inr (.inl ⟨_, hb, (by assumption), (by assumption)⟩)))]; rfl, by rw [pl_form (by omega) h3 (p2_cut g2 hhit) (r2_bad g1 hD (.inr (.inl ⟨_, hb, (by assumption), (by assumption)⟩)))]; rfl⟩
                        | exact ⟨[(false, 2)], .tup [.sl (some 0) 2 [], .v _], rfl, ⟨rfl, rfl, trivial⟩, by rw [pl_form (by omega) h3 (p2_cut g2 hhit) (r2_bad g1 hD (.inr (.inr (.inl (by assumption)))))]; rfl, by rw [pl_form (by omega) h3 (p2_cut g2 hhit) (r2_bad g1 hD (.inr (.inr (.inl (by assumption)))))]; rfl⟩
                        | exact ⟨[(false, 2)], .tup [.sl (some 0) 2 [], .v _], rfl, ⟨rfl, rfl, trivial⟩, by rw [pl_form (by omega) h3 (p2_cut g2 hhit) (r2_bad g1 hD (.inr (.inr (.inr ⟨_, hb, (by assumption), c91⟩))))]; rfl, by rw [pl_form (by omega) h3 (p2_cut g2 hhit) (r2_bad g1 hD (.inr (.inr (.inr ⟨_, hb, (by assumption), c91⟩))))]; rfl⟩
                        | exact ⟨[(false, 2)], .tup [.sl (some 0) 2 [], .v _], rfl, ⟨rfl, rfl, trivial⟩, by rw [pl_form (by omega) h3 (p2_cut g2 hhit) (ite_no hg c102)]; rfl, by rw [pl_form (by omega) h3 (p2_cut g2 hhit) (ite_no hg c102)]; rfl⟩
                        | exact ⟨[(false, 2)], .tup [.sl (some 0) 2 [], .v _], rfl, ⟨rfl, rfl, trivial⟩, by rw [pl_many (by omega) h3 (p2_cut g2 hhit) (ite_yes hg c102) (by omega)]; rfl, by rw [pl_many (by omega) h3 (p2_cut g2 hhit) (ite_yes hg c102) (by omega)]; rfl⟩
                        | exact ⟨[(true, 0)], .tup [.sl (some 0) 2 _, .v _], rfl, ⟨⟨rfl, rfl, rfl⟩, rfl, trivial⟩, by rw [pl_end (by omega) h3 (by simp; omega)], by rw [pl_end (by omega) h3 (by simp; omega)]; rfl⟩
                        | skip)
                    · first | exact Bool.noConfusion c102 | (
                        try simp only [dD] at c102
                        refine AWP.skip ?_
                        refine hK25 _ ?_; clear hK25 K25
                        refine AWP.seqk fun K28 hK28 => ?_
                        refine AWP.seqk fun K29 hK29 => ?_
                        refine AWP.region ?_
                        simp only [go_sem] -- region 21
                        repeat' (first | (refine AGet.haveM (by assumption) ?_; (try simp only [go_sem])) | (refine AGet.have' (by assumption) ?_; (try simp only [go_sem])) | ((first | refine AGet.nth ?_ (fun b hb => ?_) | refine AGet.nth1 ?_ (fun b hb => ?_) | with_reducible refine And.intro ?_ ?_); (focus ((first | omega | exact List.length_pos_iff.2 (by assumption) | (simp only [List.length_append, List.length_cons, List.length_nil, List.length_map, List.length_take, List.length_drop] at *; omega) | (rw [wrap64_id (by omega) (by omega)]; omega) | (simp; done)))); (try simp only [hb, go_sem])))
                        refine hK29 _ ?_; clear hK29 K29
                        refine AWP.cond rfl (fun c105 => ?_) (fun c105 => ?_)
                        · first | exact Bool.noConfusion c105 | (
                            try simp only [dD] at c105
                            refine AWP.seqk fun K30 hK30 => ?_
                            refine AWP.region ?_
                            simp only [go_sem] -- region 22
                            repeat' (first | (refine AGet.haveM (by assumption) ?_; (try simp only [go_sem])) | (refine AGet.have' (by assumption) ?_; (try simp only [go_sem])) | ((first | refine AGet.nth ?_ (fun b hb => ?_) | refine AGet.nth1 ?_ (fun b hb => ?_) | with_reducible refine And.intro ?_ ?_); (focus ((first | omega | exact List.length_pos_iff.2 (by assumption) | (simp only [List.length_append, List.length_cons, List.length_nil, List.length_map, List.length_take, List.length_drop] at *; omega) | (rw [wrap64_id (by omega) (by omega)]; omega) | (simp; done)))); (try simp only [hb, go_sem])))
                            refine hK30 _ ?_; clear hK30 K30
                            refine AWP.ret ?_
                            try simp only [go_sem]
                            clear hK28 K28 hK7 K7
                            first
                            | exact ⟨[(false, 2)], .tup [.sl (some 0) 2 [], .v _], rfl, ⟨rfl, rfl, trivial⟩, by rw [pl_long (by omega)]; rfl, by rw [pl_long (by omega)]; rfl⟩
                            | exact ⟨[(false, 2)], .tup [.sl (some 0) 2 [], .v _], rfl, ⟨rfl, rfl, trivial⟩, by rw [pl_short (by omega) h3 (by simp; omega) (p2_none g2 (by omega))]; rfl, by rw [pl_short (by omega) h3 (by simp; omega) (p2_none g2 (by omega))]; rfl⟩
                            | exact ⟨[(false, 2)], .tup [.sl (some 0) 2 [], .v _], rfl, ⟨rfl, rfl, trivial⟩, by rw [pl_form (by omega) h3 (p2_cut g2 hhit) (r2_bad g1 hD (.inl (by assumption)))]; rfl, by rw [pl_form (by omega) h3 (p2_cut g2 hhit) (r2_bad g1 hD (.inl (by assumption)))]; rfl⟩
                            | exact ⟨[(false, 2)], .tup [.sl (some 0) 2 [], .v _], rfl, ⟨rfl, rfl, trivial⟩, by rw [pl_form (by omega) h3 (p2_cut g2 hhit) (r2_bad g1 hD (.inr (.inl ⟨_, hb, (by assumption), (by assumption)⟩)))]; rfl, by rw [pl_form (by omega) h3 (p2_cut g2 hhit) (r2_bad g1 hD (.inr (.inl ⟨_, hb, (by assumption), (by assumption)⟩)))]; rfl⟩
                            | exact ⟨[(false, 2)], .tup [.sl (some 0) 2 [], .v _], rfl, ⟨rfl, rfl, trivial⟩, by rw [pl_form (by omega) h3 (p2_cut g2 hhit) (r2_bad g1 hD (.inr (.inr (.inl (by assumption)))))]; rfl, by rw [pl_form (by omega) h3 (p2_cut g2 hhit) (r2_bad g1 hD (.inr (.inr (.inl (by assumption)))))]; rfl⟩
                            | exact ⟨[(false, 2)], .tup [.sl (some 0) 2 [], .v _], rfl, ⟨rfl, rfl, trivial⟩, by rw [pl_form (by omega) h3 (p2_cut g2 hhit) (r2_bad g1 hD (.inr (.inr (.inr ⟨_, hb, (by assumption), c91⟩))))]; rfl, by rw [pl_form (by omega) h3 (p2_cut g2 hhit) (r2_bad g1 hD (.inr (.inr (.inr ⟨_, hb, (by assumption), c91⟩))))]; rfl⟩
                            | exact ⟨[(false, 2)], .tup [.sl (some 0) 2 [], .v _], rfl, ⟨rfl, rfl, trivial⟩, by rw [pl_form (by omega) h3 (p2_cut g2 hhit) (ite_no hg c102)]; rfl, by rw [pl_form (by omega) h3 (p2_cut g2 hhit) (ite_no hg c102)]; rfl⟩
                            | exact ⟨[(false, 2)], .tup [.sl (some 0) 2 [], .v _], rfl, ⟨rfl, rfl, trivial⟩, by rw [pl_many (by omega) h3 (p2_cut g2 hhit) (ite_yes hg c102) (by omega)]; rfl, by rw [pl_many (by omega) h3 (p2_cut g2 hhit) (ite_yes hg c102) (by omega)]; rfl⟩
                            | exact ⟨[(true, 0)], .tup [.sl (some 0) 2 _, .v _], rfl, ⟨⟨rfl, rfl, rfl⟩, rfl, trivial⟩, by rw [pl_end (by omega) h3 (by simp; omega)], by rw [pl_end (by omega) h3 (by simp; omega)]; rfl⟩
                            | skip)
                        · first | exact Bool.noConfusion c105 | (
                            try simp only [dD] at c105
                            refine AWP.skip ?_
                            refine hK28 _ ?_; clear hK28 K28
                            refine AWP.seqk fun K31 hK31 => ?_
                            refine AWP.region ?_
                            simp only [go_sem] -- region 23
                            repeat' (first | (refine AGet.haveM (by assumption) ?_; (try simp only [go_sem])) | (refine AGet.have' (by assumption) ?_; (try simp only [go_sem])) | ((first | refine AGet.nth ?_ (fun b hb => ?_) | refine AGet.nth1 ?_ (fun b hb => ?_) | with_reducible refine And.intro ?_ ?_); (focus ((first | omega | exact List.length_pos_iff.2 (by assumption) | (simp only [List.length_append, List.length_cons, List.length_nil, List.length_map, List.length_take, List.length_drop] at *; omega) | (rw [wrap64_id (by omega) (by omega)]; omega) | (simp; done)))); (try simp only [hb, go_sem])))
                            refine hK31 _ ?_; clear hK31 K31
                            refine AWP.region ?_
                            simp only [go_sem] -- region 24
                            repeat' (first | (refine AGet.haveM (by assumption) ?_; (try simp only [go_sem])) | (refine AGet.have' (by assumption) ?_; (try simp only [go_sem])) | ((first | refine AGet.nth ?_ (fun b hb => ?_) | refine AGet.nth1 ?_ (fun b hb => ?_) | with_reducible refine And.intro ?_ ?_); (focus ((first | omega | exact List.length_pos_iff.2 (by assumption) | (simp only [List.length_append, List.length_cons, List.length_nil, List.length_map, List.length_take, List.length_drop] at *; omega) | (rw [wrap64_id (by omega) (by omega)]; omega) | (simp; done)))); (try simp only [hb, go_sem])))
                            clear hK7 K7
                            refine ⟨(out ++ [(((decVal 0 (((bs.drop p).take j).take k) : Nat) : Int), ((bs.drop p).take j).drop (k + 1))], p + j + 1), ?_, ?_, ?_⟩
                            · rw [wrap64_id (by omega) (by omega)]; simp; try omega
                            · exact ⟨(show p + j + 1 ≤ bs.length by have := get_lt hhit; omega), by simp; omega, pl_step h3 (p2_cut g2 hhit) (ite_yes hg c102) (by omega)⟩
                            · show bs.length - (p + j + 1) < bs.length - p; have := get_lt hhit; omega))))))
      · first | exact Bool.noConfusion c16 | (
          try simp only [dD] at c16
          refine AWP.exit ?_
          simp only [go_sem]
          clear hK8 K8
          refine hK7 _ ?_; clear hK7 K7
          refine AWP.seqk fun K32 hK32 => ?_
          refine AWP.region ?_
          simp only [go_sem] -- region 25
          repeat' (first | (refine AGet.haveM (by assumption) ?_; (try simp only [go_sem])) | (refine AGet.have' (by assumption) ?_; (try simp only [go_sem])) | ((first | refine AGet.nth ?_ (fun b hb => ?_) | refine AGet.nth1 ?_ (fun b hb => ?_) | with_reducible refine And.intro ?_ ?_); (focus ((first | omega | exact List.length_pos_iff.2 (by assumption) | (simp only [List.length_append, List.length_cons, List.length_nil, List.length_map, List.length_take, List.length_drop] at *; omega) | (rw [wrap64_id (by omega) (by omega)]; omega) | (simp; done)))); (try simp only [hb, go_sem])))
          refine hK32 _ ?_; clear hK32 K32
          refine AWP.ret ?_
          try simp only [go_sem]
          first
          | exact ⟨[(false, 2)], .tup [.sl (some 0) 2 [], .v _], rfl, ⟨rfl, rfl, trivial⟩, by rw [pl_long (by omega)]; rfl, by rw [pl_long (by omega)]; rfl⟩
          | exact ⟨[(false, 2)], .tup [.sl (some 0) 2 [], .v _], rfl, ⟨rfl, rfl, trivial⟩, by rw [pl_short (by omega) h3 (by simp; omega) (p2_none g2 (by omega))]; rfl, by rw [pl_short (by omega) h3 (by simp; omega) (p2_none g2 (by omega))]; rfl⟩
          | exact ⟨[(false, 2)], .tup [.sl (some 0) 2 [], .v _], rfl, ⟨rfl, rfl, trivial⟩, by rw [pl_form (by omega) h3 (p2_cut g2 hhit) (r2_bad g1 hD (.inl (by assumption)))]; rfl, by rw [pl_form (by omega) h3 (p2_cut g2 hhit) (r2_bad g1 hD (.inl (by assumption)))]; rfl⟩
          | exact ⟨[(false, 2)], .tup [.sl (some 0) 2 [], .v _], rfl, ⟨rfl, rfl, trivial⟩, by rw [pl_form (by omega) h3 (p2_cut g2 hhit) (r2_bad g1 hD (.inr (.inl ⟨_, hb, (by assumption), (by assumption)⟩)))]; rfl, by rw [pl_form (by omega) h3 (p2_cut g2 hhit) (r2_bad g1 hD (.inr (.inl ⟨_, hb, (by assumption), (by assumption)⟩)))]; rfl⟩
          | exact ⟨[(false, 2)], .tup [.sl (some 0) 2 [], .v _], rfl, ⟨rfl, rfl, trivial⟩, by rw [pl_form (by omega) h3 (p2_cut g2 hhit) (r2_bad g1 hD (.inr (.inr (.inl (by assumption)))))]; rfl, by rw [pl_form (by omega) h3 (p2_cut g2 hhit) (r2_bad g1 hD (.inr (.inr (.inl (by assumption)))))]; rfl⟩
          | exact ⟨[(false, 2)], .tup [.sl (some 0) 2 [], .v _], rfl, ⟨rfl, rfl, trivial⟩, by rw [pl_form (by omega) h3 (p2_cut g2 hhit) (r2_bad g1 hD (.inr (.inr (.inr ⟨_, hb, (by assumption), c91⟩))))]; rfl, by rw [pl_form (by omega) h3 (p2_cut g2 hhit) (r2_bad g1 hD (.inr (.inr (.inr ⟨_, hb, (by assumption), c91⟩))))]; rfl⟩
          | exact ⟨[(false, 2)], .tup [.sl (some 0) 2 [], .v _], rfl, ⟨rfl, rfl, trivial⟩, by rw [pl_form (by omega) h3 (p2_cut g2 hhit) (ite_no hg c102)]; rfl, by rw [pl_form (by omega) h3 (p2_cut g2 hhit) (ite_no hg c102)]; rfl⟩
          | exact ⟨[(false, 2)], .tup [.sl (some 0) 2 [], .v _], rfl, ⟨rfl, rfl, trivial⟩, by rw [pl_many (by omega) h3 (p2_cut g2 hhit) (ite_yes hg c102) (by omega)]; rfl, by rw [pl_many (by omega) h3 (p2_cut g2 hhit) (ite_yes hg c102) (by omega)]; rfl⟩
          | exact ⟨[(true, 0)], .tup [.sl (some 0) 2 _, .v _], rfl, ⟨⟨rfl, rfl, rfl⟩, rfl, trivial⟩, by rw [pl_end (by omega) h3 (by simp; omega)], by rw [pl_end (by omega) h3 (by simp; omega)]; rfl⟩
          | skip))


end Go.Proofs.YtobaignbahnjbaaDoor
