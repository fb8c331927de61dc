import Derived.Test.YtobaignbahnjbaaDoorN3
namespace Go.Proofs.YtobaignbahnjbaaDoor
open Go Go.Abs Go.RowKit Go.Fld
set_option linter.unusedVariables false
set_option linter.unusedSimpArgs false

theorem nshow_c (n : Int) : ACalls E 43 [i64 n] (fun r t => r = str (showF n) ∧ t = []) := by -- checkroll/num.Show
  refine ACalls.of_awp (n := 8) (rs := [.tmp 2]) Tryd.func43 rfl Tryd.ntmps43 rfl ?_
  refine AWP.seqk fun K1 hK1 => ?_
  refine AWP.region ?_
  simp only [go_sem] -- region 0
  repeat' (first | (refine AGet.haveM (by assumption) ?_; (try simp only [go_sem])) | (refine AGet.have' (by assumption) ?_; (try simp only [go_sem])) | ((first | refine AGet.nth ?_ (fun b hb => ?_) | refine AGet.nth1 ?_ (fun b hb => ?_) | with_reducible refine And.intro ?_ ?_); (focus ((first | omega | exact List.length_pos_iff.2 (by assumption) | (simp only [List.length_append, List.length_cons, List.length_nil, List.length_map, List.length_take, List.length_drop] at *; omega) | (rw [wrap64_id (by omega) (by omega)]; omega) | (simp; done)))); (try simp only [hb, go_sem])))
  refine hK1 _ ?_; clear hK1 K1
  refine AWP.seqk fun K2 hK2 => ?_
  refine AWP.seqk fun K3 hK3 => ?_
  refine AWP.region ?_
  simp only [go_sem] -- region 1
  repeat' (first | (refine ACall.one (nright_c _) (by kernel_rfl) rfl ?_; simp only [go_sem]) | (refine AGet.haveM (by assumption) ?_; (try simp only [go_sem])) | (refine AGet.have' (by assumption) ?_; (try simp only [go_sem])) | ((first | refine AGet.nth ?_ (fun b hb => ?_) | refine AGet.nth1 ?_ (fun b hb => ?_) | with_reducible refine And.intro ?_ ?_); (focus ((first | omega | exact List.length_pos_iff.2 (by assumption) | (simp only [List.length_append, List.length_cons, List.length_nil, List.length_map, List.length_take, List.length_drop] at *; omega) | (rw [wrap64_id (by omega) (by omega)]; omega) | (simp; done)))); (try simp only [hb, go_sem])))
  refine hK3 _ ?_; clear hK3 K3
  refine AWP.cond rfl (fun c5 => ?_) (fun c5 => ?_)
  · first | exact Bool.noConfusion c5 | (
      try simp only [dD] at c5
      refine AWP.seqk fun K4 hK4 => ?_
      refine AWP.region ?_
      simp only [go_sem] -- region 2
      repeat' (first | (refine AGet.haveM (by assumption) ?_; (try simp only [go_sem])) | (refine AGet.have' (by assumption) ?_; (try simp only [go_sem])) | ((first | refine AGet.nth ?_ (fun b hb => ?_) | refine AGet.nth1 ?_ (fun b hb => ?_) | with_reducible refine And.intro ?_ ?_); (focus ((first | omega | exact List.length_pos_iff.2 (by assumption) | (simp only [List.length_append, List.length_cons, List.length_nil, List.length_map, List.length_take, List.length_drop] at *; omega) | (rw [wrap64_id (by omega) (by omega)]; omega) | (simp; done)))); (try simp only [hb, go_sem])))
      refine hK4 _ ?_; clear hK4 K4
      refine AWP.ret ?_
      try simp only [go_sem]
      clear hK2 K2
      exact ⟨[], .v _, rfl, rfl, by (unfold showF; rw [c5]; rfl), rfl⟩)
  · first | exact Bool.noConfusion c5 | (
      try simp only [dD] at c5
      refine AWP.skip ?_
      refine hK2 _ ?_; clear hK2 K2
      refine AWP.seqk fun K5 hK5 => ?_
      refine AWP.region ?_
      simp only [go_sem] -- region 3
      repeat' (first | (refine ACall.one (formatInt_c _ (by have := numOK_iff.1 c5; omega) (by have := numOK_iff.1 c5; omega)) (by kernel_rfl) rfl ?_; simp only [go_sem]) | (refine AGet.haveM (by assumption) ?_; (try simp only [go_sem])) | (refine AGet.have' (by assumption) ?_; (try simp only [go_sem])) | ((first | refine AGet.nth ?_ (fun b hb => ?_) | refine AGet.nth1 ?_ (fun b hb => ?_) | with_reducible refine And.intro ?_ ?_); (focus ((first | omega | exact List.length_pos_iff.2 (by assumption) | (simp only [List.length_append, List.length_cons, List.length_nil, List.length_map, List.length_take, List.length_drop] at *; omega) | (rw [wrap64_id (by omega) (by omega)]; omega) | (simp; done)))); (try simp only [hb, go_sem])))
      refine hK5 _ ?_; clear hK5 K5
      refine AWP.ret ?_
      try simp only [go_sem]
      exact ⟨[], .v _, rfl, rfl, by (unfold showF; rw [c5]; rfl), rfl⟩)


theorem nparse_c (s : Bs) : ACalls E 55 [str s] (fun r t => r = .tup [i64 (parseF s).1, i64 (parseF s).2] ∧ t = []) := by -- checkroll/num.Parse
  have hsl := signed_len s
  refine ACalls.of_awp (n := 65) (rs := [.tmp 2, .tmp 3]) Tryd.func55 rfl Tryd.ntmps55 rfl ?_
  refine AWP.seqk fun K1 hK1 => ?_
  refine AWP.region ?_
  simp only [go_sem, (signed_eq s).1, (signed_eq s).2] -- region 0
  repeat' (first | (refine AGet.haveM (by assumption) ?_; (try simp only [go_sem, (signed_eq s).1, (signed_eq s).2])) | (refine AGet.have' (by assumption) ?_; (try simp only [go_sem, (signed_eq s).1, (signed_eq s).2])) | ((first | refine AGet.nth ?_ (fun b hb => ?_) | refine AGet.nth1 ?_ (fun b hb => ?_) | with_reducible refine And.intro ?_ ?_); (focus ((first | omega | exact List.length_pos_iff.2 (by assumption) | (simp only [List.length_append, List.length_cons, List.length_nil, List.length_map, List.length_take, List.length_drop] at *; omega) | (rw [wrap64_id (by omega) (by omega)]; omega) | (simp; done)))); (try simp only [hb, go_sem, (signed_eq s).1, (signed_eq s).2])))
  refine hK1 _ ?_; clear hK1 K1
  refine AWP.seqk fun K2 hK2 => ?_
  refine AWP.seqk fun K3 hK3 => ?_
  refine AWP.region ?_
  simp only [go_sem, (signed_eq s).1, (signed_eq s).2] -- region 1
  repeat' (first | (refine AGet.haveM (by assumption) ?_; (try simp only [go_sem, (signed_eq s).1, (signed_eq s).2])) | (refine AGet.have' (by assumption) ?_; (try simp only [go_sem, (signed_eq s).1, (signed_eq s).2])) | ((first | refine AGet.nth ?_ (fun b hb => ?_) | refine AGet.nth1 ?_ (fun b hb => ?_) | with_reducible refine And.intro ?_ ?_); (focus ((first | omega | exact List.length_pos_iff.2 (by assumption) | (simp only [List.length_append, List.length_cons, List.length_nil, List.length_map, List.length_take, List.length_drop] at *; omega) | (rw [wrap64_id (by omega) (by omega)]; omega) | (simp; done)))); (try simp only [hb, go_sem, (signed_eq s).1, (signed_eq s).2])))
  refine hK3 _ ?_; clear hK3 K3
  refine AWP.cond rfl (fun c11 => ?_) (fun c11 => ?_)
  · first | exact Bool.noConfusion c11 | (
      try simp only [dD] at c11
      refine AWP.seqk fun K4 hK4 => ?_
      refine AWP.region ?_
      simp only [go_sem, (signed_eq s).1, (signed_eq s).2] -- region 2
      repeat' (first | (refine AGet.haveM (by assumption) ?_; (try simp only [go_sem, (signed_eq s).1, (signed_eq s).2])) | (refine AGet.have' (by assumption) ?_; (try simp only [go_sem, (signed_eq s).1, (signed_eq s).2])) | ((first | refine AGet.nth ?_ (fun b hb => ?_) | refine AGet.nth1 ?_ (fun b hb => ?_) | with_reducible refine And.intro ?_ ?_); (focus ((first | omega | exact List.length_pos_iff.2 (by assumption) | (simp only [List.length_append, List.length_cons, List.length_nil, List.length_map, List.length_take, List.length_drop] at *; omega) | (rw [wrap64_id (by omega) (by omega)]; omega) | (simp; done)))); (try simp only [hb, go_sem, (signed_eq s).1, (signed_eq s).2])))
      refine hK4 _ ?_; clear hK4 K4
      refine AWP.ret ?_
      try simp only [go_sem]
      clear hK2 K2
      exact ⟨[], .tup [.v _, .v _], rfl, ⟨rfl, rfl, trivial⟩, by 
        first
        | exact tupP (parse_long (by omega))
        | exact tupP (parse_form (by omega) (.inl (by assumption)))
        | exact tupP (parse_form (by omega) (form_yes1 hb (by assumption) (by assumption)))
        | exact tupP (parse_form (by omega) (form_yes2 hb (by assumption) (by assumption)))
        | exact tupP (parse_dig (by omega) (all_not hb (.inl h)))
        | exact tupP (parse_dig (by omega) (all_not hb (.inr c46)))
        | exact tupP (parse_over (by omega) (by first | exact form_no1 (by assumption) (by assumption) | exact form_no2 (by assumption) (by assumption) (by assumption)) (all_done h1 c35 h2) (by omega))
        | (have ho := parse_ok (l := s) (by omega) (by first | exact form_no1 (by assumption) (by assumption) | exact form_no2 (by assumption) (by assumption) (by assumption)) (all_done h1 c35 h2) (by omega)
           have hw := wrapn c58
           simp only [hw.1, hw.2]
           first
           | (rw [c59] at ho; exact tupP ho)
           | (rw [(by assumption : (signed s).2 = _)] at ho; exact tupP ho)), rfl⟩)
  · first | exact Bool.noConfusion c11 | (
      try simp only [dD] at c11
      refine AWP.skip ?_
      refine hK2 _ ?_; clear hK2 K2
      refine AWP.seqk fun K5 hK5 => ?_
      refine AWP.region ?_
      simp only [go_sem, (signed_eq s).1, (signed_eq s).2] -- region 3
      repeat' (first | (refine ACall.one (cutPrefix_c _ _) (by kernel_rfl) rfl ?_; simp only [go_sem, (signed_eq s).1, (signed_eq s).2]) | (refine AGet.haveM (by assumption) ?_; (try simp only [go_sem, (signed_eq s).1, (signed_eq s).2])) | (refine AGet.have' (by assumption) ?_; (try simp only [go_sem, (signed_eq s).1, (signed_eq s).2])) | ((first | refine AGet.nth ?_ (fun b hb => ?_) | refine AGet.nth1 ?_ (fun b hb => ?_) | with_reducible refine And.intro ?_ ?_); (focus ((first | omega | exact List.length_pos_iff.2 (by assumption) | (simp only [List.length_append, List.length_cons, List.length_nil, List.length_map, List.length_take, List.length_drop] at *; omega) | (rw [wrap64_id (by omega) (by omega)]; omega) | (simp; done)))); (try simp only [hb, go_sem, (signed_eq s).1, (signed_eq s).2])))
      refine hK5 _ ?_; clear hK5 K5
      refine AWP.seqk fun K6 hK6 => ?_
      refine AWP.seqk fun K7 hK7 => ?_
      refine AWP.region ?_
      simp only [go_sem, (signed_eq s).1, (signed_eq s).2] -- region 4
      repeat' (first | (refine AGuard.splitN (fun h => ?_) (fun h => ?_) <;> simp only [h, go_sem, (signed_eq s).1, (signed_eq s).2] <;> try simp only [dD] at h) | (refine AGuard.split (fun h => ?_) (fun h => ?_) <;> simp only [h, go_sem, (signed_eq s).1, (signed_eq s).2] <;> try simp only [dD] at h) | (refine AGet.haveM (by assumption) ?_; (try simp only [go_sem, (signed_eq s).1, (signed_eq s).2])) | (refine AGet.have' (by assumption) ?_; (try simp only [go_sem, (signed_eq s).1, (signed_eq s).2])) | ((first | refine AGet.nth ?_ (fun b hb => ?_) | refine AGet.nth1 ?_ (fun b hb => ?_) | with_reducible refine And.intro ?_ ?_); (focus ((first | omega | exact List.length_pos_iff.2 (by assumption) | (simp only [List.length_append, List.length_cons, List.length_nil, List.length_map, List.length_take, List.length_drop] at *; omega) | (rw [wrap64_id (by omega) (by omega)]; omega) | (simp; done)))); (try simp only [hb, go_sem, (signed_eq s).1, (signed_eq s).2])))
      all_goals (
        refine hK7 _ ?_; clear hK7 K7
        refine AWP.cond rfl (fun c31 => ?_) (fun c31 => ?_)
        · first | exact Bool.noConfusion c31 | (
            try simp only [dD] at c31
            refine AWP.seqk fun K8 hK8 => ?_
            refine AWP.region ?_
            simp only [go_sem, (signed_eq s).1, (signed_eq s).2] -- region 5
            repeat' (first | (refine AGet.haveM (by assumption) ?_; (try simp only [go_sem, (signed_eq s).1, (signed_eq s).2])) | (refine AGet.have' (by assumption) ?_; (try simp only [go_sem, (signed_eq s).1, (signed_eq s).2])) | ((first | refine AGet.nth ?_ (fun b hb => ?_) | refine AGet.nth1 ?_ (fun b hb => ?_) | with_reducible refine And.intro ?_ ?_); (focus ((first | omega | exact List.length_pos_iff.2 (by assumption) | (simp only [List.length_append, List.length_cons, List.length_nil, List.length_map, List.length_take, List.length_drop] at *; omega) | (rw [wrap64_id (by omega) (by omega)]; omega) | (simp; done)))); (try simp only [hb, go_sem, (signed_eq s).1, (signed_eq s).2])))
            refine hK8 _ ?_; clear hK8 K8
            refine AWP.ret ?_
            try simp only [go_sem]
            clear hK6 K6
            exact ⟨[], .tup [.v _, .v _], rfl, ⟨rfl, rfl, trivial⟩, by 
              first
              | exact tupP (parse_long (by omega))
              | exact tupP (parse_form (by omega) (.inl (by assumption)))
              | exact tupP (parse_form (by omega) (form_yes1 hb (by assumption) (by assumption)))
              | exact tupP (parse_form (by omega) (form_yes2 hb (by assumption) (by assumption)))
              | exact tupP (parse_dig (by omega) (all_not hb (.inl h)))
              | exact tupP (parse_dig (by omega) (all_not hb (.inr c46)))
              | exact tupP (parse_over (by omega) (by first | exact form_no1 (by assumption) (by assumption) | exact form_no2 (by assumption) (by assumption) (by assumption)) (all_done h1 c35 h2) (by omega))
              | (have ho := parse_ok (l := s) (by omega) (by first | exact form_no1 (by assumption) (by assumption) | exact form_no2 (by assumption) (by assumption) (by assumption)) (all_done h1 c35 h2) (by omega)
                 have hw := wrapn c58
                 simp only [hw.1, hw.2]
                 first
                 | (rw [c59] at ho; exact tupP ho)
                 | (rw [(by assumption : (signed s).2 = _)] at ho; exact tupP ho)), rfl⟩)
        · first | exact Bool.noConfusion c31 | (
            try simp only [dD] at c31
            refine AWP.skip ?_
            refine hK6 _ ?_; clear hK6 K6
            refine AWP.seqk fun K9 hK9 => ?_
            refine AWP.seqk fun K10 hK10 => ?_
            refine AWP.region ?_
            simp only [go_sem, (signed_eq s).1, (signed_eq s).2] -- region 6
            repeat' (first | (refine AGet.haveM (by assumption) ?_; (try simp only [go_sem, (signed_eq s).1, (signed_eq s).2])) | (refine AGet.have' (by assumption) ?_; (try simp only [go_sem, (signed_eq s).1, (signed_eq s).2])) | ((first | refine AGet.nth ?_ (fun b hb => ?_) | refine AGet.nth1 ?_ (fun b hb => ?_) | with_reducible refine And.intro ?_ ?_); (focus ((first | omega | exact List.length_pos_iff.2 (by assumption) | (simp only [List.length_append, List.length_cons, List.length_nil, List.length_map, List.length_take, List.length_drop] at *; omega) | (rw [wrap64_id (by omega) (by omega)]; omega) | (simp; done)))); (try simp only [hb, go_sem, (signed_eq s).1, (signed_eq s).2])))
            refine hK10 _ ?_; clear hK10 K10
            refine AWP.block ?_ -- 0
            refine AWP.loopH (ι := Nat) [2, 3, 6, 35, 36, 37, 38, 39, 40, 41, 42, 43, 44, 45, 46, 47] (fun (i : Nat) => [(34, i64 i)]) (fun (i : Nat) => i ≤ (signed s).1.length ∧ ((signed s).1.take i).all isDig = true) (fun (i : Nat) => (signed s).1.length - i) (0) ?_ ?_ ?_
            · (try simp only [go_sem]); try (simp; done)
            · simp
            rintro i ⟨h1, h2⟩
            simp only [go_sem]
            refine AWP.seqk fun K11 hK11 => ?_
            refine AWP.region ?_
            simp only [go_sem, (signed_eq s).1, (signed_eq s).2] -- region 7
            repeat' (first | (refine AGet.haveM (by assumption) ?_; (try simp only [go_sem, (signed_eq s).1, (signed_eq s).2])) | (refine AGet.have' (by assumption) ?_; (try simp only [go_sem, (signed_eq s).1, (signed_eq s).2])) | ((first | refine AGet.nth ?_ (fun b hb => ?_) | refine AGet.nth1 ?_ (fun b hb => ?_) | with_reducible refine And.intro ?_ ?_); (focus ((first | omega | exact List.length_pos_iff.2 (by assumption) | (simp only [List.length_append, List.length_cons, List.length_nil, List.length_map, List.length_take, List.length_drop] at *; omega) | (rw [wrap64_id (by omega) (by omega)]; omega) | (simp; done)))); (try simp only [hb, go_sem, (signed_eq s).1, (signed_eq s).2])))
            refine hK11 _ ?_; clear hK11 K11
            refine AWP.seqk fun K12 hK12 => ?_
            refine AWP.cond rfl (fun c35 => ?_) (fun c35 => ?_)
            · first | exact Bool.noConfusion c35 | (
                try simp only [dD] at c35
                refine AWP.skip ?_
                refine hK12 _ ?_; clear hK12 K12
                refine AWP.seqk fun K13 hK13 => ?_
                refine AWP.block ?_ -- 1
                refine AWP.seqk fun K14 hK14 => ?_
                refine AWP.region ?_
                simp only [go_sem, (signed_eq s).1, (signed_eq s).2] -- region 8
                repeat' (first | (refine AGet.haveM (by assumption) ?_; (try simp only [go_sem, (signed_eq s).1, (signed_eq s).2])) | (refine AGet.have' (by assumption) ?_; (try simp only [go_sem, (signed_eq s).1, (signed_eq s).2])) | ((first | refine AGet.nth ?_ (fun b hb => ?_) | refine AGet.nth1 ?_ (fun b hb => ?_) | with_reducible refine And.intro ?_ ?_); (focus ((first | omega | exact List.length_pos_iff.2 (by assumption) | (simp only [List.length_append, List.length_cons, List.length_nil, List.length_map, List.length_take, List.length_drop] at *; omega) | (rw [wrap64_id (by omega) (by omega)]; omega) | (simp; done)))); (try simp only [hb, go_sem, (signed_eq s).1, (signed_eq s).2])))
                refine hK14 _ ?_; clear hK14 K14
                refine AWP.seqk fun K15 hK15 => ?_
                refine AWP.region ?_
                simp only [go_sem, (signed_eq s).1, (signed_eq s).2] -- region 9
                repeat' (first | (refine AGuard.splitN (fun h => ?_) (fun h => ?_) <;> simp only [h, go_sem, (signed_eq s).1, (signed_eq s).2] <;> try simp only [dD] at h) | (refine AGuard.split (fun h => ?_) (fun h => ?_) <;> simp only [h, go_sem, (signed_eq s).1, (signed_eq s).2] <;> try simp only [dD] at h) | (refine AGet.haveM (by assumption) ?_; (try simp only [go_sem, (signed_eq s).1, (signed_eq s).2])) | (refine AGet.have' (by assumption) ?_; (try simp only [go_sem, (signed_eq s).1, (signed_eq s).2])) | ((first | refine AGet.nth ?_ (fun b hb => ?_) | refine AGet.nth1 ?_ (fun b hb => ?_) | with_reducible refine And.intro ?_ ?_); (focus ((first | omega | exact List.length_pos_iff.2 (by assumption) | (simp only [List.length_append, List.length_cons, List.length_nil, List.length_map, List.length_take, List.length_drop] at *; omega) | (rw [wrap64_id (by omega) (by omega)]; omega) | (simp; done)))); (try simp only [hb, go_sem, (signed_eq s).1, (signed_eq s).2])))
                all_goals (
                  refine hK15 _ ?_; clear hK15 K15
                  refine AWP.cond rfl (fun c46 => ?_) (fun c46 => ?_)
                  · first | exact Bool.noConfusion c46 | (
                      try simp only [dD] at c46
                      refine AWP.seqk fun K16 hK16 => ?_
                      refine AWP.region ?_
                      simp only [go_sem, (signed_eq s).1, (signed_eq s).2] -- region 10
                      repeat' (first | (refine AGet.haveM (by assumption) ?_; (try simp only [go_sem, (signed_eq s).1, (signed_eq s).2])) | (refine AGet.have' (by assumption) ?_; (try simp only [go_sem, (signed_eq s).1, (signed_eq s).2])) | ((first | refine AGet.nth ?_ (fun b hb => ?_) | refine AGet.nth1 ?_ (fun b hb => ?_) | with_reducible refine And.intro ?_ ?_); (focus ((first | omega | exact List.length_pos_iff.2 (by assumption) | (simp only [List.length_append, List.length_cons, List.length_nil, List.length_map, List.length_take, List.length_drop] at *; omega) | (rw [wrap64_id (by omega) (by omega)]; omega) | (simp; done)))); (try simp only [hb, go_sem, (signed_eq s).1, (signed_eq s).2])))
                      refine hK16 _ ?_; clear hK16 K16
                      refine AWP.ret ?_
                      try simp only [go_sem]
                      clear hK13 K13 hK9 K9
                      exact ⟨[], .tup [.v _, .v _], rfl, ⟨rfl, rfl, trivial⟩, by 
                        first
                        | exact tupP (parse_long (by omega))
                        | exact tupP (parse_form (by omega) (.inl (by assumption)))
                        | exact tupP (parse_form (by omega) (form_yes1 hb (by assumption) (by assumption)))
                        | exact tupP (parse_form (by omega) (form_yes2 hb (by assumption) (by assumption)))
                        | exact tupP (parse_dig (by omega) (all_not hb (.inl h)))
                        | exact tupP (parse_dig (by omega) (all_not hb (.inr c46)))
                        | exact tupP (parse_over (by omega) (by first | exact form_no1 (by assumption) (by assumption) | exact form_no2 (by assumption) (by assumption) (by assumption)) (all_done h1 c35 h2) (by omega))
                        | (have ho := parse_ok (l := s) (by omega) (by first | exact form_no1 (by assumption) (by assumption) | exact form_no2 (by assumption) (by assumption) (by assumption)) (all_done h1 c35 h2) (by omega)
                           have hw := wrapn c58
                           simp only [hw.1, hw.2]
                           first
                           | (rw [c59] at ho; exact tupP ho)
                           | (rw [(by assumption : (signed s).2 = _)] at ho; exact tupP ho)), rfl⟩)
                  · first | exact Bool.noConfusion c46 | (
                      try simp only [dD] at c46
                      refine AWP.skip ?_
                      refine hK13 _ ?_; clear hK13 K13
                      refine AWP.region ?_
                      simp only [go_sem, (signed_eq s).1, (signed_eq s).2] -- region 11
                      repeat' (first | (refine AGet.haveM (by assumption) ?_; (try simp only [go_sem, (signed_eq s).1, (signed_eq s).2])) | (refine AGet.have' (by assumption) ?_; (try simp only [go_sem, (signed_eq s).1, (signed_eq s).2])) | ((first | refine AGet.nth ?_ (fun b hb => ?_) | refine AGet.nth1 ?_ (fun b hb => ?_) | with_reducible refine And.intro ?_ ?_); (focus ((first | omega | exact List.length_pos_iff.2 (by assumption) | (simp only [List.length_append, List.length_cons, List.length_nil, List.length_map, List.length_take, List.length_drop] at *; omega) | (rw [wrap64_id (by omega) (by omega)]; omega) | (simp; done)))); (try simp only [hb, go_sem, (signed_eq s).1, (signed_eq s).2])))
                      clear hK9 K9
                      refine ⟨i + 1, ?_, ?_, ?_⟩
                      · simp; (first | rfl | (rw [wrap64_id (by omega) (by omega)]))
                      · exact ⟨by omega, all_next hb h2 (by first | assumption | omega) c46⟩
                      · omega)))
            · first | exact Bool.noConfusion c35 | (
                try simp only [dD] at c35
                refine AWP.exit ?_
                simp only [go_sem]
                clear hK12 K12
                refine hK9 _ ?_; clear hK9 K9
                refine AWP.seqk fun K17 hK17 => ?_
                refine AWP.region ?_
                simp only [go_sem, (signed_eq s).1, (signed_eq s).2] -- region 12
                repeat' (first | (refine ACall.of (parseUint_c (signed s).1 (by have := signed_len s; omega) (all_done h1 c35 h2) (by assumption)) (by kernel_rfl) rfl ?_; rintro r t ⟨rfl, ⟨hu, rfl⟩ | ⟨hu, u, p, q, rfl⟩⟩ <;> simp only [go_sem, (signed_eq s).1, (signed_eq s).2]) | (refine AGet.haveM (by assumption) ?_; (try simp only [go_sem, (signed_eq s).1, (signed_eq s).2])) | (refine AGet.have' (by assumption) ?_; (try simp only [go_sem, (signed_eq s).1, (signed_eq s).2])) | ((first | refine AGet.nth ?_ (fun b hb => ?_) | refine AGet.nth1 ?_ (fun b hb => ?_) | with_reducible refine And.intro ?_ ?_); (focus ((first | omega | exact List.length_pos_iff.2 (by assumption) | (simp only [List.length_append, List.length_cons, List.length_nil, List.length_map, List.length_take, List.length_drop] at *; omega) | (rw [wrap64_id (by omega) (by omega)]; omega) | (simp; done)))); (try simp only [hb, go_sem, (signed_eq s).1, (signed_eq s).2])))
                all_goals (
                  refine hK17 _ ?_; clear hK17 K17
                  refine AWP.seqk fun K18 hK18 => ?_
                  refine AWP.seqk fun K19 hK19 => ?_
                  refine AWP.region ?_
                  simp only [go_sem, (signed_eq s).1, (signed_eq s).2] -- region 13
                  repeat' (first | (refine AGuard.splitN (fun h => ?_) (fun h => ?_) <;> simp only [h, go_sem, (signed_eq s).1, (signed_eq s).2] <;> try simp only [dD] at h) | (refine AGuard.split (fun h => ?_) (fun h => ?_) <;> simp only [h, go_sem, (signed_eq s).1, (signed_eq s).2] <;> try simp only [dD] at h) | (refine AGet.haveM (by assumption) ?_; (try simp only [go_sem, (signed_eq s).1, (signed_eq s).2])) | (refine AGet.have' (by assumption) ?_; (try simp only [go_sem, (signed_eq s).1, (signed_eq s).2])) | ((first | refine AGet.nth ?_ (fun b hb => ?_) | refine AGet.nth1 ?_ (fun b hb => ?_) | with_reducible refine And.intro ?_ ?_); (focus ((first | omega | exact List.length_pos_iff.2 (by assumption) | (simp only [List.length_append, List.length_cons, List.length_nil, List.length_map, List.length_take, List.length_drop] at *; omega) | (rw [wrap64_id (by omega) (by omega)]; omega) | (simp; done)))); (try simp only [hb, go_sem, (signed_eq s).1, (signed_eq s).2])))
                  all_goals (
                    refine hK19 _ ?_; clear hK19 K19
                    refine AWP.cond rfl (fun c58 => ?_) (fun c58 => ?_)
                    · first | exact Bool.noConfusion c58 | (
                        try simp only [dD] at c58
                        refine AWP.seqk fun K20 hK20 => ?_
                        refine AWP.region ?_
                        simp only [go_sem, (signed_eq s).1, (signed_eq s).2] -- region 14
                        repeat' (first | (refine AGet.haveM (by assumption) ?_; (try simp only [go_sem, (signed_eq s).1, (signed_eq s).2])) | (refine AGet.have' (by assumption) ?_; (try simp only [go_sem, (signed_eq s).1, (signed_eq s).2])) | ((first | refine AGet.nth ?_ (fun b hb => ?_) | refine AGet.nth1 ?_ (fun b hb => ?_) | with_reducible refine And.intro ?_ ?_); (focus ((first | omega | exact List.length_pos_iff.2 (by assumption) | (simp only [List.length_append, List.length_cons, List.length_nil, List.length_map, List.length_take, List.length_drop] at *; omega) | (rw [wrap64_id (by omega) (by omega)]; omega) | (simp; done)))); (try simp only [hb, go_sem, (signed_eq s).1, (signed_eq s).2])))
                        refine hK20 _ ?_; clear hK20 K20
                        refine AWP.ret ?_
                        try simp only [go_sem]
                        clear hK18 K18
                        exact ⟨[], .tup [.v _, .v _], rfl, ⟨rfl, rfl, trivial⟩, by 
                          first
                          | exact tupP (parse_long (by omega))
                          | exact tupP (parse_form (by omega) (.inl (by assumption)))
                          | exact tupP (parse_form (by omega) (form_yes1 hb (by assumption) (by assumption)))
                          | exact tupP (parse_form (by omega) (form_yes2 hb (by assumption) (by assumption)))
                          | exact tupP (parse_dig (by omega) (all_not hb (.inl h)))
                          | exact tupP (parse_dig (by omega) (all_not hb (.inr c46)))
                          | exact tupP (parse_over (by omega) (by first | exact form_no1 (by assumption) (by assumption) | exact form_no2 (by assumption) (by assumption) (by assumption)) (all_done h1 c35 h2) (by omega))
                          | (have ho := parse_ok (l := s) (by omega) (by first | exact form_no1 (by assumption) (by assumption) | exact form_no2 (by assumption) (by assumption) (by assumption)) (all_done h1 c35 h2) (by omega)
                             have hw := wrapn c58
                             simp only [hw.1, hw.2]
                             first
                             | (rw [c59] at ho; exact tupP ho)
                             | (rw [(by assumption : (signed s).2 = _)] at ho; exact tupP ho)), rfl⟩)
                    · first | exact Bool.noConfusion c58 | (
                        try simp only [dD] at c58
                        refine AWP.skip ?_
                        refine hK18 _ ?_; clear hK18 K18
                        refine AWP.seqk fun K21 hK21 => ?_
                        refine AWP.seqk fun K22 hK22 => ?_
                        refine AWP.region ?_
                        simp only [go_sem, (signed_eq s).1, (signed_eq s).2] -- region 15
                        repeat' (first | (refine AGet.haveM (by assumption) ?_; (try simp only [go_sem, (signed_eq s).1, (signed_eq s).2])) | (refine AGet.have' (by assumption) ?_; (try simp only [go_sem, (signed_eq s).1, (signed_eq s).2])) | ((first | refine AGet.nth ?_ (fun b hb => ?_) | refine AGet.nth1 ?_ (fun b hb => ?_) | with_reducible refine And.intro ?_ ?_); (focus ((first | omega | exact List.length_pos_iff.2 (by assumption) | (simp only [List.length_append, List.length_cons, List.length_nil, List.length_map, List.length_take, List.length_drop] at *; omega) | (rw [wrap64_id (by omega) (by omega)]; omega) | (simp; done)))); (try simp only [hb, go_sem, (signed_eq s).1, (signed_eq s).2])))
                        refine hK22 _ ?_; clear hK22 K22
                        refine AWP.cond rfl (fun c59 => ?_) (fun c59 => ?_)
                        · first | exact Bool.noConfusion c59 | (
                            try simp only [dD] at c59
                            refine AWP.seqk fun K23 hK23 => ?_
                            refine AWP.region ?_
                            simp only [go_sem, (signed_eq s).1, (signed_eq s).2] -- region 16
                            repeat' (first | (refine AGet.haveM (by assumption) ?_; (try simp only [go_sem, (signed_eq s).1, (signed_eq s).2])) | (refine AGet.have' (by assumption) ?_; (try simp only [go_sem, (signed_eq s).1, (signed_eq s).2])) | ((first | refine AGet.nth ?_ (fun b hb => ?_) | refine AGet.nth1 ?_ (fun b hb => ?_) | with_reducible refine And.intro ?_ ?_); (focus ((first | omega | exact List.length_pos_iff.2 (by assumption) | (simp only [List.length_append, List.length_cons, List.length_nil, List.length_map, List.length_take, List.length_drop] at *; omega) | (rw [wrap64_id (by omega) (by omega)]; omega) | (simp; done)))); (try simp only [hb, go_sem, (signed_eq s).1, (signed_eq s).2])))
                            refine hK23 _ ?_; clear hK23 K23
                            refine AWP.ret ?_
                            try simp only [go_sem]
                            clear hK21 K21
                            exact ⟨[], .tup [.v _, .v _], rfl, ⟨rfl, rfl, trivial⟩, by 
                              first
                              | exact tupP (parse_long (by omega))
                              | exact tupP (parse_form (by omega) (.inl (by assumption)))
                              | exact tupP (parse_form (by omega) (form_yes1 hb (by assumption) (by assumption)))
                              | exact tupP (parse_form (by omega) (form_yes2 hb (by assumption) (by assumption)))
                              | exact tupP (parse_dig (by omega) (all_not hb (.inl h)))
                              | exact tupP (parse_dig (by omega) (all_not hb (.inr c46)))
                              | exact tupP (parse_over (by omega) (by first | exact form_no1 (by assumption) (by assumption) | exact form_no2 (by assumption) (by assumption) (by assumption)) (all_done h1 c35 h2) (by omega))
                              | (have ho := parse_ok (l := s) (by omega) (by first | exact form_no1 (by assumption) (by assumption) | exact form_no2 (by assumption) (by assumption) (by assumption)) (all_done h1 c35 h2) (by omega)
                                 have hw := wrapn c58
                                 simp only [hw.1, hw.2]
                                 first
                                 | (rw [c59] at ho; exact tupP ho)
                                 | (rw [(by assumption : (signed s).2 = _)] at ho; exact tupP ho)), rfl⟩)
                        · first | exact Bool.noConfusion c59 | (
                            try simp only [dD] at c59
                            refine AWP.skip ?_
                            refine hK21 _ ?_; clear hK21 K21
                            refine AWP.seqk fun K24 hK24 => ?_
                            refine AWP.region ?_
                            simp only [go_sem, (signed_eq s).1, (signed_eq s).2] -- region 17
                            repeat' (first | (refine AGet.haveM (by assumption) ?_; (try simp only [go_sem, (signed_eq s).1, (signed_eq s).2])) | (refine AGet.have' (by assumption) ?_; (try simp only [go_sem, (signed_eq s).1, (signed_eq s).2])) | ((first | refine AGet.nth ?_ (fun b hb => ?_) | refine AGet.nth1 ?_ (fun b hb => ?_) | with_reducible refine And.intro ?_ ?_); (focus ((first | omega | exact List.length_pos_iff.2 (by assumption) | (simp only [List.length_append, List.length_cons, List.length_nil, List.length_map, List.length_take, List.length_drop] at *; omega) | (rw [wrap64_id (by omega) (by omega)]; omega) | (simp; done)))); (try simp only [hb, go_sem, (signed_eq s).1, (signed_eq s).2])))
                            refine hK24 _ ?_; clear hK24 K24
                            refine AWP.ret ?_
                            try simp only [go_sem]
                            exact ⟨[], .tup [.v _, .v _], rfl, ⟨rfl, rfl, trivial⟩, by 
                              first
                              | exact tupP (parse_long (by omega))
                              | exact tupP (parse_form (by omega) (.inl (by assumption)))
                              | exact tupP (parse_form (by omega) (form_yes1 hb (by assumption) (by assumption)))
                              | exact tupP (parse_form (by omega) (form_yes2 hb (by assumption) (by assumption)))
                              | exact tupP (parse_dig (by omega) (all_not hb (.inl h)))
                              | exact tupP (parse_dig (by omega) (all_not hb (.inr c46)))
                              | exact tupP (parse_over (by omega) (by first | exact form_no1 (by assumption) (by assumption) | exact form_no2 (by assumption) (by assumption) (by assumption)) (all_done h1 c35 h2) (by omega))
                              | (have ho := parse_ok (l := s) (by omega) (by first | exact form_no1 (by assumption) (by assumption) | exact form_no2 (by assumption) (by assumption) (by assumption)) (all_done h1 c35 h2) (by omega)
                                 have hw := wrapn c58
                                 simp only [hw.1, hw.2]
                                 first
                                 | (rw [c59] at ho; exact tupP ho)
                                 | (rw [(by assumption : (signed s).2 = _)] at ho; exact tupP ho)), rfl⟩))))))))


end Go.Proofs.YtobaignbahnjbaaDoor
