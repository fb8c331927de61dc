import Derived.Test.YtobaignbahnjbaaDoorN1
namespace Go.Proofs.YtobaignbahnjbaaDoor
open Go Go.Abs Go.RowKit Go.Fld
set_option linter.unusedVariables false
set_option linter.unusedSimpArgs false

theorem r1show_s (n : Int) (ih : ∀ m : Int, msr m < msr n → ACalls E 45 [i64 m] (fun r t => r = str (showF m) ∧ t = [])) : ACalls E 45 [i64 n] (fun r t => r = str (showF n) ∧ t = []) := by -- checkroll/checkrollref01.Show
  refine ACalls.of_awp (n := 27) (rs := [.tmp 2]) Tryd.func45 rfl Tryd.ntmps45 rfl ?_
  refine AWP.seqk fun K1 hK1 => ?_
  refine AWP.region ?_
  simp only [go_sem] -- region 0
  repeat' (first | (refine AGet.haveM (by assumption) ?_; (try simp only [go_sem])) | (refine AGet.have' (by assumption) ?_; (try simp only [go_sem])) | ((first | refine AGet.nth ?_ (fun b hb => ?_) | refine AGet.nth1 ?_ (fun b hb => ?_) | with_reducible refine And.intro ?_ ?_); (focus (first | omega | (have := show_len (IntKind.i64.wrap (0 - n)); omega) | (have := show_len (IntKind.i64.wrap (n.tdiv 10)); rw [enc_dig (by rw [Int.tmod_eq_emod_of_nonneg (by omega)]; omega) (by rw [Int.tmod_eq_emod_of_nonneg (by omega)]; omega)]; show _ + 1 ≤ _; omega))); (try simp only [hb, go_sem])))
  refine hK1 _ ?_; clear hK1 K1
  refine AWP.seqk fun K2 hK2 => ?_
  refine AWP.seqk fun K3 hK3 => ?_
  refine AWP.region ?_
  simp only [go_sem] -- region 1
  repeat' (first | (refine ACall.one (r1right_c _) (by kernel_rfl) rfl ?_; simp only [go_sem]) | (refine AGet.haveM (by assumption) ?_; (try simp only [go_sem])) | (refine AGet.have' (by assumption) ?_; (try simp only [go_sem])) | ((first | refine AGet.nth ?_ (fun b hb => ?_) | refine AGet.nth1 ?_ (fun b hb => ?_) | with_reducible refine And.intro ?_ ?_); (focus (first | omega | (have := show_len (IntKind.i64.wrap (0 - n)); omega) | (have := show_len (IntKind.i64.wrap (n.tdiv 10)); rw [enc_dig (by rw [Int.tmod_eq_emod_of_nonneg (by omega)]; omega) (by rw [Int.tmod_eq_emod_of_nonneg (by omega)]; omega)]; show _ + 1 ≤ _; omega))); (try simp only [hb, go_sem])))
  refine hK3 _ ?_; clear hK3 K3
  refine AWP.cond rfl (fun c5 => ?_) (fun c5 => ?_)
  · first | exact Bool.noConfusion c5 | (
      try simp only [dD] at c5
      refine AWP.seqk fun K4 hK4 => ?_
      refine AWP.region ?_
      simp only [go_sem] -- region 2
      repeat' (first | (refine AGet.haveM (by assumption) ?_; (try simp only [go_sem])) | (refine AGet.have' (by assumption) ?_; (try simp only [go_sem])) | ((first | refine AGet.nth ?_ (fun b hb => ?_) | refine AGet.nth1 ?_ (fun b hb => ?_) | with_reducible refine And.intro ?_ ?_); (focus (first | omega | (have := show_len (IntKind.i64.wrap (0 - n)); omega) | (have := show_len (IntKind.i64.wrap (n.tdiv 10)); rw [enc_dig (by rw [Int.tmod_eq_emod_of_nonneg (by omega)]; omega) (by rw [Int.tmod_eq_emod_of_nonneg (by omega)]; omega)]; show _ + 1 ≤ _; omega))); (try simp only [hb, go_sem])))
      refine hK4 _ ?_; clear hK4 K4
      refine AWP.ret ?_
      try simp only [go_sem]
      clear hK2 K2
      exact ⟨[], .v _, rfl, rfl, by first
          | (have e : showF n = [] := by unfold showF; rw [c5]; rfl
             rw [e])
          | (have hh := numOK_iff.1 c5
             rw [show_neg c5 c7, wrap64_id (by omega) (by omega), Int.zero_sub])
          | (rw [show_dig (by omega) c13, enc_dig (by omega) c13])
          | (rw [show_big c5 (by omega), wdiv c5, enc_dig (by rw [Int.tmod_eq_emod_of_nonneg (by omega)]; omega) (by rw [Int.tmod_eq_emod_of_nonneg (by omega)]; omega)]), rfl⟩)
  · first | exact Bool.noConfusion c5 | (
      try simp only [dD] at c5
      refine AWP.skip ?_
      refine hK2 _ ?_; clear hK2 K2
      refine AWP.seqk fun K5 hK5 => ?_
      refine AWP.seqk fun K6 hK6 => ?_
      refine AWP.region ?_
      simp only [go_sem] -- region 3
      repeat' (first | (refine AGet.haveM (by assumption) ?_; (try simp only [go_sem])) | (refine AGet.have' (by assumption) ?_; (try simp only [go_sem])) | ((first | refine AGet.nth ?_ (fun b hb => ?_) | refine AGet.nth1 ?_ (fun b hb => ?_) | with_reducible refine And.intro ?_ ?_); (focus (first | omega | (have := show_len (IntKind.i64.wrap (0 - n)); omega) | (have := show_len (IntKind.i64.wrap (n.tdiv 10)); rw [enc_dig (by rw [Int.tmod_eq_emod_of_nonneg (by omega)]; omega) (by rw [Int.tmod_eq_emod_of_nonneg (by omega)]; omega)]; show _ + 1 ≤ _; omega))); (try simp only [hb, go_sem])))
      refine hK6 _ ?_; clear hK6 K6
      refine AWP.cond rfl (fun c7 => ?_) (fun c7 => ?_)
      · first | exact Bool.noConfusion c7 | (
          try simp only [dD] at c7
          refine AWP.seqk fun K7 hK7 => ?_
          refine AWP.region ?_
          simp only [go_sem] -- region 4
          repeat' (first | (refine ACall.one (ih _ (by first | (have := c13; exact msr_div c5 c13) | exact msr_neg c5 c7)) (by kernel_rfl) rfl ?_; simp only [go_sem]) | (refine AGet.haveM (by assumption) ?_; (try simp only [go_sem])) | (refine AGet.have' (by assumption) ?_; (try simp only [go_sem])) | ((first | refine AGet.nth ?_ (fun b hb => ?_) | refine AGet.nth1 ?_ (fun b hb => ?_) | with_reducible refine And.intro ?_ ?_); (focus (first | omega | (have := show_len (IntKind.i64.wrap (0 - n)); omega) | (have := show_len (IntKind.i64.wrap (n.tdiv 10)); rw [enc_dig (by rw [Int.tmod_eq_emod_of_nonneg (by omega)]; omega) (by rw [Int.tmod_eq_emod_of_nonneg (by omega)]; omega)]; show _ + 1 ≤ _; omega))); (try simp only [hb, go_sem])))
          refine hK7 _ ?_; clear hK7 K7
          refine AWP.ret ?_
          try simp only [go_sem]
          clear hK5 K5
          exact ⟨[], .v _, rfl, rfl, by first
              | (have e : showF n = [] := by unfold showF; rw [c5]; rfl
                 rw [e])
              | (have hh := numOK_iff.1 c5
                 rw [show_neg c5 c7, wrap64_id (by omega) (by omega), Int.zero_sub])
              | (rw [show_dig (by omega) c13, enc_dig (by omega) c13])
              | (rw [show_big c5 (by omega), wdiv c5, enc_dig (by rw [Int.tmod_eq_emod_of_nonneg (by omega)]; omega) (by rw [Int.tmod_eq_emod_of_nonneg (by omega)]; omega)]), rfl⟩)
      · first | exact Bool.noConfusion c7 | (
          try simp only [dD] at c7
          refine AWP.skip ?_
          refine hK5 _ ?_; clear hK5 K5
          refine AWP.seqk fun K8 hK8 => ?_
          refine AWP.seqk fun K9 hK9 => ?_
          refine AWP.region ?_
          simp only [go_sem] -- region 5
          repeat' (first | (refine AGet.haveM (by assumption) ?_; (try simp only [go_sem])) | (refine AGet.have' (by assumption) ?_; (try simp only [go_sem])) | ((first | refine AGet.nth ?_ (fun b hb => ?_) | refine AGet.nth1 ?_ (fun b hb => ?_) | with_reducible refine And.intro ?_ ?_); (focus (first | omega | (have := show_len (IntKind.i64.wrap (0 - n)); omega) | (have := show_len (IntKind.i64.wrap (n.tdiv 10)); rw [enc_dig (by rw [Int.tmod_eq_emod_of_nonneg (by omega)]; omega) (by rw [Int.tmod_eq_emod_of_nonneg (by omega)]; omega)]; show _ + 1 ≤ _; omega))); (try simp only [hb, go_sem])))
          refine hK9 _ ?_; clear hK9 K9
          refine AWP.cond rfl (fun c13 => ?_) (fun c13 => ?_)
          · first | exact Bool.noConfusion c13 | (
              try simp only [dD] at c13
              refine AWP.seqk fun K10 hK10 => ?_
              refine AWP.region ?_
              simp only [go_sem] -- region 6
              repeat' (first | (refine AGet.haveM (by assumption) ?_; (try simp only [go_sem])) | (refine AGet.have' (by assumption) ?_; (try simp only [go_sem])) | ((first | refine AGet.nth ?_ (fun b hb => ?_) | refine AGet.nth1 ?_ (fun b hb => ?_) | with_reducible refine And.intro ?_ ?_); (focus (first | omega | (have := show_len (IntKind.i64.wrap (0 - n)); omega) | (have := show_len (IntKind.i64.wrap (n.tdiv 10)); rw [enc_dig (by rw [Int.tmod_eq_emod_of_nonneg (by omega)]; omega) (by rw [Int.tmod_eq_emod_of_nonneg (by omega)]; omega)]; show _ + 1 ≤ _; omega))); (try simp only [hb, go_sem])))
              refine hK10 _ ?_; clear hK10 K10
              refine AWP.ret ?_
              try simp only [go_sem]
              clear hK8 K8
              exact ⟨[], .v _, rfl, rfl, by first
                  | (have e : showF n = [] := by unfold showF; rw [c5]; rfl
                     rw [e])
                  | (have hh := numOK_iff.1 c5
                     rw [show_neg c5 c7, wrap64_id (by omega) (by omega), Int.zero_sub])
                  | (rw [show_dig (by omega) c13, enc_dig (by omega) c13])
                  | (rw [show_big c5 (by omega), wdiv c5, enc_dig (by rw [Int.tmod_eq_emod_of_nonneg (by omega)]; omega) (by rw [Int.tmod_eq_emod_of_nonneg (by omega)]; omega)]), rfl⟩)
          · first | exact Bool.noConfusion c13 | (
              try simp only [dD] at c13
              refine AWP.skip ?_
              refine hK8 _ ?_; clear hK8 K8
              refine AWP.seqk fun K11 hK11 => ?_
              refine AWP.region ?_
              simp only [go_sem] -- region 7
              repeat' (first | (refine ACall.one (ih _ (by first | (have := c13; exact msr_div c5 c13) | exact msr_neg c5 c7)) (by kernel_rfl) rfl ?_; simp only [go_sem]) | (refine AGet.haveM (by assumption) ?_; (try simp only [go_sem])) | (refine AGet.have' (by assumption) ?_; (try simp only [go_sem])) | ((first | refine AGet.nth ?_ (fun b hb => ?_) | refine AGet.nth1 ?_ (fun b hb => ?_) | with_reducible refine And.intro ?_ ?_); (focus (first | omega | (have := show_len (IntKind.i64.wrap (0 - n)); omega) | (have := show_len (IntKind.i64.wrap (n.tdiv 10)); rw [enc_dig (by rw [Int.tmod_eq_emod_of_nonneg (by omega)]; omega) (by rw [Int.tmod_eq_emod_of_nonneg (by omega)]; omega)]; show _ + 1 ≤ _; omega))); (try simp only [hb, go_sem])))
              refine hK11 _ ?_; clear hK11 K11
              refine AWP.ret ?_
              try simp only [go_sem]
              exact ⟨[], .v _, rfl, rfl, by first
                  | (have e : showF n = [] := by unfold showF; rw [c5]; rfl
                     rw [e])
                  | (have hh := numOK_iff.1 c5
                     rw [show_neg c5 c7, wrap64_id (by omega) (by omega), Int.zero_sub])
                  | (rw [show_dig (by omega) c13, enc_dig (by omega) c13])
                  | (rw [show_big c5 (by omega), wdiv c5, enc_dig (by rw [Int.tmod_eq_emod_of_nonneg (by omega)]; omega) (by rw [Int.tmod_eq_emod_of_nonneg (by omega)]; omega)]), rfl⟩)))
theorem r1show_c (n : Int) : ACalls E 45 [i64 n] (fun r t => r = str (showF n) ∧ t = []) := by
  have : ∀ (k : Nat) (n : Int), msr n = k → ACalls E 45 [i64 n] (fun r t => r = str (showF n) ∧ t = []) := by
    intro k
    induction k using Nat.strongRecOn with
    | _ k ih => intro n hn; exact r1show_s n fun m hm => ih (msr m) (by omega) m rfl
  exact this _ n rfl


theorem r2right_c (f : Fld.Fd) (hf : f.2.length ≤ 9223372036854775807) : ACalls E 46 [fldV f] (fun r t => r = bl (rightF f) ∧ t = []) := by -- checkroll/checkrollref02.Right
  refine ACalls.of_awp (n := 34) (rs := [.tmp 2]) Tryd.func46 rfl Tryd.ntmps46 rfl ?_
  refine AWP.seqk fun K1 hK1 => ?_
  refine AWP.region ?_
  simp only [go_sem] -- region 0
  repeat' (first | (refine AGet.haveM (by assumption) ?_; (try simp only [go_sem])) | (refine AGet.have' (by assumption) ?_; (try simp only [go_sem])) | ((first | refine AGet.nth ?_ (fun b hb => ?_) | refine AGet.nth1 ?_ (fun b hb => ?_) | with_reducible refine And.intro ?_ ?_); (focus ((first | omega | exact List.length_pos_iff.2 (by assumption) | (simp only [List.length_append, List.length_cons, List.length_nil, List.length_map, List.length_take, List.length_drop] at *; omega) | (rw [wrap64_id (by omega) (by omega)]; omega) | (simp; done)))); (try simp only [hb, go_sem])))
  refine hK1 _ ?_; clear hK1 K1
  refine AWP.seqk fun K2 hK2 => ?_
  refine AWP.seqk fun K3 hK3 => ?_
  refine AWP.region ?_
  simp only [go_sem] -- region 1
  repeat' (first | (refine AGet.haveM (by assumption) ?_; (try simp only [go_sem])) | (refine AGet.have' (by assumption) ?_; (try simp only [go_sem])) | ((first | refine AGet.nth ?_ (fun b hb => ?_) | refine AGet.nth1 ?_ (fun b hb => ?_) | with_reducible refine And.intro ?_ ?_); (focus ((first | omega | exact List.length_pos_iff.2 (by assumption) | (simp only [List.length_append, List.length_cons, List.length_nil, List.length_map, List.length_take, List.length_drop] at *; omega) | (rw [wrap64_id (by omega) (by omega)]; omega) | (simp; done)))); (try simp only [hb, go_sem])))
  refine hK3 _ ?_; clear hK3 K3
  refine AWP.block ?_ -- 0
  refine AWP.loopH (ι := Nat) [2, 4, 5, 6, 7, 8, 9, 10, 11, 12, 13, 14, 15, 16, 17, 18, 19] (fun (i : Nat) => [(3, i64 i)]) (fun (i : Nat) => i ≤ f.2.length ∧ i ≤ 256 ∧ (1 : UInt8) ∉ f.2.take i) (fun (i : Nat) => f.2.length - i) (0) ?_ ?_ ?_
  · (try simp only [go_sem]); try (simp; done)
  · simp
  rintro i ⟨h1, h2, h3⟩
  simp only [go_sem]
  refine AWP.seqk fun K4 hK4 => ?_
  refine AWP.seqk fun K5 hK5 => ?_
  refine AWP.region ?_
  simp only [go_sem] -- region 2
  repeat' (first | (refine AGet.haveM (by assumption) ?_; (try simp only [go_sem])) | (refine AGet.have' (by assumption) ?_; (try simp only [go_sem])) | ((first | refine AGet.nth ?_ (fun b hb => ?_) | refine AGet.nth1 ?_ (fun b hb => ?_) | with_reducible refine And.intro ?_ ?_); (focus ((first | omega | exact List.length_pos_iff.2 (by assumption) | (simp only [List.length_append, List.length_cons, List.length_nil, List.length_map, List.length_take, List.length_drop] at *; omega) | (rw [wrap64_id (by omega) (by omega)]; omega) | (simp; done)))); (try simp only [hb, go_sem])))
  refine hK5 _ ?_; clear hK5 K5
  refine AWP.cond rfl (fun c8 => ?_) (fun c8 => ?_)
  · first | exact Bool.noConfusion c8 | (
      try simp only [dD] at c8
      refine AWP.skip ?_
      refine hK4 _ ?_; clear hK4 K4
      refine AWP.seqk fun K6 hK6 => ?_
      refine AWP.block ?_ -- 1
      refine AWP.seqk fun K7 hK7 => ?_
      refine AWP.region ?_
      simp only [go_sem] -- region 4
      repeat' (first | (refine AGuard.splitN (fun h => ?_) (fun h => ?_) <;> simp only [h, go_sem] <;> try simp only [dD] at h) | (refine AGuard.split (fun h => ?_) (fun h => ?_) <;> simp only [h, go_sem] <;> try simp only [dD] at h) | (refine AGet.haveM (by assumption) ?_; (try simp only [go_sem])) | (refine AGet.have' (by assumption) ?_; (try simp only [go_sem])) | ((first | refine AGet.nth ?_ (fun b hb => ?_) | refine AGet.nth1 ?_ (fun b hb => ?_) | with_reducible refine And.intro ?_ ?_); (focus ((first | omega | exact List.length_pos_iff.2 (by assumption) | (simp only [List.length_append, List.length_cons, List.length_nil, List.length_map, List.length_take, List.length_drop] at *; omega) | (rw [wrap64_id (by omega) (by omega)]; omega) | (simp; done)))); (try simp only [hb, go_sem])))
      all_goals (
        refine hK7 _ ?_; clear hK7 K7
        refine AWP.cond rfl (fun c19 => ?_) (fun c19 => ?_)
        · first | exact Bool.noConfusion c19 | (
            try simp only [dD] at c19
            refine AWP.seqk fun K8 hK8 => ?_
            refine AWP.region ?_
            simp only [go_sem] -- region 5
            repeat' (first | (refine AGet.haveM (by assumption) ?_; (try simp only [go_sem])) | (refine AGet.have' (by assumption) ?_; (try simp only [go_sem])) | ((first | refine AGet.nth ?_ (fun b hb => ?_) | refine AGet.nth1 ?_ (fun b hb => ?_) | with_reducible refine And.intro ?_ ?_); (focus ((first | omega | exact List.length_pos_iff.2 (by assumption) | (simp only [List.length_append, List.length_cons, List.length_nil, List.length_map, List.length_take, List.length_drop] at *; omega) | (rw [wrap64_id (by omega) (by omega)]; omega) | (simp; done)))); (try simp only [hb, go_sem])))
            refine hK8 _ ?_; clear hK8 K8
            refine AWP.ret ?_
            try simp only [go_sem]
            clear hK6 K6 hK2 K2
            refine ⟨[], .v _, rfl, rfl, congrArg bl (right_eq ?_), rfl⟩
            constructor
            · intro e
              first
              | exact absurd e (by decide)
              | (simp only [decide_eq_true_eq, Bool.false_eq_true] at e
                 have h4 : f.2.take i = f.2 := List.take_of_length_le (by omega)
                 rw [h4] at h3
                 exact ⟨by omega, by omega, by omega, by omega, h3⟩)
            · rintro ⟨g1, g2, g3, g4, g5⟩
              first
              | exact absurd (mem_at (c := 1) hb h rfl) g5
              | (simp only [decide_eq_true_eq]; omega)
              | (exfalso; omega))
        · first | exact Bool.noConfusion c19 | (
            try simp only [dD] at c19
            refine AWP.skip ?_
            refine hK6 _ ?_; clear hK6 K6
            refine AWP.region ?_
            simp only [go_sem] -- region 3
            repeat' (first | (refine AGet.haveM (by assumption) ?_; (try simp only [go_sem])) | (refine AGet.have' (by assumption) ?_; (try simp only [go_sem])) | ((first | refine AGet.nth ?_ (fun b hb => ?_) | refine AGet.nth1 ?_ (fun b hb => ?_) | with_reducible refine And.intro ?_ ?_); (focus ((first | omega | exact List.length_pos_iff.2 (by assumption) | (simp only [List.length_append, List.length_cons, List.length_nil, List.length_map, List.length_take, List.length_drop] at *; omega) | (rw [wrap64_id (by omega) (by omega)]; omega) | (simp; done)))); (try simp only [hb, go_sem])))
            clear hK2 K2
            refine ⟨i + 1, ?_, ?_, ?_⟩
            · (try simp only [go_sem]); (try rw [wrap64_id (by omega) (by omega)]); simp
            · exact ⟨by omega, by omega, nmem_next hb h3 (u8_ne (n := 1) h rfl)⟩
            · omega)))
  · first | exact Bool.noConfusion c8 | (
      try simp only [dD] at c8
      refine AWP.exit ?_
      simp only [go_sem]
      clear hK4 K4
      refine hK2 _ ?_; clear hK2 K2
      refine AWP.seqk fun K9 hK9 => ?_
      refine AWP.region ?_
      simp only [go_sem] -- region 6
      repeat' (first | (refine AGuard.splitN (fun h => ?_) (fun h => ?_) <;> simp only [h, go_sem] <;> try simp only [dD] at h) | (refine AGuard.split (fun h => ?_) (fun h => ?_) <;> simp only [h, go_sem] <;> try simp only [dD] at h) | (refine AGet.haveM (by assumption) ?_; (try simp only [go_sem])) | (refine AGet.have' (by assumption) ?_; (try simp only [go_sem])) | ((first | refine AGet.nth ?_ (fun b hb => ?_) | refine AGet.nth1 ?_ (fun b hb => ?_) | with_reducible refine And.intro ?_ ?_); (focus ((first | omega | exact List.length_pos_iff.2 (by assumption) | (simp only [List.length_append, List.length_cons, List.length_nil, List.length_map, List.length_take, List.length_drop] at *; omega) | (rw [wrap64_id (by omega) (by omega)]; omega) | (simp; done)))); (try simp only [hb, go_sem])))
      all_goals (
        refine hK9 _ ?_; clear hK9 K9
        refine AWP.ret ?_
        try simp only [go_sem]
        refine ⟨[], .v _, rfl, rfl, congrArg bl (right_eq ?_), rfl⟩
        constructor
        · intro e
          first
          | exact absurd e (by decide)
          | (simp only [decide_eq_true_eq, Bool.false_eq_true] at e
             have h4 : f.2.take i = f.2 := List.take_of_length_le (by omega)
             rw [h4] at h3
             exact ⟨by omega, by omega, by omega, by omega, h3⟩)
        · rintro ⟨g1, g2, g3, g4, g5⟩
          first
          | exact absurd (mem_at (c := 1) hb h rfl) g5
          | (simp only [decide_eq_true_eq]; omega)
          | (exfalso; omega)))


end Go.Proofs.YtobaignbahnjbaaDoor
