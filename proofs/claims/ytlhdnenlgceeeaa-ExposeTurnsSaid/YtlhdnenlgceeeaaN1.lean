import Derived.Test.YtlhdnenlgceeeaaN0
set_option linter.unusedVariables false
set_option linter.unusedSimpArgs false
namespace Go.Proofs.Ytlhdnenlgceeeaa
open Go Go.Abs Go.RowKit Go.Bk

set_option maxHeartbeats 4000000 in
set_option maxRecDepth 8000 in
theorem msmall_c (n : Int) : ACalls E 60 [i64 n] (fun r t => r = bl (smallB n) ∧ t = []) := by -- checkroll/msg.small
  refine ACalls.of_awp (n := 9) (rs := [.tmp 2]) Try.func60 rfl Try.ntmps60 rfl ?_
  refine AWP.seqk fun K1 hK1 => ?_
  refine AWP.region ?_
  simp only [go_sem] -- region 0
  repeat' (first | (refine AGet.haveM (by assumption) ?_; (try simp only [go_sem])) | (refine AGet.have' (by assumption) ?_; (try simp only [go_sem])) | ((first | refine AGet.nth ?_ (fun b hb => ?_) | refine AGet.nth1 ?_ (fun b hb => ?_) | with_reducible refine And.intro ?_ ?_); (focus ((first | omega | exact List.length_pos_iff.2 (by assumption) | (simp only [List.length_append, List.length_cons, List.length_nil, List.length_map, List.length_take, List.length_drop] at *; omega) | (rw [wrap64_id (by omega) (by omega)]; omega) | (simp; done)))); (try simp only [hb, go_sem])))
  refine hK1 _ ?_; clear hK1 K1
  refine AWP.seqk fun K2 hK2 => ?_
  refine AWP.region ?_
  simp only [go_sem] -- region 1
  repeat' (first | (refine AGuard.splitN (fun h => ?_) (fun h => ?_) <;> simp only [h, go_sem] <;> try simp only [dD] at h) | (refine AGuard.split (fun h => ?_) (fun h => ?_) <;> simp only [h, go_sem] <;> try simp only [dD] at h) | (refine AGet.haveM (by assumption) ?_; (try simp only [go_sem])) | (refine AGet.have' (by assumption) ?_; (try simp only [go_sem])) | ((first | refine AGet.nth ?_ (fun b hb => ?_) | refine AGet.nth1 ?_ (fun b hb => ?_) | with_reducible refine And.intro ?_ ?_); (focus ((first | omega | exact List.length_pos_iff.2 (by assumption) | (simp only [List.length_append, List.length_cons, List.length_nil, List.length_map, List.length_take, List.length_drop] at *; omega) | (rw [wrap64_id (by omega) (by omega)]; omega) | (simp; done)))); (try simp only [hb, go_sem])))
  all_goals (
    refine hK2 _ ?_; clear hK2 K2
    refine AWP.ret ?_
    try simp only [go_sem]
    exact ⟨[], .v _, rfl, rfl, by simp_all [smallB] <;> omega, rfl⟩)


set_option maxHeartbeats 4000000 in
set_option maxRecDepth 8000 in
theorem mwhen_c (n : Int) : ACalls E 61 [i64 n] (fun r t => r = bl (whenB n) ∧ t = []) := by -- checkroll/msg.when
  refine ACalls.of_awp (n := 9) (rs := [.tmp 2]) Try.func61 rfl Try.ntmps61 rfl ?_
  refine AWP.seqk fun K1 hK1 => ?_
  refine AWP.region ?_
  simp only [go_sem] -- region 0
  repeat' (first | (refine AGet.haveM (by assumption) ?_; (try simp only [go_sem])) | (refine AGet.have' (by assumption) ?_; (try simp only [go_sem])) | ((first | refine AGet.nth ?_ (fun b hb => ?_) | refine AGet.nth1 ?_ (fun b hb => ?_) | with_reducible refine And.intro ?_ ?_); (focus ((first | omega | exact List.length_pos_iff.2 (by assumption) | (simp only [List.length_append, List.length_cons, List.length_nil, List.length_map, List.length_take, List.length_drop] at *; omega) | (rw [wrap64_id (by omega) (by omega)]; omega) | (simp; done)))); (try simp only [hb, go_sem])))
  refine hK1 _ ?_; clear hK1 K1
  refine AWP.seqk fun K2 hK2 => ?_
  refine AWP.region ?_
  simp only [go_sem] -- region 1
  repeat' (first | (refine AGuard.splitN (fun h => ?_) (fun h => ?_) <;> simp only [h, go_sem] <;> try simp only [dD] at h) | (refine AGuard.split (fun h => ?_) (fun h => ?_) <;> simp only [h, go_sem] <;> try simp only [dD] at h) | (refine AGet.haveM (by assumption) ?_; (try simp only [go_sem])) | (refine AGet.have' (by assumption) ?_; (try simp only [go_sem])) | ((first | refine AGet.nth ?_ (fun b hb => ?_) | refine AGet.nth1 ?_ (fun b hb => ?_) | with_reducible refine And.intro ?_ ?_); (focus ((first | omega | exact List.length_pos_iff.2 (by assumption) | (simp only [List.length_append, List.length_cons, List.length_nil, List.length_map, List.length_take, List.length_drop] at *; omega) | (rw [wrap64_id (by omega) (by omega)]; omega) | (simp; done)))); (try simp only [hb, go_sem])))
  all_goals (
    refine hK2 _ ?_; clear hK2 K2
    refine AWP.ret ?_
    try simp only [go_sem]
    exact ⟨[], .v _, rfl, rfl, by simp_all [whenB] <;> omega, rfl⟩)


set_option maxHeartbeats 4000000 in
set_option maxRecDepth 8000 in
theorem onamed_c (s : Bs) : ACalls E 104 [str s] (fun r t => r = bl (namedB s) ∧ t = []) := by -- checkroll/order.named
  refine ACalls.of_awp (n := 10) (rs := [.tmp 2]) Try.func104 rfl Try.ntmps104 rfl ?_
  refine AWP.seqk fun K1 hK1 => ?_
  refine AWP.region ?_
  simp only [go_sem] -- region 0
  repeat' (first | (refine AGet.haveM (by assumption) ?_; (try simp only [go_sem])) | (refine AGet.have' (by assumption) ?_; (try simp only [go_sem])) | ((first | refine AGet.nth ?_ (fun b hb => ?_) | refine AGet.nth1 ?_ (fun b hb => ?_) | with_reducible refine And.intro ?_ ?_); (focus ((first | omega | exact List.length_pos_iff.2 (by assumption) | (simp only [List.length_append, List.length_cons, List.length_nil, List.length_map, List.length_take, List.length_drop] at *; omega) | (rw [wrap64_id (by omega) (by omega)]; omega) | (simp; done)))); (try simp only [hb, go_sem])))
  refine hK1 _ ?_; clear hK1 K1
  refine AWP.seqk fun K2 hK2 => ?_
  refine AWP.region ?_
  simp only [go_sem] -- region 1
  repeat' (first | (refine AGuard.splitN (fun h => ?_) (fun h => ?_) <;> simp only [h, go_sem] <;> try simp only [dD] at h) | (refine AGuard.split (fun h => ?_) (fun h => ?_) <;> simp only [h, go_sem] <;> try simp only [dD] at h) | (refine AGet.haveM (by assumption) ?_; (try simp only [go_sem])) | (refine AGet.have' (by assumption) ?_; (try simp only [go_sem])) | ((first | refine AGet.nth ?_ (fun b hb => ?_) | refine AGet.nth1 ?_ (fun b hb => ?_) | with_reducible refine And.intro ?_ ?_); (focus ((first | omega | exact List.length_pos_iff.2 (by assumption) | (simp only [List.length_append, List.length_cons, List.length_nil, List.length_map, List.length_take, List.length_drop] at *; omega) | (rw [wrap64_id (by omega) (by omega)]; omega) | (simp; done)))); (try simp only [hb, go_sem])))
  all_goals (
    refine hK2 _ ?_; clear hK2 K2
    refine AWP.ret ?_
    try simp only [go_sem]
    exact ⟨[], .v _, rfl, rfl, by simp_all [namedB] <;> omega, rfl⟩)


set_option maxHeartbeats 4000000 in
set_option maxRecDepth 8000 in
theorem oamount_c (n : Int) : ACalls E 105 [i64 n] (fun r t => r = bl (smallB n) ∧ t = []) := by -- checkroll/order.amount
  refine ACalls.of_awp (n := 9) (rs := [.tmp 2]) Try.func105 rfl Try.ntmps105 rfl ?_
  refine AWP.seqk fun K1 hK1 => ?_
  refine AWP.region ?_
  simp only [go_sem] -- region 0
  repeat' (first | (refine AGet.haveM (by assumption) ?_; (try simp only [go_sem])) | (refine AGet.have' (by assumption) ?_; (try simp only [go_sem])) | ((first | refine AGet.nth ?_ (fun b hb => ?_) | refine AGet.nth1 ?_ (fun b hb => ?_) | with_reducible refine And.intro ?_ ?_); (focus ((first | omega | exact List.length_pos_iff.2 (by assumption) | (simp only [List.length_append, List.length_cons, List.length_nil, List.length_map, List.length_take, List.length_drop] at *; omega) | (rw [wrap64_id (by omega) (by omega)]; omega) | (simp; done)))); (try simp only [hb, go_sem])))
  refine hK1 _ ?_; clear hK1 K1
  refine AWP.seqk fun K2 hK2 => ?_
  refine AWP.region ?_
  simp only [go_sem] -- region 1
  repeat' (first | (refine AGuard.splitN (fun h => ?_) (fun h => ?_) <;> simp only [h, go_sem] <;> try simp only [dD] at h) | (refine AGuard.split (fun h => ?_) (fun h => ?_) <;> simp only [h, go_sem] <;> try simp only [dD] at h) | (refine AGet.haveM (by assumption) ?_; (try simp only [go_sem])) | (refine AGet.have' (by assumption) ?_; (try simp only [go_sem])) | ((first | refine AGet.nth ?_ (fun b hb => ?_) | refine AGet.nth1 ?_ (fun b hb => ?_) | with_reducible refine And.intro ?_ ?_); (focus ((first | omega | exact List.length_pos_iff.2 (by assumption) | (simp only [List.length_append, List.length_cons, List.length_nil, List.length_map, List.length_take, List.length_drop] at *; omega) | (rw [wrap64_id (by omega) (by omega)]; omega) | (simp; done)))); (try simp only [hb, go_sem])))
  all_goals (
    refine hK2 _ ?_; clear hK2 K2
    refine AWP.ret ?_
    try simp only [go_sem]
    exact ⟨[], .v _, rfl, rfl, by simp_all [smallB] <;> omega, rfl⟩)


set_option maxHeartbeats 4000000 in
set_option maxRecDepth 8000 in
theorem bamount_c (n : Int) : ACalls E 48 [i64 n] (fun r t => r = bl (smallB n) ∧ t = []) := by -- checkroll/book.amount
  refine ACalls.of_awp (n := 9) (rs := [.tmp 2]) Try.func48 rfl Try.ntmps48 rfl ?_
  refine AWP.seqk fun K1 hK1 => ?_
  refine AWP.region ?_
  simp only [go_sem] -- region 0
  repeat' (first | (refine AGet.haveM (by assumption) ?_; (try simp only [go_sem])) | (refine AGet.have' (by assumption) ?_; (try simp only [go_sem])) | ((first | refine AGet.nth ?_ (fun b hb => ?_) | refine AGet.nth1 ?_ (fun b hb => ?_) | with_reducible refine And.intro ?_ ?_); (focus ((first | omega | exact List.length_pos_iff.2 (by assumption) | (simp only [List.length_append, List.length_cons, List.length_nil, List.length_map, List.length_take, List.length_drop] at *; omega) | (rw [wrap64_id (by omega) (by omega)]; omega) | (simp; done)))); (try simp only [hb, go_sem])))
  refine hK1 _ ?_; clear hK1 K1
  refine AWP.seqk fun K2 hK2 => ?_
  refine AWP.region ?_
  simp only [go_sem] -- region 1
  repeat' (first | (refine AGuard.splitN (fun h => ?_) (fun h => ?_) <;> simp only [h, go_sem] <;> try simp only [dD] at h) | (refine AGuard.split (fun h => ?_) (fun h => ?_) <;> simp only [h, go_sem] <;> try simp only [dD] at h) | (refine AGet.haveM (by assumption) ?_; (try simp only [go_sem])) | (refine AGet.have' (by assumption) ?_; (try simp only [go_sem])) | ((first | refine AGet.nth ?_ (fun b hb => ?_) | refine AGet.nth1 ?_ (fun b hb => ?_) | with_reducible refine And.intro ?_ ?_); (focus ((first | omega | exact List.length_pos_iff.2 (by assumption) | (simp only [List.length_append, List.length_cons, List.length_nil, List.length_map, List.length_take, List.length_drop] at *; omega) | (rw [wrap64_id (by omega) (by omega)]; omega) | (simp; done)))); (try simp only [hb, go_sem])))
  all_goals (
    refine hK2 _ ?_; clear hK2 K2
    refine AWP.ret ?_
    try simp only [go_sem]
    exact ⟨[], .v _, rfl, rfl, by simp_all [smallB] <;> omega, rfl⟩)


set_option maxHeartbeats 4000000 in
set_option maxRecDepth 8000 in
theorem mname_c (s : Bs) : ACalls E 59 [str s] (fun r t => r = bl (nameB s) ∧ t = []) := by -- checkroll/msg.Name
  refine ACalls.of_awp (n := 45) (rs := [.tmp 2]) Try.func59 rfl Try.ntmps59 rfl ?_
  refine AWP.seqk fun K1 hK1 => ?_
  refine AWP.region ?_
  simp only [go_sem] -- region 0
  repeat' (first | (refine AGet.haveM (by assumption) ?_; (try simp only [go_sem])) | (refine AGet.have' (by assumption) ?_; (try simp only [go_sem])) | ((first | refine AGet.nth ?_ (fun b hb => ?_) | refine AGet.nth1 ?_ (fun b hb => ?_) | with_reducible refine And.intro ?_ ?_); (focus ((first | omega | exact List.length_pos_iff.2 (by assumption) | (simp only [List.length_append, List.length_cons, List.length_nil, List.length_map, List.length_take, List.length_drop] at *; omega) | (rw [wrap64_id (by omega) (by omega)]; omega) | (simp; done)))); (try simp only [hb, go_sem])))
  refine hK1 _ ?_; clear hK1 K1
  refine AWP.seqk fun K2 hK2 => ?_
  refine AWP.seqk fun K3 hK3 => ?_
  refine AWP.region ?_
  simp only [go_sem] -- region 1
  repeat' (first | (refine AGuard.splitN (fun h => ?_) (fun h => ?_) <;> simp only [h, go_sem] <;> try simp only [dD] at h) | (refine AGuard.split (fun h => ?_) (fun h => ?_) <;> simp only [h, go_sem] <;> try simp only [dD] at h) | (refine AGet.haveM (by assumption) ?_; (try simp only [go_sem])) | (refine AGet.have' (by assumption) ?_; (try simp only [go_sem])) | ((first | refine AGet.nth ?_ (fun b hb => ?_) | refine AGet.nth1 ?_ (fun b hb => ?_) | with_reducible refine And.intro ?_ ?_); (focus ((first | omega | exact List.length_pos_iff.2 (by assumption) | (simp only [List.length_append, List.length_cons, List.length_nil, List.length_map, List.length_take, List.length_drop] at *; omega) | (rw [wrap64_id (by omega) (by omega)]; omega) | (simp; done)))); (try simp only [hb, go_sem])))
  all_goals (
    refine hK3 _ ?_; clear hK3 K3
    refine AWP.cond rfl (fun c12 => ?_) (fun c12 => ?_)
    · first | exact Bool.noConfusion c12 | (
        try simp only [dD] at c12
        refine AWP.seqk fun K4 hK4 => ?_
        refine AWP.region ?_
        simp only [go_sem] -- region 2
        repeat' (first | (refine AGet.haveM (by assumption) ?_; (try simp only [go_sem])) | (refine AGet.have' (by assumption) ?_; (try simp only [go_sem])) | ((first | refine AGet.nth ?_ (fun b hb => ?_) | refine AGet.nth1 ?_ (fun b hb => ?_) | with_reducible refine And.intro ?_ ?_); (focus ((first | omega | exact List.length_pos_iff.2 (by assumption) | (simp only [List.length_append, List.length_cons, List.length_nil, List.length_map, List.length_take, List.length_drop] at *; omega) | (rw [wrap64_id (by omega) (by omega)]; omega) | (simp; done)))); (try simp only [hb, go_sem])))
        refine hK4 _ ?_; clear hK4 K4
        refine AWP.ret ?_
        try simp only [go_sem]
        clear hK2 K2
        first
        | exact ⟨[], .v _, rfl, rfl, congrArg bl (name_no1 (by omega)).symm, rfl⟩
        | exact ⟨[], .v _, rfl, rfl, congrArg bl (name_no2 hb (by simp only [isName]; simp; omega)).symm, rfl⟩
        | exact ⟨[], .v _, rfl, rfl, congrArg bl (name_yes (by omega) (by omega) h3).symm, rfl⟩
        | skip)
    · first | exact Bool.noConfusion c12 | (
        try simp only [dD] at c12
        refine AWP.skip ?_
        refine hK2 _ ?_; clear hK2 K2
        refine AWP.seqk fun K5 hK5 => ?_
        refine AWP.seqk fun K6 hK6 => ?_
        refine AWP.region ?_
        simp only [go_sem] -- region 3
        repeat' (first | (refine AGet.haveM (by assumption) ?_; (try simp only [go_sem])) | (refine AGet.have' (by assumption) ?_; (try simp only [go_sem])) | ((first | refine AGet.nth ?_ (fun b hb => ?_) | refine AGet.nth1 ?_ (fun b hb => ?_) | with_reducible refine And.intro ?_ ?_); (focus ((first | omega | exact List.length_pos_iff.2 (by assumption) | (simp only [List.length_append, List.length_cons, List.length_nil, List.length_map, List.length_take, List.length_drop] at *; omega) | (rw [wrap64_id (by omega) (by omega)]; omega) | (simp; done)))); (try simp only [hb, go_sem])))
        refine hK6 _ ?_; clear hK6 K6
        refine AWP.block ?_ -- 0
        refine AWP.loopH (ι := Nat) [2, 3, 4, 16, 17, 18, 19, 20, 21, 22, 23, 24, 25, 26, 27, 28, 29, 30, 31, 32, 33, 34, 35, 36, 37, 38, 39, 40, 41, 42, 43, 44] (fun (i : Nat) => [(15, i64 i)]) (fun (i : Nat) => i ≤ s.length ∧ s.length ≤ 16 ∧ (s.take i).all isName = true) (fun (i : Nat) => s.length - i) (0) ?_ ?_ ?_
        · (try simp only [go_sem]); try (simp; done)
        · exact ⟨by omega, by omega, by simp⟩
        rintro i ⟨h1, h2, h3⟩
        simp only [go_sem]
        refine AWP.seqk fun K7 hK7 => ?_
        refine AWP.region ?_
        simp only [go_sem] -- region 4
        repeat' (first | (refine AGet.haveM (by assumption) ?_; (try simp only [go_sem])) | (refine AGet.have' (by assumption) ?_; (try simp only [go_sem])) | ((first | refine AGet.nth ?_ (fun b hb => ?_) | refine AGet.nth1 ?_ (fun b hb => ?_) | with_reducible refine And.intro ?_ ?_); (focus ((first | omega | exact List.length_pos_iff.2 (by assumption) | (simp only [List.length_append, List.length_cons, List.length_nil, List.length_map, List.length_take, List.length_drop] at *; omega) | (rw [wrap64_id (by omega) (by omega)]; omega) | (simp; done)))); (try simp only [hb, go_sem])))
        refine hK7 _ ?_; clear hK7 K7
        refine AWP.seqk fun K8 hK8 => ?_
        refine AWP.cond rfl (fun c16 => ?_) (fun c16 => ?_)
        · first | exact Bool.noConfusion c16 | (
            try simp only [dD] at c16
            refine AWP.skip ?_
            refine hK8 _ ?_; clear hK8 K8
            refine AWP.seqk fun K9 hK9 => ?_
            refine AWP.block ?_ -- 1
            refine AWP.seqk fun K10 hK10 => ?_
            refine AWP.region ?_
            simp only [go_sem] -- region 5
            repeat' (first | (refine AGet.haveM (by assumption) ?_; (try simp only [go_sem])) | (refine AGet.have' (by assumption) ?_; (try simp only [go_sem])) | ((first | refine AGet.nth ?_ (fun b hb => ?_) | refine AGet.nth1 ?_ (fun b hb => ?_) | with_reducible refine And.intro ?_ ?_); (focus ((first | omega | exact List.length_pos_iff.2 (by assumption) | (simp only [List.length_append, List.length_cons, List.length_nil, List.length_map, List.length_take, List.length_drop] at *; omega) | (rw [wrap64_id (by omega) (by omega)]; omega) | (simp; done)))); (try simp only [hb, go_sem])))
            refine hK10 _ ?_; clear hK10 K10
            refine AWP.seqk fun K11 hK11 => ?_
            refine AWP.region ?_
            simp only [go_sem] -- region 6
            repeat' (first | (refine AGet.haveM (by assumption) ?_; (try simp only [go_sem])) | (refine AGet.have' (by assumption) ?_; (try simp only [go_sem])) | ((first | refine AGet.nth ?_ (fun b hb => ?_) | refine AGet.nth1 ?_ (fun b hb => ?_) | with_reducible refine And.intro ?_ ?_); (focus ((first | omega | exact List.length_pos_iff.2 (by assumption) | (simp only [List.length_append, List.length_cons, List.length_nil, List.length_map, List.length_take, List.length_drop] at *; omega) | (rw [wrap64_id (by omega) (by omega)]; omega) | (simp; done)))); (try simp only [hb, go_sem])))
            refine hK11 _ ?_; clear hK11 K11
            refine AWP.seqk fun K12 hK12 => ?_
            refine AWP.region ?_
            simp only [go_sem] -- region 7
            repeat' (first | (refine AGuard.splitN (fun h => ?_) (fun h => ?_) <;> simp only [h, go_sem] <;> try simp only [dD] at h) | (refine AGuard.split (fun h => ?_) (fun h => ?_) <;> simp only [h, go_sem] <;> try simp only [dD] at h) | (refine AGet.haveM (by assumption) ?_; (try simp only [go_sem])) | (refine AGet.have' (by assumption) ?_; (try simp only [go_sem])) | ((first | refine AGet.nth ?_ (fun b hb => ?_) | refine AGet.nth1 ?_ (fun b hb => ?_) | with_reducible refine And.intro ?_ ?_); (focus ((first | omega | exact List.length_pos_iff.2 (by assumption) | (simp only [List.length_append, List.length_cons, List.length_nil, List.length_map, List.length_take, List.length_drop] at *; omega) | (rw [wrap64_id (by omega) (by omega)]; omega) | (simp; done)))); (try simp only [hb, go_sem])))
            all_goals (
              refine hK12 _ ?_; clear hK12 K12
              refine AWP.cond rfl (fun c43 => ?_) (fun c43 => ?_)
              · first | exact Bool.noConfusion c43 | (
                  try simp only [dD] at c43
                  refine AWP.seqk fun K13 hK13 => ?_
                  refine AWP.region ?_
                  simp only [go_sem] -- region 8
                  repeat' (first | (refine AGet.haveM (by assumption) ?_; (try simp only [go_sem])) | (refine AGet.have' (by assumption) ?_; (try simp only [go_sem])) | ((first | refine AGet.nth ?_ (fun b hb => ?_) | refine AGet.nth1 ?_ (fun b hb => ?_) | with_reducible refine And.intro ?_ ?_); (focus ((first | omega | exact List.length_pos_iff.2 (by assumption) | (simp only [List.length_append, List.length_cons, List.length_nil, List.length_map, List.length_take, List.length_drop] at *; omega) | (rw [wrap64_id (by omega) (by omega)]; omega) | (simp; done)))); (try simp only [hb, go_sem])))
                  refine hK13 _ ?_; clear hK13 K13
                  refine AWP.ret ?_
                  try simp only [go_sem]
                  clear hK9 K9 hK5 K5
                  first
                  | exact ⟨[], .v _, rfl, rfl, congrArg bl (name_no1 (by omega)).symm, rfl⟩
                  | exact ⟨[], .v _, rfl, rfl, congrArg bl (name_no2 hb (by simp only [isName]; simp; omega)).symm, rfl⟩
                  | exact ⟨[], .v _, rfl, rfl, congrArg bl (name_yes (by omega) (by omega) h3).symm, rfl⟩
                  | skip)
              · first | exact Bool.noConfusion c43 | (
                  try simp only [dD] at c43
                  refine AWP.skip ?_
                  refine hK9 _ ?_; clear hK9 K9
                  refine AWP.region ?_
                  simp only [go_sem] -- region 9
                  repeat' (first | (refine AGet.haveM (by assumption) ?_; (try simp only [go_sem])) | (refine AGet.have' (by assumption) ?_; (try simp only [go_sem])) | ((first | refine AGet.nth ?_ (fun b hb => ?_) | refine AGet.nth1 ?_ (fun b hb => ?_) | with_reducible refine And.intro ?_ ?_); (focus ((first | omega | exact List.length_pos_iff.2 (by assumption) | (simp only [List.length_append, List.length_cons, List.length_nil, List.length_map, List.length_take, List.length_drop] at *; omega) | (rw [wrap64_id (by omega) (by omega)]; omega) | (simp; done)))); (try simp only [hb, go_sem])))
                  clear hK5 K5
                  refine ⟨i + 1, ?_, ?_, ?_⟩
                  · (try simp only [go_sem]); (try rw [wrap64_id (by omega) (by omega)]); simp
                  · exact ⟨by omega, by omega, all_next hb h3 (by simp only [isName]; simp; omega)⟩
                  · omega)))
        · first | exact Bool.noConfusion c16 | (
            try simp only [dD] at c16
            refine AWP.exit ?_
            simp only [go_sem]
            clear hK8 K8
            refine hK5 _ ?_; clear hK5 K5
            refine AWP.seqk fun K14 hK14 => ?_
            refine AWP.region ?_
            simp only [go_sem] -- region 10
            repeat' (first | (refine AGet.haveM (by assumption) ?_; (try simp only [go_sem])) | (refine AGet.have' (by assumption) ?_; (try simp only [go_sem])) | ((first | refine AGet.nth ?_ (fun b hb => ?_) | refine AGet.nth1 ?_ (fun b hb => ?_) | with_reducible refine And.intro ?_ ?_); (focus ((first | omega | exact List.length_pos_iff.2 (by assumption) | (simp only [List.length_append, List.length_cons, List.length_nil, List.length_map, List.length_take, List.length_drop] at *; omega) | (rw [wrap64_id (by omega) (by omega)]; omega) | (simp; done)))); (try simp only [hb, go_sem])))
            refine hK14 _ ?_; clear hK14 K14
            refine AWP.ret ?_
            try simp only [go_sem]
            first
            | exact ⟨[], .v _, rfl, rfl, congrArg bl (name_no1 (by omega)).symm, rfl⟩
            | exact ⟨[], .v _, rfl, rfl, congrArg bl (name_no2 hb (by simp only [isName]; simp; omega)).symm, rfl⟩
            | exact ⟨[], .v _, rfl, rfl, congrArg bl (name_yes (by omega) (by omega) h3).symm, rfl⟩
            | skip)))


set_option maxHeartbeats 4000000 in
set_option maxRecDepth 8000 in
theorem omay_c (o : Od) : ACalls E 69 [odV o] (fun r t => r = bl (mayB o) ∧ t = []) := by -- checkroll/order.May
  refine ACalls.of_awp (n := 38) (rs := [.tmp 2]) Try.func69 rfl Try.ntmps69 rfl ?_
  refine AWP.seqk fun K1 hK1 => ?_
  refine AWP.region ?_
  simp only [go_sem] -- region 0
  repeat' (first | (refine AGet.haveM (by assumption) ?_; (try simp only [go_sem])) | (refine AGet.have' (by assumption) ?_; (try simp only [go_sem])) | ((first | refine AGet.nth ?_ (fun b hb => ?_) | refine AGet.nth1 ?_ (fun b hb => ?_) | with_reducible refine And.intro ?_ ?_); (focus ((first | omega | exact List.length_pos_iff.2 (by assumption) | (simp only [List.length_append, List.length_cons, List.length_nil, List.length_map, List.length_take, List.length_drop] at *; omega) | (rw [wrap64_id (by omega) (by omega)]; omega) | (simp; done)))); (try simp only [hb, go_sem])))
  refine hK1 _ ?_; clear hK1 K1
  refine AWP.seqk fun K2 hK2 => ?_
  refine AWP.region ?_
  simp only [go_sem] -- region 1
  repeat' (first | (refine ACall.one (onamed_c _) (by kernel_rfl) rfl ?_; simp only [go_sem]) | (refine ACall.one (oamount_c _) (by kernel_rfl) rfl ?_; simp only [go_sem]) | (refine AGuard.splitN (fun h => ?_) (fun h => ?_) <;> simp only [h, go_sem] <;> try simp only [dD] at h) | (refine AGuard.split (fun h => ?_) (fun h => ?_) <;> simp only [h, go_sem] <;> try simp only [dD] at h) | (refine AGet.haveM (by assumption) ?_; (try simp only [go_sem])) | (refine AGet.have' (by assumption) ?_; (try simp only [go_sem])) | ((first | refine AGet.nth ?_ (fun b hb => ?_) | refine AGet.nth1 ?_ (fun b hb => ?_) | with_reducible refine And.intro ?_ ?_); (focus ((first | omega | exact List.length_pos_iff.2 (by assumption) | (simp only [List.length_append, List.length_cons, List.length_nil, List.length_map, List.length_take, List.length_drop] at *; omega) | (rw [wrap64_id (by omega) (by omega)]; omega) | (simp; done)))); (try simp only [hb, go_sem])))
  all_goals (
    refine hK2 _ ?_; clear hK2 K2
    refine AWP.ret ?_
    try simp only [go_sem]
    exact ⟨[], .v _, rfl, rfl, by (simp_all [mayB] <;> (intros; omega)), rfl⟩)


set_option maxHeartbeats 4000000 in
set_option maxRecDepth 8000 in
theorem oleft_c (o : Od) : ACalls E 53 [odV o] (fun r t => r = i64 (leftF o) ∧ t = []) := by -- checkroll/order.Left
  refine ACalls.of_awp (n := 16) (rs := [.tmp 2]) Try.func53 rfl Try.ntmps53 rfl ?_
  refine AWP.seqk fun K1 hK1 => ?_
  refine AWP.region ?_
  simp only [go_sem] -- region 0
  repeat' (first | (refine AGet.haveM (by assumption) ?_; (try simp only [go_sem])) | (refine AGet.have' (by assumption) ?_; (try simp only [go_sem])) | ((first | refine AGet.nth ?_ (fun b hb => ?_) | refine AGet.nth1 ?_ (fun b hb => ?_) | with_reducible refine And.intro ?_ ?_); (focus ((first | omega | exact List.length_pos_iff.2 (by assumption) | (simp only [List.length_append, List.length_cons, List.length_nil, List.length_map, List.length_take, List.length_drop] at *; omega) | (rw [wrap64_id (by omega) (by omega)]; omega) | (simp; done)))); (try simp only [hb, go_sem])))
  refine hK1 _ ?_; clear hK1 K1
  refine AWP.seqk fun K2 hK2 => ?_
  refine AWP.seqk fun K3 hK3 => ?_
  refine AWP.region ?_
  simp only [go_sem] -- region 1
  repeat' (first | (refine ACall.one (omay_c _) (by kernel_rfl) rfl ?_; simp only [go_sem]) | (refine AGuard.splitN (fun h => ?_) (fun h => ?_) <;> simp only [h, go_sem] <;> try simp only [dD] at h) | (refine AGuard.split (fun h => ?_) (fun h => ?_) <;> simp only [h, go_sem] <;> try simp only [dD] at h) | (refine AGet.haveM (by assumption) ?_; (try simp only [go_sem])) | (refine AGet.have' (by assumption) ?_; (try simp only [go_sem])) | ((first | refine AGet.nth ?_ (fun b hb => ?_) | refine AGet.nth1 ?_ (fun b hb => ?_) | with_reducible refine And.intro ?_ ?_); (focus ((first | omega | exact List.length_pos_iff.2 (by assumption) | (simp only [List.length_append, List.length_cons, List.length_nil, List.length_map, List.length_take, List.length_drop] at *; omega) | (rw [wrap64_id (by omega) (by omega)]; omega) | (simp; done)))); (try simp only [hb, go_sem])))
  all_goals (
    refine hK3 _ ?_; clear hK3 K3
    refine AWP.cond rfl (fun c10 => ?_) (fun c10 => ?_)
    · first | exact Bool.noConfusion c10 | (
        try simp only [dD] at c10
        refine AWP.seqk fun K4 hK4 => ?_
        refine AWP.region ?_
        simp only [go_sem] -- region 2
        repeat' (first | (refine AGet.haveM (by assumption) ?_; (try simp only [go_sem])) | (refine AGet.have' (by assumption) ?_; (try simp only [go_sem])) | ((first | refine AGet.nth ?_ (fun b hb => ?_) | refine AGet.nth1 ?_ (fun b hb => ?_) | with_reducible refine And.intro ?_ ?_); (focus ((first | omega | exact List.length_pos_iff.2 (by assumption) | (simp only [List.length_append, List.length_cons, List.length_nil, List.length_map, List.length_take, List.length_drop] at *; omega) | (rw [wrap64_id (by omega) (by omega)]; omega) | (simp; done)))); (try simp only [hb, go_sem])))
        refine hK4 _ ?_; clear hK4 K4
        refine AWP.ret ?_
        try simp only [go_sem]
        clear hK2 K2
        exact ⟨[], .v _, rfl, rfl, by (first | (simp_all [leftF]; done) | (rw [left_yes (by assumption) (by assumption)])), rfl⟩)
    · first | exact Bool.noConfusion c10 | (
        try simp only [dD] at c10
        refine AWP.skip ?_
        refine hK2 _ ?_; clear hK2 K2
        refine AWP.seqk fun K5 hK5 => ?_
        refine AWP.region ?_
        simp only [go_sem] -- region 3
        repeat' (first | (refine AGet.haveM (by assumption) ?_; (try simp only [go_sem])) | (refine AGet.have' (by assumption) ?_; (try simp only [go_sem])) | ((first | refine AGet.nth ?_ (fun b hb => ?_) | refine AGet.nth1 ?_ (fun b hb => ?_) | with_reducible refine And.intro ?_ ?_); (focus ((first | omega | exact List.length_pos_iff.2 (by assumption) | (simp only [List.length_append, List.length_cons, List.length_nil, List.length_map, List.length_take, List.length_drop] at *; omega) | (rw [wrap64_id (by omega) (by omega)]; omega) | (simp; done)))); (try simp only [hb, go_sem])))
        refine hK5 _ ?_; clear hK5 K5
        refine AWP.ret ?_
        try simp only [go_sem]
        exact ⟨[], .v _, rfl, rfl, by (first | (simp_all [leftF]; done) | (rw [left_yes (by assumption) (by assumption)])), rfl⟩))


set_option maxHeartbeats 4000000 in
set_option maxRecDepth 8000 in
theorem ofair_c (o : Od) (p : Int) : ACalls E 148 [odV o, i64 p] (fun r t => r = bl (fairF o p) ∧ t = []) := by -- checkroll/order.fair
  refine ACalls.of_awp (n := 18) (rs := [.tmp 4]) Try.func148 rfl Try.ntmps148 rfl ?_
  refine AWP.seqk fun K1 hK1 => ?_
  refine AWP.region ?_
  simp only [go_sem] -- region 0
  repeat' (first | (refine AGet.haveM (by assumption) ?_; (try simp only [go_sem])) | (refine AGet.have' (by assumption) ?_; (try simp only [go_sem])) | ((first | refine AGet.nth ?_ (fun b hb => ?_) | refine AGet.nth1 ?_ (fun b hb => ?_) | with_reducible refine And.intro ?_ ?_); (focus ((first | omega | exact List.length_pos_iff.2 (by assumption) | (simp only [List.length_append, List.length_cons, List.length_nil, List.length_map, List.length_take, List.length_drop] at *; omega) | (rw [wrap64_id (by omega) (by omega)]; omega) | (simp; done)))); (try simp only [hb, go_sem])))
  refine hK1 _ ?_; clear hK1 K1
  refine AWP.seqk fun K2 hK2 => ?_
  refine AWP.seqk fun K3 hK3 => ?_
  refine AWP.region ?_
  simp only [go_sem] -- region 1
  repeat' (first | (refine ACall.one (oamount_c _) (by kernel_rfl) rfl ?_; simp only [go_sem]) | (refine AGet.haveM (by assumption) ?_; (try simp only [go_sem])) | (refine AGet.have' (by assumption) ?_; (try simp only [go_sem])) | ((first | refine AGet.nth ?_ (fun b hb => ?_) | refine AGet.nth1 ?_ (fun b hb => ?_) | with_reducible refine And.intro ?_ ?_); (focus ((first | omega | exact List.length_pos_iff.2 (by assumption) | (simp only [List.length_append, List.length_cons, List.length_nil, List.length_map, List.length_take, List.length_drop] at *; omega) | (rw [wrap64_id (by omega) (by omega)]; omega) | (simp; done)))); (try simp only [hb, go_sem])))
  refine hK3 _ ?_; clear hK3 K3
  refine AWP.cond rfl (fun c7 => ?_) (fun c7 => ?_)
  · first | exact Bool.noConfusion c7 | (
      try simp only [dD] at c7
      refine AWP.seqk fun K4 hK4 => ?_
      refine AWP.region ?_
      simp only [go_sem] -- region 2
      repeat' (first | (refine AGet.haveM (by assumption) ?_; (try simp only [go_sem])) | (refine AGet.have' (by assumption) ?_; (try simp only [go_sem])) | ((first | refine AGet.nth ?_ (fun b hb => ?_) | refine AGet.nth1 ?_ (fun b hb => ?_) | with_reducible refine And.intro ?_ ?_); (focus ((first | omega | exact List.length_pos_iff.2 (by assumption) | (simp only [List.length_append, List.length_cons, List.length_nil, List.length_map, List.length_take, List.length_drop] at *; omega) | (rw [wrap64_id (by omega) (by omega)]; omega) | (simp; done)))); (try simp only [hb, go_sem])))
      refine hK4 _ ?_; clear hK4 K4
      refine AWP.ret ?_
      try simp only [go_sem]
      clear hK2 K2
      exact ⟨[], .v _, rfl, rfl, by simp_all [fairF], rfl⟩)
  · first | exact Bool.noConfusion c7 | (
      try simp only [dD] at c7
      refine AWP.skip ?_
      refine hK2 _ ?_; clear hK2 K2
      refine AWP.seqk fun K5 hK5 => ?_
      refine AWP.seqk fun K6 hK6 => ?_
      refine AWP.region ?_
      simp only [go_sem] -- region 3
      repeat' (first | (refine AGet.haveM (by assumption) ?_; (try simp only [go_sem])) | (refine AGet.have' (by assumption) ?_; (try simp only [go_sem])) | ((first | refine AGet.nth ?_ (fun b hb => ?_) | refine AGet.nth1 ?_ (fun b hb => ?_) | with_reducible refine And.intro ?_ ?_); (focus ((first | omega | exact List.length_pos_iff.2 (by assumption) | (simp only [List.length_append, List.length_cons, List.length_nil, List.length_map, List.length_take, List.length_drop] at *; omega) | (rw [wrap64_id (by omega) (by omega)]; omega) | (simp; done)))); (try simp only [hb, go_sem])))
      refine hK6 _ ?_; clear hK6 K6
      refine AWP.cond rfl (fun c9 => ?_) (fun c9 => ?_)
      · first | exact Bool.noConfusion c9 | (
          try simp only [dD] at c9
          refine AWP.seqk fun K7 hK7 => ?_
          refine AWP.region ?_
          simp only [go_sem] -- region 4
          repeat' (first | (refine AGet.haveM (by assumption) ?_; (try simp only [go_sem])) | (refine AGet.have' (by assumption) ?_; (try simp only [go_sem])) | ((first | refine AGet.nth ?_ (fun b hb => ?_) | refine AGet.nth1 ?_ (fun b hb => ?_) | with_reducible refine And.intro ?_ ?_); (focus ((first | omega | exact List.length_pos_iff.2 (by assumption) | (simp only [List.length_append, List.length_cons, List.length_nil, List.length_map, List.length_take, List.length_drop] at *; omega) | (rw [wrap64_id (by omega) (by omega)]; omega) | (simp; done)))); (try simp only [hb, go_sem])))
          refine hK7 _ ?_; clear hK7 K7
          refine AWP.ret ?_
          try simp only [go_sem]
          clear hK5 K5
          exact ⟨[], .v _, rfl, rfl, by simp_all [fairF], rfl⟩)
      · first | exact Bool.noConfusion c9 | (
          try simp only [dD] at c9
          refine AWP.skip ?_
          refine hK5 _ ?_; clear hK5 K5
          refine AWP.seqk fun K8 hK8 => ?_
          refine AWP.region ?_
          simp only [go_sem] -- region 5
          repeat' (first | (refine AGet.haveM (by assumption) ?_; (try simp only [go_sem])) | (refine AGet.have' (by assumption) ?_; (try simp only [go_sem])) | ((first | refine AGet.nth ?_ (fun b hb => ?_) | refine AGet.nth1 ?_ (fun b hb => ?_) | with_reducible refine And.intro ?_ ?_); (focus ((first | omega | exact List.length_pos_iff.2 (by assumption) | (simp only [List.length_append, List.length_cons, List.length_nil, List.length_map, List.length_take, List.length_drop] at *; omega) | (rw [wrap64_id (by omega) (by omega)]; omega) | (simp; done)))); (try simp only [hb, go_sem])))
          refine hK8 _ ?_; clear hK8 K8
          refine AWP.ret ?_
          try simp only [go_sem]
          exact ⟨[], .v _, rfl, rfl, by simp_all [fairF], rfl⟩))


set_option maxHeartbeats 4000000 in
set_option maxRecDepth 8000 in
theorem bfair_c (o : Od) (b : Bool) (p : Int) : ACalls E 129 [odV o, bl b, i64 p] (fun r t => r = bl (fairF { o with buy := b } p) ∧ t = []) := by -- checkroll/book.fair
  refine ACalls.of_awp (n := 24) (rs := [.tmp 6]) Try.func129 rfl Try.ntmps129 rfl ?_
  refine AWP.seqk fun K1 hK1 => ?_
  refine AWP.region ?_
  simp only [go_sem] -- region 0
  repeat' (first | (refine AGet.haveM (by assumption) ?_; (try simp only [go_sem])) | (refine AGet.have' (by assumption) ?_; (try simp only [go_sem])) | ((first | refine AGet.nth ?_ (fun b hb => ?_) | refine AGet.nth1 ?_ (fun b hb => ?_) | with_reducible refine And.intro ?_ ?_); (focus ((first | omega | exact List.length_pos_iff.2 (by assumption) | (simp only [List.length_append, List.length_cons, List.length_nil, List.length_map, List.length_take, List.length_drop] at *; omega) | (rw [wrap64_id (by omega) (by omega)]; omega) | (simp; done)))); (try simp only [hb, go_sem])))
  refine hK1 _ ?_; clear hK1 K1
  refine AWP.seqk fun K2 hK2 => ?_
  refine AWP.seqk fun K3 hK3 => ?_
  refine AWP.region ?_
  simp only [go_sem] -- region 1
  repeat' (first | (refine AGet.haveM (by assumption) ?_; (try simp only [go_sem])) | (refine AGet.have' (by assumption) ?_; (try simp only [go_sem])) | ((first | refine AGet.nth ?_ (fun b hb => ?_) | refine AGet.nth1 ?_ (fun b hb => ?_) | with_reducible refine And.intro ?_ ?_); (focus ((first | omega | exact List.length_pos_iff.2 (by assumption) | (simp only [List.length_append, List.length_cons, List.length_nil, List.length_map, List.length_take, List.length_drop] at *; omega) | (rw [wrap64_id (by omega) (by omega)]; omega) | (simp; done)))); (try simp only [hb, go_sem])))
  refine hK3 _ ?_; clear hK3 K3
  refine AWP.cond rfl (fun c7 => ?_) (fun c7 => ?_)
  · first | exact Bool.noConfusion c7 | (
      try simp only [dD] at c7
      refine AWP.seqk fun K4 hK4 => ?_
      refine AWP.region ?_
      simp only [go_sem] -- region 2
      repeat' (first | (refine ACall.one (bamount_c _) (by kernel_rfl) rfl ?_; simp only [go_sem]) | (refine AGuard.splitN (fun h => ?_) (fun h => ?_) <;> simp only [h, go_sem] <;> try simp only [dD] at h) | (refine AGuard.split (fun h => ?_) (fun h => ?_) <;> simp only [h, go_sem] <;> try simp only [dD] at h) | (refine AGet.haveM (by assumption) ?_; (try simp only [go_sem])) | (refine AGet.have' (by assumption) ?_; (try simp only [go_sem])) | ((first | refine AGet.nth ?_ (fun b hb => ?_) | refine AGet.nth1 ?_ (fun b hb => ?_) | with_reducible refine And.intro ?_ ?_); (focus ((first | omega | exact List.length_pos_iff.2 (by assumption) | (simp only [List.length_append, List.length_cons, List.length_nil, List.length_map, List.length_take, List.length_drop] at *; omega) | (rw [wrap64_id (by omega) (by omega)]; omega) | (simp; done)))); (try simp only [hb, go_sem])))
      all_goals (
        refine hK4 _ ?_; clear hK4 K4
        refine AWP.ret ?_
        try simp only [go_sem]
        clear hK2 K2
        exact ⟨[], .v _, rfl, rfl, by simp_all [fairF], rfl⟩))
  · first | exact Bool.noConfusion c7 | (
      try simp only [dD] at c7
      refine AWP.skip ?_
      refine hK2 _ ?_; clear hK2 K2
      refine AWP.seqk fun K5 hK5 => ?_
      refine AWP.region ?_
      simp only [go_sem] -- region 3
      repeat' (first | (refine ACall.one (bamount_c _) (by kernel_rfl) rfl ?_; simp only [go_sem]) | (refine AGuard.splitN (fun h => ?_) (fun h => ?_) <;> simp only [h, go_sem] <;> try simp only [dD] at h) | (refine AGuard.split (fun h => ?_) (fun h => ?_) <;> simp only [h, go_sem] <;> try simp only [dD] at h) | (refine AGet.haveM (by assumption) ?_; (try simp only [go_sem])) | (refine AGet.have' (by assumption) ?_; (try simp only [go_sem])) | ((first | refine AGet.nth ?_ (fun b hb => ?_) | refine AGet.nth1 ?_ (fun b hb => ?_) | with_reducible refine And.intro ?_ ?_); (focus ((first | omega | exact List.length_pos_iff.2 (by assumption) | (simp only [List.length_append, List.length_cons, List.length_nil, List.length_map, List.length_take, List.length_drop] at *; omega) | (rw [wrap64_id (by omega) (by omega)]; omega) | (simp; done)))); (try simp only [hb, go_sem])))
      all_goals (
        refine hK5 _ ?_; clear hK5 K5
        refine AWP.ret ?_
        try simp only [go_sem]
        exact ⟨[], .v _, rfl, rfl, by simp_all [fairF], rfl⟩))


set_option maxHeartbeats 4000000 in
set_option maxRecDepth 8000 in
theorem place1_c (o : Od) (id : Bs) : ACalls E 107 [odV o, .rptr [str id]] (fun r t => r = bl (decide (o.id = id)) ∧ t = []) := by -- checkroll/order.place$1
  refine ACalls.of_awp (n := 8) (rs := [.tmp 3]) Try.func107 rfl Try.ntmps107 rfl ?_
  refine AWP.seqk fun K1 hK1 => ?_
  refine AWP.region ?_
  simp only [go_sem] -- region 0
  repeat' (first | (refine AGet.haveM (by assumption) ?_; (try simp only [go_sem])) | (refine AGet.have' (by assumption) ?_; (try simp only [go_sem])) | ((first | refine AGet.nth ?_ (fun b hb => ?_) | refine AGet.nth1 ?_ (fun b hb => ?_) | with_reducible refine And.intro ?_ ?_); (focus ((first | omega | exact List.length_pos_iff.2 (by assumption) | (simp only [List.length_append, List.length_cons, List.length_nil, List.length_map, List.length_take, List.length_drop] at *; omega) | (rw [wrap64_id (by omega) (by omega)]; omega) | (simp; done)))); (try simp only [hb, go_sem])))
  refine hK1 _ ?_; clear hK1 K1
  refine AWP.seqk fun K2 hK2 => ?_
  refine AWP.region ?_
  simp only [go_sem] -- region 1
  repeat' (first | (refine AGet.haveM (by assumption) ?_; (try simp only [go_sem])) | (refine AGet.have' (by assumption) ?_; (try simp only [go_sem])) | ((first | refine AGet.nth ?_ (fun b hb => ?_) | refine AGet.nth1 ?_ (fun b hb => ?_) | with_reducible refine And.intro ?_ ?_); (focus ((first | omega | exact List.length_pos_iff.2 (by assumption) | (simp only [List.length_append, List.length_cons, List.length_nil, List.length_map, List.length_take, List.length_drop] at *; omega) | (rw [wrap64_id (by omega) (by omega)]; omega) | (simp; done)))); (try simp only [hb, go_sem])))
  refine hK2 _ ?_; clear hK2 K2
  refine AWP.ret ?_
  try simp only [go_sem]
  exact ⟨[], .v _, rfl, rfl, by simp_all, rfl⟩


end Go.Proofs.Ytlhdnenlgceeeaa
