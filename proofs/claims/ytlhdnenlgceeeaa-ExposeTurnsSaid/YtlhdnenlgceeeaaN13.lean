import Derived.Test.YtlhdnenlgceeeaaN12
import Derived.Test.YtlhdnenlgceeeaaPl
set_option linter.unusedVariables false
set_option linter.unusedSimpArgs false
namespace Go.Proofs.Ytlhdnenlgceeeaa
open Go Go.Abs Go.RowKit Go.Bk

theorem rem_lt {u i : Nat} (hi : i < 1000) : (Int.tmod (u : Int) ((i : Int) + 1)) = ((u % (i + 1) : Nat) : Int) := by
  rw [Int.tmod_eq_emod_of_nonneg (by omega)]; exact (Int.natCast_emod u (i + 1)).symm
theorem mem_take {l : List Ex} {i j : Nat} {x : Ex} (h : l[j]? = some x) (hj : j < i + 1) : x ∈ l.take (i + 1) := List.mem_iff_getElem?.2 ⟨j, by rw [List.getElem?_take, if_pos hj]; exact h⟩

set_option maxHeartbeats 8000000 in
set_option maxRecDepth 8000 in
theorem awake12_c  : ACalls E 15 [] (fun r t => r = bl true ∧ t = []) := by -- checkroll/checkrolllaw12.awake
  refine ACalls.of_awp (n := 50) (rs := [.tmp 0]) Try.func15 rfl Try.ntmps15 rfl ?_
  refine AWP.seqk fun K1 hK1 => ?_
  refine AWP.region ?_
  simp only [go_sem, aw_eq] -- region 0
  repeat' (first | (refine AGet.haveM (by assumption) ?_; (try simp only [go_sem, aw_eq])) | (refine AGet.have' (by assumption) ?_; (try simp only [go_sem, aw_eq])) | ((first | refine AGet.nth ?_ (fun b hb => ?_) | refine AGet.nth1 ?_ (fun b hb => ?_) | with_reducible refine And.intro ?_ ?_); (focus ((first | omega | exact List.length_pos_iff.2 (by assumption) | (simp only [List.length_append, List.length_cons, List.length_nil, List.length_map, List.length_take, List.length_drop] at *; omega) | (rw [wrap64_id (by omega) (by omega)]; omega) | (simp; done)))); (try simp only [hb, go_sem, aw_eq])))
  refine hK1 _ ?_; clear hK1 K1
  refine AWP.seqk fun K2 hK2 => ?_
  refine AWP.region ?_
  simp only [go_sem, aw_eq] -- region 1
  repeat' (first | (refine AGet.haveM (by assumption) ?_; (try simp only [go_sem, aw_eq])) | (refine AGet.have' (by assumption) ?_; (try simp only [go_sem, aw_eq])) | ((first | refine AGet.nth ?_ (fun b hb => ?_) | refine AGet.nth1 ?_ (fun b hb => ?_) | with_reducible refine And.intro ?_ ?_); (focus ((first | omega | exact List.length_pos_iff.2 (by assumption) | (simp only [List.length_append, List.length_cons, List.length_nil, List.length_map, List.length_take, List.length_drop] at *; omega) | (rw [wrap64_id (by omega) (by omega)]; omega) | (simp; done)))); (try simp only [hb, go_sem, aw_eq])))
  refine hK2 _ ?_; clear hK2 K2
  refine AWP.seqk fun K3 hK3 => ?_
  refine AWP.region ?_
  simp only [go_sem, aw_eq] -- region 2
  repeat' (first | (refine AGet.haveM (by assumption) ?_; (try simp only [go_sem, aw_eq])) | (refine AGet.have' (by assumption) ?_; (try simp only [go_sem, aw_eq])) | ((first | refine AGet.nth ?_ (fun b hb => ?_) | refine AGet.nth1 ?_ (fun b hb => ?_) | with_reducible refine And.intro ?_ ?_); (focus ((first | omega | exact List.length_pos_iff.2 (by assumption) | (simp only [List.length_append, List.length_cons, List.length_nil, List.length_map, List.length_take, List.length_drop] at *; omega) | (rw [wrap64_id (by omega) (by omega)]; omega) | (simp; done)))); (try simp only [hb, go_sem, aw_eq])))
  refine hK3 _ ?_; clear hK3 K3
  refine AWP.seqk fun K4 hK4 => ?_
  refine AWP.region ?_
  simp only [go_sem, aw_eq] -- region 3
  repeat' (first | (refine AGet.haveM (by assumption) ?_; (try simp only [go_sem, aw_eq])) | (refine AGet.have' (by assumption) ?_; (try simp only [go_sem, aw_eq])) | ((first | refine AGet.nth ?_ (fun b hb => ?_) | refine AGet.nth1 ?_ (fun b hb => ?_) | with_reducible refine And.intro ?_ ?_); (focus ((first | omega | exact List.length_pos_iff.2 (by assumption) | (simp only [List.length_append, List.length_cons, List.length_nil, List.length_map, List.length_take, List.length_drop] at *; omega) | (rw [wrap64_id (by omega) (by omega)]; omega) | (simp; done)))); (try simp only [hb, go_sem, aw_eq])))
  refine hK4 _ ?_; clear hK4 K4
  refine AWP.seqk fun K5 hK5 => ?_
  refine AWP.region ?_
  simp only [go_sem, aw_eq] -- region 4
  repeat' (first | (refine ACall.one (ball_c awl (by decide)) (by kernel_rfl) rfl ?_; simp only [go_sem, aw_eq]) | (refine AGet.haveM (by assumption) ?_; (try simp only [go_sem, aw_eq])) | (refine AGet.have' (by assumption) ?_; (try simp only [go_sem, aw_eq])) | ((first | refine AGet.nth ?_ (fun b hb => ?_) | refine AGet.nth1 ?_ (fun b hb => ?_) | with_reducible refine And.intro ?_ ?_); (focus ((first | omega | exact List.length_pos_iff.2 (by assumption) | (simp only [List.length_append, List.length_cons, List.length_nil, List.length_map, List.length_take, List.length_drop] at *; omega) | (rw [wrap64_id (by omega) (by omega)]; omega) | (simp; done)))); (try simp only [hb, go_sem, aw_eq])))
  refine hK5 _ ?_; clear hK5 K5
  refine AWP.seqk fun K6 hK6 => ?_
  refine AWP.region ?_
  simp only [go_sem, aw_eq] -- region 5
  repeat' (first | (refine AGuard.splitN (fun h => ?_) (fun h => ?_) <;> simp only [h, go_sem, aw_eq] <;> try simp only [dD] at h) | (refine AGuard.split (fun h => ?_) (fun h => ?_) <;> simp only [h, go_sem, aw_eq] <;> try simp only [dD] at h) | (refine AGet.haveM (by assumption) ?_; (try simp only [go_sem, aw_eq])) | (refine AGet.have' (by assumption) ?_; (try simp only [go_sem, aw_eq])) | ((first | refine AGet.nth ?_ (fun b hb => ?_) | refine AGet.nth1 ?_ (fun b hb => ?_) | with_reducible refine And.intro ?_ ?_); (focus ((first | omega | exact List.length_pos_iff.2 (by assumption) | (simp only [List.length_append, List.length_cons, List.length_nil, List.length_map, List.length_take, List.length_drop] at *; omega) | (rw [wrap64_id (by omega) (by omega)]; omega) | (simp; done)))); (try simp only [hb, go_sem, aw_eq])))
  all_goals (
    refine hK6 _ ?_; clear hK6 K6
    refine AWP.ret ?_
    try simp only [go_sem]
    exact ⟨[], .v _, rfl, rfl, rfl, rfl⟩)


set_option maxHeartbeats 8000000 in
set_option maxRecDepth 8000 in
theorem once_c (l : List Ex) (ag : List UInt8) (hl : l.length ≤ 9223372036854775807) (ha : ag.length ≤ 9223372036854775807) : ACalls E 3 [exsV l, .sl none 1 (ag.map u8)] (fun r t => r = bl true ∧ t = []) := by -- checkroll/checkrolllaw12.BookOnce
  refine ACalls.of_awp (n := 70) (rs := [.tmp 4]) Try.func3 rfl Try.ntmps3 rfl ?_
  refine AWP.seqk fun K1 hK1 => ?_
  refine AWP.region ?_
  simp only [go_sem] -- region 0
  repeat' (first | (refine AGet.haveM (by assumption) ?_; (try simp only [go_sem])) | (refine AGet.have' (by assumption) ?_; (try simp only [go_sem])) | ((first | refine AGet.nth ?_ (fun b hb => ?_) | refine AGet.nth1 ?_ (fun b hb => ?_) | with_reducible refine And.intro ?_ ?_); (focus ((first | omega | exact List.length_pos_iff.2 (by assumption) | (simp only [List.length_append, List.length_cons, List.length_nil, List.length_map, List.length_take, List.length_drop] at *; omega) | (rw [wrap64_id (by omega) (by omega)]; omega) | (simp; done)))); (try simp only [hb, go_sem])))
  refine hK1 _ ?_; clear hK1 K1
  refine AWP.seqk fun K2 hK2 => ?_
  refine AWP.seqk fun K3 hK3 => ?_
  refine AWP.region ?_
  simp only [go_sem] -- region 1
  repeat' (first | (refine ACall.one (awake12_c ) (by kernel_rfl) rfl ?_; simp only [go_sem]) | (refine AGet.haveM (by assumption) ?_; (try simp only [go_sem])) | (refine AGet.have' (by assumption) ?_; (try simp only [go_sem])) | ((first | refine AGet.nth ?_ (fun b hb => ?_) | refine AGet.nth1 ?_ (fun b hb => ?_) | with_reducible refine And.intro ?_ ?_); (focus ((first | omega | exact List.length_pos_iff.2 (by assumption) | (simp only [List.length_append, List.length_cons, List.length_nil, List.length_map, List.length_take, List.length_drop] at *; omega) | (rw [wrap64_id (by omega) (by omega)]; omega) | (simp; done)))); (try simp only [hb, go_sem])))
  refine hK3 _ ?_; clear hK3 K3
  refine AWP.cond rfl (fun c9 => ?_) (fun c9 => ?_)
  · first | exact Bool.noConfusion c9 | (
      try simp only [dD] at c9
      refine AWP.seqk fun K4 hK4 => ?_
      refine AWP.region ?_
      simp only [go_sem] -- region 2
      repeat' (first | (refine AGet.haveM (by assumption) ?_; (try simp only [go_sem])) | (refine AGet.have' (by assumption) ?_; (try simp only [go_sem])) | ((first | refine AGet.nth ?_ (fun b hb => ?_) | refine AGet.nth1 ?_ (fun b hb => ?_) | with_reducible refine And.intro ?_ ?_); (focus ((first | omega | exact List.length_pos_iff.2 (by assumption) | (simp only [List.length_append, List.length_cons, List.length_nil, List.length_map, List.length_take, List.length_drop] at *; omega) | (rw [wrap64_id (by omega) (by omega)]; omega) | (simp; done)))); (try simp only [hb, go_sem])))
      refine hK4 _ ?_; clear hK4 K4
      refine AWP.ret ?_
      try simp only [go_sem]
      clear hK2 K2
      first
      | exact ⟨[], .v _, rfl, rfl, rfl, rfl⟩
      | exact ⟨[], .v _, rfl, rfl, by rw [(h3.trans (by rw [List.take_of_length_le (by omega)]) : allF m = allF l)]; simp, rfl⟩
      | skip)
  · first | exact Bool.noConfusion c9 | (
      try simp only [dD] at c9
      refine AWP.skip ?_
      refine hK2 _ ?_; clear hK2 K2
      refine AWP.seqk fun K5 hK5 => ?_
      refine AWP.seqk fun K6 hK6 => ?_
      refine AWP.region ?_
      simp only [go_sem] -- region 3
      repeat' (first | (refine AGuard.splitN (fun h => ?_) (fun h => ?_) <;> simp only [h, go_sem] <;> try simp only [dD] at h) | (refine AGuard.split (fun h => ?_) (fun h => ?_) <;> simp only [h, go_sem] <;> try simp only [dD] at h) | (refine AGet.haveM (by assumption) ?_; (try simp only [go_sem])) | (refine AGet.have' (by assumption) ?_; (try simp only [go_sem])) | ((first | refine AGet.nth ?_ (fun b hb => ?_) | refine AGet.nth1 ?_ (fun b hb => ?_) | with_reducible refine And.intro ?_ ?_); (focus ((first | omega | exact List.length_pos_iff.2 (by assumption) | (simp only [List.length_append, List.length_cons, List.length_nil, List.length_map, List.length_take, List.length_drop] at *; omega) | (rw [wrap64_id (by omega) (by omega)]; omega) | (simp; done)))); (try simp only [hb, go_sem])))
      all_goals (
        refine hK6 _ ?_; clear hK6 K6
        refine AWP.cond rfl (fun c17 => ?_) (fun c17 => ?_)
        · first | exact Bool.noConfusion c17 | (
            try simp only [dD] at c17
            refine AWP.seqk fun K7 hK7 => ?_
            refine AWP.region ?_
            simp only [go_sem] -- region 4
            repeat' (first | (refine AGet.haveM (by assumption) ?_; (try simp only [go_sem])) | (refine AGet.have' (by assumption) ?_; (try simp only [go_sem])) | ((first | refine AGet.nth ?_ (fun b hb => ?_) | refine AGet.nth1 ?_ (fun b hb => ?_) | with_reducible refine And.intro ?_ ?_); (focus ((first | omega | exact List.length_pos_iff.2 (by assumption) | (simp only [List.length_append, List.length_cons, List.length_nil, List.length_map, List.length_take, List.length_drop] at *; omega) | (rw [wrap64_id (by omega) (by omega)]; omega) | (simp; done)))); (try simp only [hb, go_sem])))
            refine hK7 _ ?_; clear hK7 K7
            refine AWP.ret ?_
            try simp only [go_sem]
            clear hK5 K5
            first
            | exact ⟨[], .v _, rfl, rfl, rfl, rfl⟩
            | exact ⟨[], .v _, rfl, rfl, by rw [(h3.trans (by rw [List.take_of_length_le (by omega)]) : allF m = allF l)]; simp, rfl⟩
            | skip)
        · first | exact Bool.noConfusion c17 | (
            try simp only [dD] at c17
            refine AWP.skip ?_
            refine hK5 _ ?_; clear hK5 K5
            refine AWP.seqk fun K8 hK8 => ?_
            refine AWP.region ?_
            simp only [go_sem] -- region 5
            repeat' (first | (refine AGet.haveM (by assumption) ?_; (try simp only [go_sem])) | (refine AGet.have' (by assumption) ?_; (try simp only [go_sem])) | ((first | refine AGet.nth ?_ (fun b hb => ?_) | refine AGet.nth1 ?_ (fun b hb => ?_) | with_reducible refine And.intro ?_ ?_); (focus ((first | omega | exact List.length_pos_iff.2 (by assumption) | (simp only [List.length_append, List.length_cons, List.length_nil, List.length_map, List.length_take, List.length_drop] at *; omega) | (rw [wrap64_id (by omega) (by omega)]; omega) | (simp; done)))); (try simp only [hb, go_sem])))
            refine hK8 _ ?_; clear hK8 K8
            refine AWP.seqk fun K9 hK9 => ?_
            refine AWP.seqk fun K10 hK10 => ?_
            refine AWP.region ?_
            simp only [go_sem] -- region 6
            repeat' (first | (refine AGet.haveM (by assumption) ?_; (try simp only [go_sem])) | (refine AGet.have' (by assumption) ?_; (try simp only [go_sem])) | ((first | refine AGet.nth ?_ (fun b hb => ?_) | refine AGet.nth1 ?_ (fun b hb => ?_) | with_reducible refine And.intro ?_ ?_); (focus ((first | omega | exact List.length_pos_iff.2 (by assumption) | (simp only [List.length_append, List.length_cons, List.length_nil, List.length_map, List.length_take, List.length_drop] at *; omega) | (rw [wrap64_id (by omega) (by omega)]; omega) | (simp; done)))); (try simp only [hb, go_sem])))
            refine hK10 _ ?_; clear hK10 K10
            refine AWP.block ?_ -- 0
            refine AWP.nilTok 5 10 rfl ?_
            simp only [go_sem]
            refine AWP.loopO (ι := List Ex × Nat) [7, 18, 19, 20, 21, 22, 23, 24, 25, 26, 27, 28, 29, 30, 31, 32, 33, 34, 35, 36, 37, 38, 39, 40, 41, 42, 43, 44, 45, 46, 47, 48, 49, 50, 51, 52, 53, 54, 55, 56, 57, 58, 59, 60, 61, 62, 63, 64] (fun ⟨m, i⟩ => [(5, .sl (some 0) 10 (m.map exV)), (6, i64 i)]) (fun ⟨m, i⟩ => []) (fun ⟨m, i⟩ => [m.length]) (fun ⟨m, i⟩ => i ≤ l.length ∧ m.length ≤ i * 61 ∧ allF m = allF (l.take i)) (fun ⟨m, i⟩ => l.length - i) (([], 0)) ?_ ?_ ?_
            · (try simp only [go_sem]); try (simp; done)
            · exact ⟨by simp, by simp, rfl⟩
            rintro ⟨m, i⟩ ⟨h1, h2, h3⟩
            simp only [go_sem]
            refine AWP.seqk fun K11 hK11 => ?_
            refine AWP.seqk fun K12 hK12 => ?_
            refine AWP.region ?_
            simp only [go_sem] -- region 7
            repeat' (first | (refine AGet.haveM (by assumption) ?_; (try simp only [go_sem])) | (refine AGet.have' (by assumption) ?_; (try simp only [go_sem])) | ((first | refine AGet.nth ?_ (fun b hb => ?_) | refine AGet.nth1 ?_ (fun b hb => ?_) | with_reducible refine And.intro ?_ ?_); (focus ((first | omega | exact List.length_pos_iff.2 (by assumption) | (simp only [List.length_append, List.length_cons, List.length_nil, List.length_map, List.length_take, List.length_drop] at *; omega) | (rw [wrap64_id (by omega) (by omega)]; omega) | (simp; done)))); (try simp only [hb, go_sem])))
            refine hK12 _ ?_; clear hK12 K12
            refine AWP.cond rfl (fun c21 => ?_) (fun c21 => ?_)
            · first | exact Bool.noConfusion c21 | (
                try simp only [dD] at c21
                refine AWP.skip ?_
                refine hK11 _ ?_; clear hK11 K11
                refine AWP.seqk fun K13 hK13 => ?_
                refine AWP.block ?_ -- 1
                refine AWP.seqk fun K14 hK14 => ?_
                refine AWP.region ?_
                simp only [go_sem] -- region 9
                repeat' (first | (refine AGet.haveM (by assumption) ?_; (try simp only [go_sem])) | (refine AGet.have' (by assumption) ?_; (try simp only [go_sem])) | ((first | refine AGet.nth ?_ (fun b hb => ?_) | refine AGet.nth1 ?_ (fun b hb => ?_) | with_reducible refine And.intro ?_ ?_); (focus ((first | omega | exact List.length_pos_iff.2 (by assumption) | (simp only [List.length_append, List.length_cons, List.length_nil, List.length_map, List.length_take, List.length_drop] at *; omega) | (rw [wrap64_id (by omega) (by omega)]; omega) | (simp; done)))); (try simp only [hb, go_sem])))
                refine hK14 _ ?_; clear hK14 K14
                refine AWP.seqk fun K15 hK15 => ?_
                refine AWP.region ?_
                simp only [go_sem] -- region 10
                repeat' (first | (refine AGet.haveM (by assumption) ?_; (try simp only [go_sem])) | (refine AGet.have' (by assumption) ?_; (try simp only [go_sem])) | ((first | refine AGet.nth ?_ (fun b hb => ?_) | refine AGet.nth1 ?_ (fun b hb => ?_) | with_reducible refine And.intro ?_ ?_); (focus ((first | omega | exact List.length_pos_iff.2 (by assumption) | (simp only [List.length_append, List.length_cons, List.length_nil, List.length_map, List.length_take, List.length_drop] at *; omega) | (rw [wrap64_id (by omega) (by omega)]; omega) | (simp; done)))); (try simp only [hb, go_sem])))
                refine hK15 _ ?_; clear hK15 K15
                refine AWP.block ?_ -- 2
                refine AWP.loopO (ι := List Ex × Nat) [31, 32, 33, 34, 35, 36, 37, 38, 39, 40, 41, 42, 43, 44, 45, 46, 47, 48, 49, 50, 51, 52, 53, 54, 55, 56, 57, 58, 59, 60, 61, 62, 63, 64] (fun ⟨mr, k⟩ => [(5, .sl (some 0) 10 (mr.map exV)), (7, i64 k), (29, .any)]) (fun ⟨mr, k⟩ => []) (fun ⟨mr, k⟩ => [mr.length]) (fun ⟨mr, k⟩ => k ≤ ag.length ∧ mr.length ≤ i * 61 + 1 + k ∧ allF mr = allF (l.take (i + 1))) (fun ⟨mr, k⟩ => ag.length - k) ((m ++ [b], 0)) ?_ ?_ ?_
                · (try simp only [go_sem]); try (simp; done)
                · exact ⟨by simp, by simp; omega, allF_next h3 hb⟩
                rintro ⟨mr, k⟩ ⟨g1, g2, g3⟩
                simp only [go_sem]
                refine AWP.seqk fun K16 hK16 => ?_
                refine AWP.seqk fun K17 hK17 => ?_
                refine AWP.region ?_
                simp only [go_sem] -- region 11
                repeat' (first | (refine AGet.haveM (by assumption) ?_; (try simp only [go_sem])) | (refine AGet.have' (by assumption) ?_; (try simp only [go_sem])) | ((first | refine AGet.nth ?_ (fun b hb => ?_) | refine AGet.nth1 ?_ (fun b hb => ?_) | with_reducible refine And.intro ?_ ?_); (focus ((first | omega | exact List.length_pos_iff.2 (by assumption) | (simp only [List.length_append, List.length_cons, List.length_nil, List.length_map, List.length_take, List.length_drop] at *; omega) | (rw [wrap64_id (by omega) (by omega)]; omega) | (simp; done)))); (try simp only [hb, go_sem])))
                refine hK17 _ ?_; clear hK17 K17
                refine AWP.cond rfl (fun c34 => ?_) (fun c34 => ?_)
                · first | exact Bool.noConfusion c34 | (
                    try simp only [dD] at c34
                    refine AWP.skip ?_
                    refine hK16 _ ?_; clear hK16 K16
                    refine AWP.seqk fun K18 hK18 => ?_
                    refine AWP.block ?_ -- 3
                    refine AWP.seqk fun K19 hK19 => ?_
                    refine AWP.region ?_
                    simp only [go_sem] -- region 13
                    repeat' (first | (refine AGet.haveM (by assumption) ?_; (try simp only [go_sem])) | (refine AGet.have' (by assumption) ?_; (try simp only [go_sem])) | ((first | refine AGet.nth ?_ (fun b hb => ?_) | refine AGet.nth1 ?_ (fun b hb => ?_) | with_reducible refine And.intro ?_ ?_); (focus ((first | omega | exact List.length_pos_iff.2 (by assumption) | (simp only [List.length_append, List.length_cons, List.length_nil, List.length_map, List.length_take, List.length_drop] at *; omega) | (rw [wrap64_id (by omega) (by omega)]; omega) | (simp; done)))); (try simp only [hb, go_sem])))
                    refine hK19 _ ?_; clear hK19 K19
                    refine AWP.cond rfl (fun c47 => ?_) (fun c47 => ?_)
                    · first | exact Bool.noConfusion c47 | (
                        try simp only [dD] at c47
                        have hu := UInt8.toNat_lt b
                        have hk := get_lt hb
                        have hmod : (b.toNat * 7 + k) % (i + 1) < i + 1 := Nat.mod_lt _ (Nat.succ_pos i)
                        have e1 : IntKind.i64.wrap (b.toNat : Int) = b.toNat := wrap64_id (by omega) (by omega)
                        have e2 : IntKind.i64.wrap ((b.toNat : Int) * 7) = ((b.toNat * 7 : Nat) : Int) := by rw [wrap64_id (by omega) (by omega)]; omega
                        have e3 : IntKind.i64.wrap (((b.toNat * 7 : Nat) : Int) + k) = ((b.toNat * 7 + k : Nat) : Int) := by rw [wrap64_id (by omega) (by omega)]; omega
                        have e4 : IntKind.i64.wrap ((i : Int) + 1) = (i : Int) + 1 := wrap64_id (by omega) (by omega)
                        have e5 := rem_lt (u := b.toNat * 7 + k) (i := i) (by omega)
                        refine AWP.region ?_
                        simp only [go_sem, e1, e2, e3, e4, e5, Int.toNat_natCast] -- region 14
                        repeat' (first | (refine AGet.haveM (by assumption) ?_; (try simp only [go_sem, e1, e2, e3, e4, e5, Int.toNat_natCast])) | (refine AGet.have' (by assumption) ?_; (try simp only [go_sem, e1, e2, e3, e4, e5, Int.toNat_natCast])) | ((first | refine AGet.nth ?_ (fun b hb => ?_) | refine AGet.nth1 ?_ (fun b hb => ?_) | with_reducible refine And.intro ?_ ?_); (focus ((first | omega | exact List.length_pos_iff.2 (by assumption) | (simp only [List.length_append, List.length_cons, List.length_nil, List.length_map, List.length_take, List.length_drop] at *; omega) | (rw [wrap64_id (by omega) (by omega)]; omega) | (simp; done)))); (try simp only [hb, go_sem, e1, e2, e3, e4, e5, Int.toNat_natCast])))
                        refine hK18 _ ?_; clear hK18 K18
                        refine AWP.region ?_
                        simp only [go_sem] -- region 12
                        repeat' (first | (refine AGet.haveM (by assumption) ?_; (try simp only [go_sem])) | (refine AGet.have' (by assumption) ?_; (try simp only [go_sem])) | ((first | refine AGet.nth ?_ (fun b hb => ?_) | refine AGet.nth1 ?_ (fun b hb => ?_) | with_reducible refine And.intro ?_ ?_); (focus ((first | omega | exact List.length_pos_iff.2 (by assumption) | (simp only [List.length_append, List.length_cons, List.length_nil, List.length_map, List.length_take, List.length_drop] at *; omega) | (rw [wrap64_id (by omega) (by omega)]; omega) | (simp; done)))); (try simp only [hb, go_sem])))
                        clear hK13 K13 hK9 K9
                        first
                        | (refine ⟨(mr ++ [b], k + 1), ?_, ⟨(by show k + 1 ≤ ag.length; omega), (by show (mr ++ [b]).length ≤ i * 61 + 1 + (k + 1); simp; omega), all_again g3 (mem_take hb hmod)⟩, (by show ag.length - (k + 1) < ag.length - k; omega)⟩
                           rw [wrap64_id (by omega) (by omega)]; simp; done)
                        | (refine ⟨(mr, k + 1), ?_, ⟨(by show k + 1 ≤ ag.length; omega), (by show mr.length ≤ i * 61 + 1 + (k + 1); omega), g3⟩, (by show ag.length - (k + 1) < ag.length - k; omega)⟩
                           rw [wrap64_id (by omega) (by omega)]; simp; done)
                        | skip)
                    · first | exact Bool.noConfusion c47 | (
                        try simp only [dD] at c47
                        refine AWP.skip ?_
                        refine hK18 _ ?_; clear hK18 K18
                        refine AWP.region ?_
                        simp only [go_sem] -- region 12
                        repeat' (first | (refine AGet.haveM (by assumption) ?_; (try simp only [go_sem])) | (refine AGet.have' (by assumption) ?_; (try simp only [go_sem])) | ((first | refine AGet.nth ?_ (fun b hb => ?_) | refine AGet.nth1 ?_ (fun b hb => ?_) | with_reducible refine And.intro ?_ ?_); (focus ((first | omega | exact List.length_pos_iff.2 (by assumption) | (simp only [List.length_append, List.length_cons, List.length_nil, List.length_map, List.length_take, List.length_drop] at *; omega) | (rw [wrap64_id (by omega) (by omega)]; omega) | (simp; done)))); (try simp only [hb, go_sem])))
                        clear hK13 K13 hK9 K9
                        first
                        | (refine ⟨(mr ++ [b], k + 1), ?_, ⟨(by show k + 1 ≤ ag.length; omega), (by show (mr ++ [b]).length ≤ i * 61 + 1 + (k + 1); simp; omega), all_again g3 (mem_take hb hmod)⟩, (by show ag.length - (k + 1) < ag.length - k; omega)⟩
                           rw [wrap64_id (by omega) (by omega)]; simp; done)
                        | (refine ⟨(mr, k + 1), ?_, ⟨(by show k + 1 ≤ ag.length; omega), (by show mr.length ≤ i * 61 + 1 + (k + 1); omega), g3⟩, (by show ag.length - (k + 1) < ag.length - k; omega)⟩
                           rw [wrap64_id (by omega) (by omega)]; simp; done)
                        | skip))
                · first | exact Bool.noConfusion c34 | (
                    try simp only [dD] at c34
                    refine AWP.exit ?_
                    simp only [go_sem]
                    clear hK16 K16
                    refine hK13 _ ?_; clear hK13 K13
                    refine AWP.region ?_
                    simp only [go_sem] -- region 8
                    repeat' (first | (refine AGet.haveM (by assumption) ?_; (try simp only [go_sem])) | (refine AGet.have' (by assumption) ?_; (try simp only [go_sem])) | ((first | refine AGet.nth ?_ (fun b hb => ?_) | refine AGet.nth1 ?_ (fun b hb => ?_) | with_reducible refine And.intro ?_ ?_); (focus ((first | omega | exact List.length_pos_iff.2 (by assumption) | (simp only [List.length_append, List.length_cons, List.length_nil, List.length_map, List.length_take, List.length_drop] at *; omega) | (rw [wrap64_id (by omega) (by omega)]; omega) | (simp; done)))); (try simp only [hb, go_sem])))
                    clear hK9 K9
                    refine ⟨(mr, i + 1), ?_, ⟨(by show i + 1 ≤ l.length; omega), (by show mr.length ≤ (i + 1) * 61; omega), g3⟩, (by show l.length - (i + 1) < l.length - i; omega)⟩
                    rw [wrap64_id (by omega) (by omega)]; simp))
            · first | exact Bool.noConfusion c21 | (
                try simp only [dD] at c21
                refine AWP.exit ?_
                simp only [go_sem]
                clear hK11 K11
                refine hK9 _ ?_; clear hK9 K9
                refine AWP.seqk fun K20 hK20 => ?_
                refine AWP.region ?_
                simp only [go_sem] -- region 15
                repeat' (first | (refine ACall.one (ball_c m (by omega)) (by kernel_rfl) rfl ?_; simp only [go_sem]) | (refine ACall.one (ball_c l (by omega)) (by kernel_rfl) rfl ?_; simp only [go_sem]) | (refine ACall.one (same_c (allF m) (allF l) (by have := allF_len m; omega) (by have := allF_len m; omega) (by have := allF_len m; omega)) (by kernel_rfl) rfl ?_; simp only [go_sem]) | (refine AGet.haveM (by assumption) ?_; (try simp only [go_sem])) | (refine AGet.have' (by assumption) ?_; (try simp only [go_sem])) | ((first | refine AGet.nth ?_ (fun b hb => ?_) | refine AGet.nth1 ?_ (fun b hb => ?_) | with_reducible refine And.intro ?_ ?_); (focus ((first | omega | exact List.length_pos_iff.2 (by assumption) | (simp only [List.length_append, List.length_cons, List.length_nil, List.length_map, List.length_take, List.length_drop] at *; omega) | (rw [wrap64_id (by omega) (by omega)]; omega) | (simp; done)))); (try simp only [hb, go_sem])))
                refine hK20 _ ?_; clear hK20 K20
                refine AWP.ret ?_
                try simp only [go_sem]
                first
                | exact ⟨[], .v _, rfl, rfl, rfl, rfl⟩
                | exact ⟨[], .v _, rfl, rfl, by rw [(h3.trans (by rw [List.take_of_length_le (by omega)]) : allF m = allF l)]; simp, rfl⟩
                | skip))))


end Go.Proofs.Ytlhdnenlgceeeaa
