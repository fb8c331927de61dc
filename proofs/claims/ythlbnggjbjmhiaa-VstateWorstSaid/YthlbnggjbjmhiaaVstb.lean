import Derived.Test.YthlbnggjbjmhiaaVsta
namespace Go.Proofs.Ythlbnggjbjmhiaa
open Go Go.Abs Go.RowKit
set_option linter.unusedSimpArgs false
theorem awake_c  : ACalls E 6 [] (fun r t => r = bl true ∧ t = []) := by -- checkroll/checkrolllaw18.awake
  refine ACalls.of_awp (n := 22) (rs := [.tmp 0]) Try.func6 rfl Try.ntmps6 rfl ?_
  refine AWP.seqk fun K1 hK1 => ?_
  refine AWP.region ?_
  simp only [go_sem]
  refine hK1 _ ?_; clear hK1 K1
  refine AWP.seqk fun K2 hK2 => ?_
  refine AWP.region ?_
  simp only [go_sem]
  refine hK2 _ ?_; clear hK2 K2
  refine AWP.seqk fun K3 hK3 => ?_
  refine AWP.region ?_
  simp only [go_sem]
  repeat' (first | (refine ACall.one (of_c _ _ _ _ _ _) (by kernel_rfl) rfl ?_; simp only [go_sem]) | (refine ACall.one (lets_c _ _) (by kernel_rfl) rfl ?_; simp only [go_sem]) | (refine ACall.one (name_c _) (by kernel_rfl) rfl ?_; simp only [go_sem]) | (refine AGuard.split (fun h => ?_) (fun h => ?_) <;> simp only [h, go_sem]) | (refine AGuard.splitN (fun h => ?_) (fun h => ?_) <;> simp only [h, go_sem]))
  all_goals (
    refine hK3 _ ?_; clear hK3 K3
    refine AWP.ret ?_
    simp only [go_sem]
    have e1 : ofF 5 false false 0 15 10 = 0 := by decide
    have e2 : ofF 5 false false 0 16 10 = 2 := by decide
    exact ⟨[], .v _, rfl, rfl, by first | rfl | simp_all [nameF], rfl⟩)

theorem right_c (l : Int) (g f : Bool) (b n p s : Int) (ra : Bool) : ACalls E 3 [.agg [i64 l, bl g, bl f, i64 b], i64 n, i64 p, i64 s, bl ra] (fun r t => r = bl true ∧ t = []) := by -- checkroll/checkrolllaw18.VstateRight
  refine ACalls.of_awp (n := 50) (rs := [.tmp 10]) Try.func3 rfl Try.ntmps3 rfl ?_
  refine AWP.seqk fun K1 hK1 => ?_
  refine AWP.region ?_
  simp only [go_sem]
  refine hK1 _ ?_; clear hK1 K1
  refine AWP.seqk fun K2 hK2 => ?_
  refine AWP.seqk fun K3 hK3 => ?_
  refine AWP.region ?_
  simp only [go_sem]
  repeat' (first | (refine ACall.one (awake_c ) (by kernel_rfl) rfl ?_; simp only [go_sem]))
  refine hK3 _ ?_; clear hK3 K3
  refine AWP.cond rfl (fun c13 => ?_) (fun c13 => ?_)
  · refine AWP.seqk fun K5 hK5 => ?_
    refine AWP.region ?_
    simp only [go_sem]
    refine hK5 _ ?_; clear hK5 K5
    refine AWP.ret ?_
    simp only [go_sem]
    clear hK2 K2
    exact ⟨[], .v _, rfl, rfl, by first | (simp_all [nameF]; done) | simp_all [nameF_out], rfl⟩
  · refine AWP.skip ?_
    refine hK2 _ ?_; clear hK2 K2
    refine AWP.seqk fun K6 hK6 => ?_
    refine AWP.region ?_
    simp only [go_sem]
    refine hK6 _ ?_; clear hK6 K6
    refine AWP.seqk fun K7 hK7 => ?_
    refine AWP.seqk fun K8 hK8 => ?_
    refine AWP.region ?_
    simp only [go_sem]
    repeat' (first | (refine AGuard.split (fun h => ?_) (fun h => ?_) <;> simp only [h, go_sem]) | (refine AGuard.splitN (fun h => ?_) (fun h => ?_) <;> simp only [h, go_sem]))
    all_goals (
      refine hK8 _ ?_; clear hK8 K8
      refine AWP.cond rfl (fun c19 => ?_) (fun c19 => ?_)
      · first | exact Bool.noConfusion c19 | (
          refine AWP.region ?_
          simp only [go_sem]
          obtain rfl | rfl | rfl | rfl | rfl : s = 0 ∨ s = 1 ∨ s = 2 ∨ s = 3 ∨ s = 4 := by simp at h c19; omega
          all_goals simp only [go_sem]
          all_goals (
            refine hK7 _ ?_; clear hK7 K7
            refine AWP.seqk fun K10 hK10 => ?_
            refine AWP.regionAs [0, 1, 2, 4, 5, 6, 3, 7, 8, 9, 10, 11, 13, 14, 12, 15, 16, 17, 18, 19, 20, 21, 22, 24, 23, 25, 26, 27] [[], [], [], [0, 1, 2], [], [], [], [0, 1, 2, 3, 4, 5, 6], [0, 1, 2, 3, 4, 5, 6, 7], [0, 1, 2, 3, 4, 5, 6, 7, 8], [0, 1, 2, 3, 4, 5, 6, 7, 8, 9], [0, 1, 2, 3, 4, 5, 6, 7, 8, 9], [0, 1, 2, 3, 4, 5, 6, 7, 8, 9, 10, 11], [0, 1, 2, 3, 4, 5, 6, 7, 8, 9], [0, 1, 2, 3, 4, 5, 6, 7, 8, 9, 13], [0, 1, 2, 3, 4, 5, 6, 7, 8, 9, 10, 11, 12, 13, 14], [0, 1, 2, 3, 4, 5, 6, 7, 8, 9, 10, 11, 12, 13, 14, 15], [0, 1, 2, 3, 4, 5, 6, 7, 8, 9, 10, 11, 12, 13, 14, 15, 16], [0, 1, 2, 3, 4, 5, 6, 7, 8, 9, 10, 11, 12, 13, 14, 15, 16, 17], [0, 1, 2, 3, 4, 5, 6, 7, 8, 9, 10, 11, 12, 13, 14, 15, 16, 17, 18], [0, 1, 2, 3, 4, 5, 6, 7, 8, 9, 10, 11, 12, 13, 14, 15, 16, 17, 18, 19], [0, 1, 2, 3, 4, 5, 6, 7, 8, 9, 10, 11, 12, 13, 14, 15, 16, 17, 18, 19, 20], [0, 1, 2, 3, 4, 5, 6, 7, 8, 9, 10, 11, 12, 13, 14, 15, 16, 17, 18, 19, 20, 21], [0, 1, 2, 3, 4, 5, 6, 7, 8, 9, 10, 11, 12, 13, 14, 15, 16, 17, 18, 19, 20, 21, 22], [0, 1, 2, 3, 4, 5, 6, 7, 8, 9, 10, 11, 12, 13, 14, 15, 16, 17, 18, 19, 20, 21], [0, 1, 2, 3, 4, 5, 6, 7, 8, 9, 10, 11, 12, 13, 14, 15, 16, 17, 18, 19, 20, 21, 22, 23, 24], [0, 1, 2, 3, 4, 5, 6, 7, 8, 9, 10, 11, 12, 13, 14, 15, 16, 17, 18, 19, 20, 21, 22, 23, 24, 25], [0, 1, 2, 3, 4, 5, 6, 7, 8, 9, 10, 11, 12, 13, 14, 15, 16, 17, 18, 19, 20, 21, 22, 23, 24, 25, 26]] [] (by kernel_rfl) (by kernel_rfl) (by decide) rfl ?_
            simp only [go_sem]
            repeat' (first | (refine ACall.one (of_c _ _ _ _ _ _) (by kernel_rfl) rfl ?_; simp only [go_sem]) | (refine ACall.one (rof_c _ _ _ _ _ _) (by kernel_rfl) rfl ?_; simp only [go_sem]) | (refine ACall.one (lets_c _ _) (by kernel_rfl) rfl ?_; simp only [go_sem]) | (refine ACall.one (name_c _) (by kernel_rfl) rfl ?_; simp only [go_sem]) | (refine AGuard.split (fun h => ?_) (fun h => ?_) <;> simp only [h, go_sem]) | (refine AGuard.splitN (fun h => ?_) (fun h => ?_) <;> simp only [h, go_sem]))
            all_goals (
              refine hK10 _ ?_; clear hK10 K10
              refine AWP.ret ?_
              simp only [go_sem]
              exact ⟨[], .v _, rfl, rfl, by first | (simp_all [nameF]; done) | simp_all [nameF_out], rfl⟩)))
      · first | exact Bool.noConfusion c19 | (
          refine AWP.skip ?_
          refine hK7 _ ?_; clear hK7 K7
          refine AWP.seqk fun K11 hK11 => ?_
          refine AWP.regionAs [0, 1, 2, 4, 5, 6, 3, 7, 8, 9, 10, 11, 13, 14, 12, 15, 16, 17, 18, 19, 20, 21, 22, 24, 23, 25, 26, 27] [[], [], [], [0, 1, 2], [], [], [], [0, 1, 2, 3, 4, 5, 6], [0, 1, 2, 3, 4, 5, 6, 7], [0, 1, 2, 3, 4, 5, 6, 7, 8], [0, 1, 2, 3, 4, 5, 6, 7, 8, 9], [0, 1, 2, 3, 4, 5, 6, 7, 8, 9], [0, 1, 2, 3, 4, 5, 6, 7, 8, 9, 10, 11], [0, 1, 2, 3, 4, 5, 6, 7, 8, 9], [0, 1, 2, 3, 4, 5, 6, 7, 8, 9, 13], [0, 1, 2, 3, 4, 5, 6, 7, 8, 9, 10, 11, 12, 13, 14], [0, 1, 2, 3, 4, 5, 6, 7, 8, 9, 10, 11, 12, 13, 14, 15], [0, 1, 2, 3, 4, 5, 6, 7, 8, 9, 10, 11, 12, 13, 14, 15, 16], [0, 1, 2, 3, 4, 5, 6, 7, 8, 9, 10, 11, 12, 13, 14, 15, 16, 17], [0, 1, 2, 3, 4, 5, 6, 7, 8, 9, 10, 11, 12, 13, 14, 15, 16, 17, 18], [0, 1, 2, 3, 4, 5, 6, 7, 8, 9, 10, 11, 12, 13, 14, 15, 16, 17, 18, 19], [0, 1, 2, 3, 4, 5, 6, 7, 8, 9, 10, 11, 12, 13, 14, 15, 16, 17, 18, 19, 20], [0, 1, 2, 3, 4, 5, 6, 7, 8, 9, 10, 11, 12, 13, 14, 15, 16, 17, 18, 19, 20, 21], [0, 1, 2, 3, 4, 5, 6, 7, 8, 9, 10, 11, 12, 13, 14, 15, 16, 17, 18, 19, 20, 21, 22], [0, 1, 2, 3, 4, 5, 6, 7, 8, 9, 10, 11, 12, 13, 14, 15, 16, 17, 18, 19, 20, 21], [0, 1, 2, 3, 4, 5, 6, 7, 8, 9, 10, 11, 12, 13, 14, 15, 16, 17, 18, 19, 20, 21, 22, 23, 24], [0, 1, 2, 3, 4, 5, 6, 7, 8, 9, 10, 11, 12, 13, 14, 15, 16, 17, 18, 19, 20, 21, 22, 23, 24, 25], [0, 1, 2, 3, 4, 5, 6, 7, 8, 9, 10, 11, 12, 13, 14, 15, 16, 17, 18, 19, 20, 21, 22, 23, 24, 25, 26]] [] (by kernel_rfl) (by kernel_rfl) (by decide) rfl ?_
          simp only [go_sem]
          repeat' (first | (refine ACall.one (of_c _ _ _ _ _ _) (by kernel_rfl) rfl ?_; simp only [go_sem]) | (refine ACall.one (rof_c _ _ _ _ _ _) (by kernel_rfl) rfl ?_; simp only [go_sem]) | (refine ACall.one (lets_c _ _) (by kernel_rfl) rfl ?_; simp only [go_sem]) | (refine ACall.one (name_c _) (by kernel_rfl) rfl ?_; simp only [go_sem]) | (refine AGuard.split (fun h => ?_) (fun h => ?_) <;> simp only [h, go_sem]) | (refine AGuard.splitN (fun h => ?_) (fun h => ?_) <;> simp only [h, go_sem]))
          all_goals (
            refine hK11 _ ?_; clear hK11 K11
            refine AWP.ret ?_
            simp only [go_sem]
            exact ⟨[], .v _, rfl, rfl, by first | (simp_all [nameF]; done) | simp_all [nameF_out], rfl⟩)))

end Go.Proofs.Ythlbnggjbjmhiaa
