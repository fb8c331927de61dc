import Derived.Test.YthlbnggjbjmhiaaFx
import Derived.Test.YthlbnggjbjmhiaaAbsR
namespace Go.Proofs.Ythlbnggjbjmhiaa
open Go Go.Abs Go.RowKit
set_option linter.unusedSimpArgs false
noncomputable def E : Env := ⟨Try.prog, fun _ => True, fun _ _ _ _ => trivial, fun _ => none⟩
@[go_sem] theorem E_P : E.P = Try.prog := rfl
@[go_sem] theorem E_gl : E.gl = fun _ => none := rfl

def nearF (n : Int) : Int := min (max n 0) 4611686018427387904
def nameF (s : Int) : ByteArray := if s = 0 then ⟨#[110, 111, 114, 109, 97, 108]⟩ else if s = 1 then ⟨#[104, 111, 108, 101, 115]⟩ else if s = 2 then ⟨#[115, 116, 97, 108, 101]⟩ else if s = 3 then ⟨#[112, 97, 99, 107, 101, 100]⟩ else if s = 4 then ⟨#[115, 116, 111, 112, 112, 101, 100]⟩ else ⟨#[]⟩
theorem nameF_out {s : Int} (h : s < 0 ∨ 4 < s) : nameF s = ⟨#[]⟩ := by
  unfold nameF
  rw [if_neg (by omega), if_neg (by omega), if_neg (by omega), if_neg (by omega), if_neg (by omega)]
def ofF (l : Int) (g f : Bool) (b n p : Int) : Int := if b ≠ 0 then 4 else if f then 3 else if nearF n - nearF l > nearF p then 2 else if g then 1 else 0
theorem wrap_near (a b : Int) : IntKind.i64.wrap (nearF a - nearF b) = nearF a - nearF b := wrap64_id (by unfold nearF; omega) (by unfold nearF; omega)
theorem near_nn (a : Int) : 0 ≤ nearF a := by unfold nearF; omega


theorem near_c (n : Int) : ACalls E 14 [i64 n] (fun r t => r = i64 (nearF n) ∧ t = []) := by -- checkroll/vstate.near
  refine ACalls.of_awp (n := 6) (rs := [.tmp 2]) Try.func14 rfl Try.ntmps14 rfl ?_
  refine AWP.seqk fun K1 hK1 => ?_
  refine AWP.region ?_
  simp only [go_sem]
  refine hK1 _ ?_; clear hK1 K1
  refine AWP.seqk fun K2 hK2 => ?_
  refine AWP.region ?_
  simp only [go_sem]
  refine hK2 _ ?_; clear hK2 K2
  refine AWP.ret ?_
  simp only [go_sem]
  exact ⟨[], .v _, rfl, rfl, rfl, rfl⟩

theorem rnear_c (n : Int) : ACalls E 15 [i64 n] (fun r t => r = i64 (nearF n) ∧ t = []) := by -- checkroll/checkrollref18.near
  refine ACalls.of_awp (n := 8) (rs := [.tmp 2]) Try.func15 rfl Try.ntmps15 rfl ?_
  refine AWP.seqk fun K1 hK1 => ?_
  refine AWP.region ?_
  simp only [go_sem]
  refine hK1 _ ?_; clear hK1 K1
  refine AWP.seqk fun K2 hK2 => ?_
  refine AWP.seqk fun K3 hK3 => ?_
  refine AWP.region ?_
  simp only [go_sem]
  refine hK3 _ ?_; clear hK3 K3
  refine AWP.cond rfl (fun c4 => ?_) (fun c4 => ?_)
  · refine AWP.seqk fun K5 hK5 => ?_
    refine AWP.region ?_
    simp only [go_sem]
    refine hK5 _ ?_; clear hK5 K5
    refine AWP.ret ?_
    simp only [go_sem]
    clear hK2 K2
    exact ⟨[], .v _, rfl, rfl, by simp only [decide_eq_true_eq, decide_eq_false_iff_not] at *; simp only [nearF]; congr 2; omega, rfl⟩
  · refine AWP.skip ?_
    refine hK2 _ ?_; clear hK2 K2
    refine AWP.seqk fun K6 hK6 => ?_
    refine AWP.seqk fun K7 hK7 => ?_
    refine AWP.region ?_
    simp only [go_sem]
    refine hK7 _ ?_; clear hK7 K7
    refine AWP.cond rfl (fun c6 => ?_) (fun c6 => ?_)
    · refine AWP.seqk fun K9 hK9 => ?_
      refine AWP.region ?_
      simp only [go_sem]
      refine hK9 _ ?_; clear hK9 K9
      refine AWP.ret ?_
      simp only [go_sem]
      clear hK6 K6
      exact ⟨[], .v _, rfl, rfl, by simp only [decide_eq_true_eq, decide_eq_false_iff_not] at *; simp only [nearF]; congr 2; omega, rfl⟩
    · refine AWP.skip ?_
      refine hK6 _ ?_; clear hK6 K6
      refine AWP.seqk fun K10 hK10 => ?_
      refine AWP.region ?_
      simp only [go_sem]
      refine hK10 _ ?_; clear hK10 K10
      refine AWP.ret ?_
      simp only [go_sem]
      exact ⟨[], .v _, rfl, rfl, by simp only [decide_eq_true_eq, decide_eq_false_iff_not] at *; simp only [nearF]; congr 2; omega, rfl⟩

theorem lets_c (s : Int) (b : Bool) : ACalls E 9 [i64 s, bl b] (fun r t => r = bl (!b || decide (s = 0)) ∧ t = []) := by -- checkroll/vstate.Lets
  refine ACalls.of_awp (n := 11) (rs := [.tmp 4]) Try.func9 rfl Try.ntmps9 rfl ?_
  refine AWP.seqk fun K1 hK1 => ?_
  refine AWP.region ?_
  simp only [go_sem]
  refine hK1 _ ?_; clear hK1 K1
  refine AWP.seqk fun K2 hK2 => ?_
  refine AWP.region ?_
  simp only [go_sem]
  repeat' (first | (refine AGuard.split (fun h => ?_) (fun h => ?_) <;> simp only [h, go_sem]) | (refine AGuard.splitN (fun h => ?_) (fun h => ?_) <;> simp only [h, go_sem]))
  all_goals (
    refine hK2 _ ?_; clear hK2 K2
    refine AWP.ret ?_
    simp only [go_sem]
    exact ⟨[], .v _, rfl, rfl, by simp_all, rfl⟩)

theorem name_c (s : Int) : ACalls E 10 [i64 s] (fun r t => r = .v (.string (nameF s)) ∧ t = []) := by -- checkroll/vstate.Name
  refine ACalls.of_awp (n := 14) (rs := [.tmp 2]) Try.func10 rfl Try.ntmps10 rfl ?_
  refine AWP.seqk fun K1 hK1 => ?_
  refine AWP.region ?_
  simp only [go_sem]
  refine hK1 _ ?_; clear hK1 K1
  refine AWP.seqk fun K2 hK2 => ?_
  refine AWP.seqk fun K3 hK3 => ?_
  refine AWP.region ?_
  simp only [go_sem]
  refine hK3 _ ?_; clear hK3 K3
  refine AWP.block ?_ -- 0
  refine AWP.seqk fun K4 hK4 => ?_
  refine AWP.region ?_
  simp only [go_sem]
  refine hK4 _ ?_; clear hK4 K4
  refine AWP.cond rfl (fun c4 => ?_) (fun c4 => ?_)
  · refine AWP.seqk fun K6 hK6 => ?_
    refine AWP.region ?_
    simp only [go_sem]
    refine hK6 _ ?_; clear hK6 K6
    refine AWP.ret ?_
    simp only [go_sem]
    clear hK2 K2
    exact ⟨[], .v _, rfl, rfl, by simp_all [nameF], rfl⟩
  · refine AWP.seqk fun K7 hK7 => ?_
    refine AWP.region ?_
    simp only [go_sem]
    refine hK7 _ ?_; clear hK7 K7
    refine AWP.cond rfl (fun c6 => ?_) (fun c6 => ?_)
    · refine AWP.seqk fun K9 hK9 => ?_
      refine AWP.region ?_
      simp only [go_sem]
      refine hK9 _ ?_; clear hK9 K9
      refine AWP.ret ?_
      simp only [go_sem]
      clear hK2 K2
      exact ⟨[], .v _, rfl, rfl, by simp_all [nameF], rfl⟩
    · refine AWP.seqk fun K10 hK10 => ?_
      refine AWP.region ?_
      simp only [go_sem]
      refine hK10 _ ?_; clear hK10 K10
      refine AWP.cond rfl (fun c8 => ?_) (fun c8 => ?_)
      · refine AWP.seqk fun K12 hK12 => ?_
        refine AWP.region ?_
        simp only [go_sem]
        refine hK12 _ ?_; clear hK12 K12
        refine AWP.ret ?_
        simp only [go_sem]
        clear hK2 K2
        exact ⟨[], .v _, rfl, rfl, by simp_all [nameF], rfl⟩
      · refine AWP.seqk fun K13 hK13 => ?_
        refine AWP.region ?_
        simp only [go_sem]
        refine hK13 _ ?_; clear hK13 K13
        refine AWP.cond rfl (fun c10 => ?_) (fun c10 => ?_)
        · refine AWP.seqk fun K15 hK15 => ?_
          refine AWP.region ?_
          simp only [go_sem]
          refine hK15 _ ?_; clear hK15 K15
          refine AWP.ret ?_
          simp only [go_sem]
          clear hK2 K2
          exact ⟨[], .v _, rfl, rfl, by simp_all [nameF], rfl⟩
        · refine AWP.seqk fun K16 hK16 => ?_
          refine AWP.region ?_
          simp only [go_sem]
          refine hK16 _ ?_; clear hK16 K16
          refine AWP.cond rfl (fun c12 => ?_) (fun c12 => ?_)
          · refine AWP.seqk fun K18 hK18 => ?_
            refine AWP.region ?_
            simp only [go_sem]
            refine hK18 _ ?_; clear hK18 K18
            refine AWP.ret ?_
            simp only [go_sem]
            clear hK2 K2
            exact ⟨[], .v _, rfl, rfl, by simp_all [nameF], rfl⟩
          · refine AWP.skip ?_
            refine hK2 _ ?_; clear hK2 K2
            refine AWP.seqk fun K19 hK19 => ?_
            refine AWP.region ?_
            simp only [go_sem]
            refine hK19 _ ?_; clear hK19 K19
            refine AWP.ret ?_
            simp only [go_sem]
            exact ⟨[], .v _, rfl, rfl, by simp_all [nameF], rfl⟩

theorem of_c (l : Int) (g f : Bool) (b n p : Int) : ACalls E 7 [.agg [i64 l, bl g, bl f, i64 b], i64 n, i64 p] (fun r t => r = i64 (ofF l g f b n p) ∧ t = []) := by -- checkroll/vstate.Of
  refine ACalls.of_awp (n := 37) (rs := [.tmp 6]) Try.func7 rfl Try.ntmps7 rfl ?_
  refine AWP.seqk fun K1 hK1 => ?_
  refine AWP.region ?_
  simp only [go_sem]
  refine hK1 _ ?_; clear hK1 K1
  refine AWP.seqk fun K2 hK2 => ?_
  refine AWP.region ?_
  simp only [go_sem]
  refine hK2 _ ?_; clear hK2 K2
  refine AWP.seqk fun K3 hK3 => ?_
  refine AWP.region ?_
  simp only [go_sem]
  refine hK3 _ ?_; clear hK3 K3
  refine AWP.seqk fun K4 hK4 => ?_
  refine AWP.region ?_
  simp only [go_sem]
  refine hK4 _ ?_; clear hK4 K4
  refine AWP.seqk fun K5 hK5 => ?_
  refine AWP.regionAs [0, 2, 3, 6, 1, 4, 5, 7, 8, 9, 10] [[], [0], [], [2], [0, 1, 2, 3], [0, 1, 2, 3, 4], [], [0, 1, 2, 3, 4, 6], [0, 1, 2, 3, 4, 5, 6, 7], [0, 1, 2, 3, 4, 5, 6, 7, 8], [0, 1, 2, 3, 4, 5, 6, 7, 8, 9]] [] (by kernel_rfl) (by kernel_rfl) (by decide) rfl ?_
  simp only [go_sem]
  repeat' (first | (refine ACall.one (near_c _) (by kernel_rfl) rfl ?_; simp only [go_sem]))
  refine hK5 _ ?_; clear hK5 K5
  refine AWP.seqk fun K6 hK6 => ?_
  refine AWP.region ?_
  simp only [go_sem]
  refine hK6 _ ?_; clear hK6 K6
  refine AWP.seqk fun K7 hK7 => ?_
  refine AWP.seqk fun K8 hK8 => ?_
  refine AWP.region ?_
  simp only [go_sem]
  refine hK8 _ ?_; clear hK8 K8
  refine AWP.block ?_ -- 0
  refine AWP.loopH [29, 30, 31, 32, 33, 34, 35, 36] (fun i : Nat => [(8, i64 i)]) (fun i => i ≤ 4 ∧ (i ≤ 3 → b = 0) ∧ (i ≤ 2 → f = false) ∧ (i ≤ 1 → ¬ nearF p < IntKind.i64.wrap (nearF n - nearF l)) ∧ (i ≤ 0 → g = false)) (fun i => i) 4 ?_ ?_ ?_
  · simp only [go_sem]; simp
  · simp
  rintro i ⟨hi, h3, h2, h1, h0⟩
  simp only [go_sem]
  refine AWP.seqk fun K9 hK9 => ?_
  refine AWP.seqk fun K10 hK10 => ?_
  refine AWP.region ?_
  simp only [go_sem]
  refine hK10 _ ?_; clear hK10 K10
  refine AWP.cond rfl (fun c30 => ?_) (fun c30 => ?_)
  · refine AWP.skip ?_
    refine hK9 _ ?_; clear hK9 K9
    refine AWP.seqk fun K12 hK12 => ?_
    refine AWP.block ?_ -- 1
    refine AWP.seqk fun K13 hK13 => ?_
    refine AWP.region ?_
    simp only [go_sem]
    obtain rfl | rfl | rfl | rfl : i = 1 ∨ i = 2 ∨ i = 3 ∨ i = 4 := by simp at c30; omega
    all_goals simp only [go_sem]
    all_goals (
      refine hK13 _ ?_; clear hK13 K13
      refine AWP.cond rfl (fun c35 => ?_) (fun c35 => ?_)
      · first | exact Bool.noConfusion c35 | (
          refine AWP.seqk fun K15 hK15 => ?_
          refine AWP.region ?_
          simp only [go_sem]
          refine hK15 _ ?_; clear hK15 K15
          refine AWP.ret ?_
          simp only [go_sem]
          clear hK12 K12 hK7 K7
          exact ⟨[], .v _, rfl, rfl, by simp_all [ofF, wrap_near] <;> omega, rfl⟩)
      · first | exact Bool.noConfusion c35 | (
          refine AWP.skip ?_
          refine hK12 _ ?_; clear hK12 K12
          refine AWP.region ?_
          simp only [go_sem]
          clear hK7 K7
          first | (refine ⟨0, ?_, ?_, ?_⟩ <;> first | omega | (simp_all; done) | (simp only [go_sem]; simp; done) | (simp only [go_sem]; simp; rfl)) | (refine ⟨1, ?_, ?_, ?_⟩ <;> first | omega | (simp_all; done) | (simp only [go_sem]; simp; done) | (simp only [go_sem]; simp; rfl)) | (refine ⟨2, ?_, ?_, ?_⟩ <;> first | omega | (simp_all; done) | (simp only [go_sem]; simp; done) | (simp only [go_sem]; simp; rfl)) | (refine ⟨3, ?_, ?_, ?_⟩ <;> first | omega | (simp_all; done) | (simp only [go_sem]; simp; done) | (simp only [go_sem]; simp; rfl))))
  · refine AWP.exit ?_
    simp only [go_sem]
    clear hK9 K9
    refine hK7 _ ?_; clear hK7 K7
    refine AWP.seqk fun K16 hK16 => ?_
    refine AWP.region ?_
    simp only [go_sem]
    refine hK16 _ ?_; clear hK16 K16
    refine AWP.ret ?_
    simp only [go_sem]
    exact ⟨[], .v _, rfl, rfl, by simp_all [ofF, wrap_near] <;> omega, rfl⟩

theorem rof_c (l : Int) (g f : Bool) (b n p : Int) : ACalls E 8 [.agg [i64 l, bl g, bl f, i64 b], i64 n, i64 p] (fun r t => r = i64 (ofF l g f b n p) ∧ t = []) := by -- checkroll/checkrollref18.Of
  refine ACalls.of_awp (n := 31) (rs := [.tmp 6]) Try.func8 rfl Try.ntmps8 rfl ?_
  refine AWP.seqk fun K1 hK1 => ?_
  refine AWP.region ?_
  simp only [go_sem]
  refine hK1 _ ?_; clear hK1 K1
  refine AWP.seqk fun K2 hK2 => ?_
  refine AWP.seqk fun K3 hK3 => ?_
  refine AWP.region ?_
  simp only [go_sem]
  refine hK3 _ ?_; clear hK3 K3
  refine AWP.cond rfl (fun c9 => ?_) (fun c9 => ?_)
  · refine AWP.seqk fun K5 hK5 => ?_
    refine AWP.region ?_
    simp only [go_sem]
    refine hK5 _ ?_; clear hK5 K5
    refine AWP.ret ?_
    simp only [go_sem]
    clear hK2 K2
    have := near_nn p; exact ⟨[], .v _, rfl, rfl, by simp_all [ofF, wrap_near] <;> omega, rfl⟩
  · refine AWP.skip ?_
    refine hK2 _ ?_; clear hK2 K2
    refine AWP.seqk fun K6 hK6 => ?_
    refine AWP.seqk fun K7 hK7 => ?_
    refine AWP.region ?_
    simp only [go_sem]
    refine hK7 _ ?_; clear hK7 K7
    refine AWP.cond rfl (fun c11 => ?_) (fun c11 => ?_)
    · refine AWP.seqk fun K9 hK9 => ?_
      refine AWP.region ?_
      simp only [go_sem]
      refine hK9 _ ?_; clear hK9 K9
      refine AWP.ret ?_
      simp only [go_sem]
      clear hK6 K6
      have := near_nn p; exact ⟨[], .v _, rfl, rfl, by simp_all [ofF, wrap_near] <;> omega, rfl⟩
    · refine AWP.skip ?_
      refine hK6 _ ?_; clear hK6 K6
      refine AWP.seqk fun K10 hK10 => ?_
      refine AWP.seqk fun K11 hK11 => ?_
      refine AWP.regionAs [0, 2, 3, 1, 4, 5, 6, 7, 9, 10, 13, 8, 11, 12, 14, 15, 16] [[], [0], [], [2], [0, 1, 2, 3], [0, 1, 2, 3, 4], [0, 1, 2, 3, 4, 5], [0, 1, 2, 3, 4, 5, 6], [0, 1, 2, 3, 4, 5, 6, 7], [0, 1, 2, 3, 4, 5, 6], [0, 1, 2, 3, 4, 5, 6, 9], [0, 1, 2, 3, 4, 5, 6, 7, 8, 9, 10], [0, 1, 2, 3, 4, 5, 6, 7, 8, 9, 10, 11], [0, 1, 2, 3, 4, 5, 6], [0, 1, 2, 3, 4, 5, 6, 7, 8, 9, 10, 11, 13], [0, 1, 2, 3, 4, 5, 6, 7, 8, 9, 10, 11, 12, 13, 14], [0, 1, 2, 3, 4, 5, 6, 7, 8, 9, 10, 11, 12, 13, 14, 15]] [] (by kernel_rfl) (by kernel_rfl) (by decide) rfl ?_
      simp only [go_sem]
      repeat' (first | (refine ACall.one (rnear_c _) (by kernel_rfl) rfl ?_; simp only [go_sem]) | (refine AGuard.split (fun h => ?_) (fun h => ?_) <;> simp only [h, go_sem]) | (refine AGuard.splitN (fun h => ?_) (fun h => ?_) <;> simp only [h, go_sem]))
      all_goals (
        refine hK11 _ ?_; clear hK11 K11
        refine AWP.cond rfl (fun c28 => ?_) (fun c28 => ?_)
        · first | exact Bool.noConfusion c28 | (
            refine AWP.seqk fun K13 hK13 => ?_
            refine AWP.region ?_
            simp only [go_sem]
            refine hK13 _ ?_; clear hK13 K13
            refine AWP.ret ?_
            simp only [go_sem]
            clear hK10 K10
            have := near_nn p; exact ⟨[], .v _, rfl, rfl, by simp_all [ofF, wrap_near] <;> omega, rfl⟩)
        · first | exact Bool.noConfusion c28 | (
            refine AWP.skip ?_
            refine hK10 _ ?_; clear hK10 K10
            refine AWP.seqk fun K14 hK14 => ?_
            refine AWP.seqk fun K15 hK15 => ?_
            refine AWP.region ?_
            simp only [go_sem]
            refine hK15 _ ?_; clear hK15 K15
            refine AWP.cond rfl (fun c30 => ?_) (fun c30 => ?_)
            · first | exact Bool.noConfusion c30 | (
                refine AWP.seqk fun K17 hK17 => ?_
                refine AWP.region ?_
                simp only [go_sem]
                refine hK17 _ ?_; clear hK17 K17
                refine AWP.ret ?_
                simp only [go_sem]
                clear hK14 K14
                have := near_nn p; exact ⟨[], .v _, rfl, rfl, by simp_all [ofF, wrap_near] <;> omega, rfl⟩)
            · first | exact Bool.noConfusion c30 | (
                refine AWP.skip ?_
                refine hK14 _ ?_; clear hK14 K14
                refine AWP.seqk fun K18 hK18 => ?_
                refine AWP.region ?_
                simp only [go_sem]
                refine hK18 _ ?_; clear hK18 K18
                refine AWP.ret ?_
                simp only [go_sem]
                have := near_nn p; exact ⟨[], .v _, rfl, rfl, by simp_all [ofF, wrap_near] <;> omega, rfl⟩)))

end Go.Proofs.Ythlbnggjbjmhiaa
