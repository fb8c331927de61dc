import Derived.Test.YthlbnggjbjmhiaaVstb
namespace Go.Proofs.Ythlbnggjbjmhiaa
open Go Go.Abs Go.RowKit
set_option linter.unusedSimpArgs false
theorem worst1 (l : Int) (g f : Bool) (b n p : Int) : decide (ofF l true f b n p < ofF l g f b n p) = false := by
  apply decide_eq_false
  unfold ofF
  (repeat' split) <;> simp_all
theorem worst2 (l : Int) (g f : Bool) (b n p : Int) : decide (ofF l g true b n p < ofF l g f b n p) = false := by
  apply decide_eq_false
  unfold ofF
  (repeat' split) <;> simp_all
theorem worst3 (l : Int) (g f : Bool) (n p : Int) : decide (ofF l g f 1 n p = 4) = true := by
  apply decide_eq_true
  simp [ofF]
theorem near_mono {a b : Int} (h : a ≤ b) : nearF a ≤ nearF b := by unfold nearF; omega
theorem worst4 (l : Int) (g f : Bool) (b n m p : Int) (hn : 0 ≤ n ∧ n < 4294967296) (hm : 0 ≤ m ∧ m < 65536) : decide (ofF l g f b (IntKind.i64.wrap (IntKind.i64.wrap n + IntKind.i64.wrap m)) p < ofF l g f b (IntKind.i64.wrap n) p) = false := by
  rw [wrap64_id (x := n) (by omega) (by omega), wrap64_id (x := m) (by omega) (by omega), wrap64_id (x := n + m) (by omega) (by omega)]
  have h1 : nearF n ≤ nearF (n + m) := near_mono (by omega)
  apply decide_eq_false
  unfold ofF
  (repeat' split) <;> first | omega | simp_all
theorem worst5 (g f : Bool) (b n p : Int) : decide (ofF n g f b n p = 2) = false := by
  have := near_nn p
  apply decide_eq_false
  unfold ofF
  (repeat' split) <;> first | omega | simp_all
theorem worst6 (g f : Bool) (b n m p : Int) (hn : 0 ≤ n ∧ n < 4294967296) (hm : 0 ≤ m ∧ m < 65536) (hp : 0 ≤ p ∧ p < 65536) (h : decide (IntKind.i64.wrap p < IntKind.i64.wrap m) = false) :
    decide (ofF (IntKind.i64.wrap n) g f b (IntKind.i64.wrap (IntKind.i64.wrap n + IntKind.i64.wrap m)) (IntKind.i64.wrap p) = 2) = false := by
  have h := of_decide_eq_false h
  rw [wrap64_id (x := p) (by omega) (by omega), wrap64_id (x := m) (by omega) (by omega)] at h
  rw [wrap64_id (x := n) (by omega) (by omega), wrap64_id (x := m) (by omega) (by omega), wrap64_id (x := n + m) (by omega) (by omega), wrap64_id (x := p) (by omega) (by omega)]
  have h1 : nearF (n + m) - nearF n ≤ nearF p := by unfold nearF; omega
  apply decide_eq_false
  unfold ofF
  (repeat' split) <;> first | omega | simp_all

set_option maxHeartbeats 2000000 in
theorem worst_c (l : Int) (g f : Bool) (b n m p : Int) (hn : 0 ≤ n ∧ n < 4294967296) (hm : 0 ≤ m ∧ m < 65536) (hp : 0 ≤ p ∧ p < 65536) : ACalls E 4 [.agg [i64 l, bl g, bl f, i64 b], .v (.int .u32 n), .v (.int .u16 m), .v (.int .u16 p)] (fun r t => r = bl true ∧ t = []) := by -- checkroll/checkrolllaw18.VstateWorst
  refine ACalls.of_awp (n := 90) (rs := [.tmp 8]) Try.func4 rfl Try.ntmps4 rfl ?_
  refine AWP.seqk fun K1 hK1 => ?_
  refine AWP.region ?_
  simp only [go_sem]
  refine hK1 _ ?_; clear hK1 K1
  refine AWP.seqk fun K2 hK2 => ?_
  refine AWP.seqk fun K3 hK3 => ?_
  refine AWP.region ?_
  simp only [go_sem]
  repeat' (first | (refine ACall.one (awake_c ) (by kernel_rfl) rfl ?_; simp only [go_sem]))
  refine hK3 _ ?_; clear hK3 K3
  refine AWP.cond rfl (fun c18 => ?_) (fun c18 => ?_)
  · refine AWP.seqk fun K5 hK5 => ?_
    refine AWP.region ?_
    simp only [go_sem]
    refine hK5 _ ?_; clear hK5 K5
    refine AWP.ret ?_
    simp only [go_sem]
    clear hK2 K2
    have e1 := worst1 l g f b (IntKind.i64.wrap n) (IntKind.i64.wrap p)
    have e2 := worst2 l g f b (IntKind.i64.wrap n) (IntKind.i64.wrap p)
    have e3 := worst3 l g f (IntKind.i64.wrap n) (IntKind.i64.wrap p)
    have e4 := worst4 l g f b n m (IntKind.i64.wrap p) hn hm
    have e5 := worst5 g f b (IntKind.i64.wrap n) (IntKind.i64.wrap p)
    have e6 := worst6 g f b n m p hn hm hp
    exact ⟨[], .v _, rfl, rfl, by clear hn hm hp; first | (simp only [Bool.false_eq_true] at c18; done) | (simp_all; done), rfl⟩
  · refine AWP.skip ?_
    refine hK2 _ ?_; clear hK2 K2
    refine AWP.seqk fun K6 hK6 => ?_
    refine AWP.region ?_
    simp only [go_sem]
    refine hK6 _ ?_; clear hK6 K6
    refine AWP.seqk fun K7 hK7 => ?_
    refine AWP.region ?_
    simp only [go_sem]
    repeat' (first | (refine ACall.one (of_c _ _ _ _ _ _) (by kernel_rfl) rfl ?_; simp only [go_sem]))
    refine hK7 _ ?_; clear hK7 K7
    refine AWP.seqk fun K8 hK8 => ?_
    refine AWP.region ?_
    simp only [go_sem]
    repeat' (first | (refine ACall.one (of_c _ _ _ _ _ _) (by kernel_rfl) rfl ?_; simp only [go_sem]))
    refine hK8 _ ?_; clear hK8 K8
    refine AWP.seqk fun K9 hK9 => ?_
    refine AWP.regionAny (.take 0 (.fork (.alt 1 (.fork (.alt 2 (.fork (.alt 3 (.fork (.alt 4 (.take 5 (.take 6 (.take 7 (.take 8 .done)))) (.alt 5 (.take 4 (.take 6 (.take 7 (.take 8 .done)))) .ends))) (.alt 4 (.fork (.alt 3 (.take 5 (.take 6 (.take 7 (.take 8 .done)))) (.alt 5 (.take 3 (.take 6 (.take 7 (.take 8 .done)))) .ends))) (.alt 5 (.fork (.alt 3 (.take 4 (.take 6 (.take 7 (.take 8 .done)))) (.alt 4 (.take 3 (.take 6 (.take 7 (.take 8 .done)))) .ends))) .ends)))) (.alt 3 (.fork (.alt 2 (.fork (.alt 4 (.take 5 (.take 6 (.take 7 (.take 8 .done)))) (.alt 5 (.take 4 (.take 6 (.take 7 (.take 8 .done)))) .ends))) (.alt 4 (.fork (.alt 2 (.take 5 (.take 6 (.take 7 (.take 8 .done)))) (.alt 5 (.fork (.alt 2 (.take 6 (.take 7 (.take 8 .done))) (.alt 6 (.fork (.alt 2 (.take 7 (.take 8 .done)) (.alt 7 (.take 2 (.take 8 .done)) .ends))) .ends))) .ends))) (.alt 5 (.fork (.alt 2 (.take 4 (.take 6 (.take 7 (.take 8 .done)))) (.alt 4 (.fork (.alt 2 (.take 6 (.take 7 (.take 8 .done))) (.alt 6 (.fork (.alt 2 (.take 7 (.take 8 .done)) (.alt 7 (.take 2 (.take 8 .done)) .ends))) .ends))) .ends))) .ends)))) (.alt 4 (.fork (.alt 2 (.fork (.alt 3 (.take 5 (.take 6 (.take 7 (.take 8 .done)))) (.alt 5 (.take 3 (.take 6 (.take 7 (.take 8 .done)))) .ends))) (.alt 3 (.fork (.alt 2 (.take 5 (.take 6 (.take 7 (.take 8 .done)))) (.alt 5 (.fork (.alt 2 (.take 6 (.take 7 (.take 8 .done))) (.alt 6 (.fork (.alt 2 (.take 7 (.take 8 .done)) (.alt 7 (.take 2 (.take 8 .done)) .ends))) .ends))) .ends))) (.alt 5 (.fork (.alt 2 (.take 3 (.take 6 (.take 7 (.take 8 .done)))) (.alt 3 (.fork (.alt 2 (.take 6 (.take 7 (.take 8 .done))) (.alt 6 (.fork (.alt 2 (.take 7 (.take 8 .done)) (.alt 7 (.take 2 (.take 8 .done)) .ends))) .ends))) .ends))) .ends)))) (.alt 5 (.fork (.alt 2 (.fork (.alt 3 (.take 4 (.take 6 (.take 7 (.take 8 .done)))) (.alt 4 (.take 3 (.take 6 (.take 7 (.take 8 .done)))) .ends))) (.alt 3 (.fork (.alt 2 (.take 4 (.take 6 (.take 7 (.take 8 .done)))) (.alt 4 (.fork (.alt 2 (.take 6 (.take 7 (.take 8 .done))) (.alt 6 (.fork (.alt 2 (.take 7 (.take 8 .done)) (.alt 7 (.take 2 (.take 8 .done)) .ends))) .ends))) .ends))) (.alt 4 (.fork (.alt 2 (.take 3 (.take 6 (.take 7 (.take 8 .done)))) (.alt 3 (.fork (.alt 2 (.take 6 (.take 7 (.take 8 .done))) (.alt 6 (.fork (.alt 2 (.take 7 (.take 8 .done)) (.alt 7 (.take 2 (.take 8 .done)) .ends))) .ends))) .ends))) .ends)))) .ends))))) (.alt 2 (.fork (.alt 1 (.fork (.alt 3 (.fork (.alt 4 (.take 5 (.take 6 (.take 7 (.take 8 .done)))) (.alt 5 (.take 4 (.take 6 (.take 7 (.take 8 .done)))) .ends))) (.alt 4 (.fork (.alt 3 (.take 5 (.take 6 (.take 7 (.take 8 .done)))) (.alt 5 (.take 3 (.take 6 (.take 7 (.take 8 .done)))) .ends))) (.alt 5 (.fork (.alt 3 (.take 4 (.take 6 (.take 7 (.take 8 .done)))) (.alt 4 (.take 3 (.take 6 (.take 7 (.take 8 .done)))) .ends))) .ends)))) (.alt 3 (.fork (.alt 1 (.fork (.alt 4 (.take 5 (.take 6 (.take 7 (.take 8 .done)))) (.alt 5 (.take 4 (.take 6 (.take 7 (.take 8 .done)))) .ends))) (.alt 4 (.fork (.alt 1 (.take 5 (.take 6 (.take 7 (.take 8 .done)))) (.alt 5 (.fork (.alt 1 (.take 6 (.take 7 (.take 8 .done))) (.alt 6 (.take 1 (.take 7 (.take 8 .done))) .ends))) .ends))) (.alt 5 (.fork (.alt 1 (.take 4 (.take 6 (.take 7 (.take 8 .done)))) (.alt 4 (.fork (.alt 1 (.take 6 (.take 7 (.take 8 .done))) (.alt 6 (.take 1 (.take 7 (.take 8 .done))) .ends))) .ends))) .ends)))) (.alt 4 (.fork (.alt 1 (.fork (.alt 3 (.take 5 (.take 6 (.take 7 (.take 8 .done)))) (.alt 5 (.take 3 (.take 6 (.take 7 (.take 8 .done)))) .ends))) (.alt 3 (.fork (.alt 1 (.take 5 (.take 6 (.take 7 (.take 8 .done)))) (.alt 5 (.fork (.alt 1 (.take 6 (.take 7 (.take 8 .done))) (.alt 6 (.take 1 (.take 7 (.take 8 .done))) .ends))) .ends))) (.alt 5 (.fork (.alt 1 (.take 3 (.take 6 (.take 7 (.take 8 .done)))) (.alt 3 (.fork (.alt 1 (.take 6 (.take 7 (.take 8 .done))) (.alt 6 (.take 1 (.take 7 (.take 8 .done))) .ends))) .ends))) .ends)))) (.alt 5 (.fork (.alt 1 (.fork (.alt 3 (.take 4 (.take 6 (.take 7 (.take 8 .done)))) (.alt 4 (.take 3 (.take 6 (.take 7 (.take 8 .done)))) .ends))) (.alt 3 (.fork (.alt 1 (.take 4 (.take 6 (.take 7 (.take 8 .done)))) (.alt 4 (.fork (.alt 1 (.take 6 (.take 7 (.take 8 .done))) (.alt 6 (.take 1 (.take 7 (.take 8 .done))) .ends))) .ends))) (.alt 4 (.fork (.alt 1 (.take 3 (.take 6 (.take 7 (.take 8 .done)))) (.alt 3 (.fork (.alt 1 (.take 6 (.take 7 (.take 8 .done))) (.alt 6 (.take 1 (.take 7 (.take 8 .done))) .ends))) .ends))) .ends)))) .ends))))) (.alt 3 (.fork (.alt 1 (.fork (.alt 2 (.fork (.alt 4 (.take 5 (.take 6 (.take 7 (.take 8 .done)))) (.alt 5 (.take 4 (.take 6 (.take 7 (.take 8 .done)))) .ends))) (.alt 4 (.fork (.alt 2 (.take 5 (.take 6 (.take 7 (.take 8 .done)))) (.alt 5 (.fork (.alt 2 (.take 6 (.take 7 (.take 8 .done))) (.alt 6 (.fork (.alt 2 (.take 7 (.take 8 .done)) (.alt 7 (.take 2 (.take 8 .done)) .ends))) .ends))) .ends))) (.alt 5 (.fork (.alt 2 (.take 4 (.take 6 (.take 7 (.take 8 .done)))) (.alt 4 (.fork (.alt 2 (.take 6 (.take 7 (.take 8 .done))) (.alt 6 (.fork (.alt 2 (.take 7 (.take 8 .done)) (.alt 7 (.take 2 (.take 8 .done)) .ends))) .ends))) .ends))) .ends)))) (.alt 2 (.fork (.alt 1 (.fork (.alt 4 (.take 5 (.take 6 (.take 7 (.take 8 .done)))) (.alt 5 (.take 4 (.take 6 (.take 7 (.take 8 .done)))) .ends))) (.alt 4 (.fork (.alt 1 (.take 5 (.take 6 (.take 7 (.take 8 .done)))) (.alt 5 (.fork (.alt 1 (.take 6 (.take 7 (.take 8 .done))) (.alt 6 (.take 1 (.take 7 (.take 8 .done))) .ends))) .ends))) (.alt 5 (.fork (.alt 1 (.take 4 (.take 6 (.take 7 (.take 8 .done)))) (.alt 4 (.fork (.alt 1 (.take 6 (.take 7 (.take 8 .done))) (.alt 6 (.take 1 (.take 7 (.take 8 .done))) .ends))) .ends))) .ends)))) (.alt 4 (.fork (.alt 1 (.fork (.alt 2 (.take 5 (.take 6 (.take 7 (.take 8 .done)))) (.alt 5 (.fork (.alt 2 (.take 6 (.take 7 (.take 8 .done))) (.alt 6 (.fork (.alt 2 (.take 7 (.take 8 .done)) (.alt 7 (.take 2 (.take 8 .done)) .ends))) .ends))) .ends))) (.alt 2 (.fork (.alt 1 (.take 5 (.take 6 (.take 7 (.take 8 .done)))) (.alt 5 (.fork (.alt 1 (.take 6 (.take 7 (.take 8 .done))) (.alt 6 (.take 1 (.take 7 (.take 8 .done))) .ends))) .ends))) (.alt 5 (.fork (.alt 1 (.fork (.alt 2 (.take 6 (.take 7 (.take 8 .done))) (.alt 6 (.fork (.alt 2 (.take 7 (.take 8 .done)) (.alt 7 (.take 2 (.take 8 .done)) .ends))) .ends))) (.alt 2 (.fork (.alt 1 (.take 6 (.take 7 (.take 8 .done))) (.alt 6 (.take 1 (.take 7 (.take 8 .done))) .ends))) (.alt 6 (.take 1 (.fork (.alt 2 (.take 7 (.take 8 .done)) (.alt 7 (.take 2 (.take 8 .done)) .ends)))) .ends)))) .ends)))) (.alt 5 (.fork (.alt 1 (.fork (.alt 2 (.take 4 (.take 6 (.take 7 (.take 8 .done)))) (.alt 4 (.fork (.alt 2 (.take 6 (.take 7 (.take 8 .done))) (.alt 6 (.fork (.alt 2 (.take 7 (.take 8 .done)) (.alt 7 (.take 2 (.take 8 .done)) .ends))) .ends))) .ends))) (.alt 2 (.fork (.alt 1 (.take 4 (.take 6 (.take 7 (.take 8 .done)))) (.alt 4 (.fork (.alt 1 (.take 6 (.take 7 (.take 8 .done))) (.alt 6 (.take 1 (.take 7 (.take 8 .done))) .ends))) .ends))) (.alt 4 (.fork (.alt 1 (.fork (.alt 2 (.take 6 (.take 7 (.take 8 .done))) (.alt 6 (.fork (.alt 2 (.take 7 (.take 8 .done)) (.alt 7 (.take 2 (.take 8 .done)) .ends))) .ends))) (.alt 2 (.fork (.alt 1 (.take 6 (.take 7 (.take 8 .done))) (.alt 6 (.take 1 (.take 7 (.take 8 .done))) .ends))) (.alt 6 (.take 1 (.fork (.alt 2 (.take 7 (.take 8 .done)) (.alt 7 (.take 2 (.take 8 .done)) .ends)))) .ends)))) .ends)))) .ends))))) (.alt 4 (.fork (.alt 1 (.fork (.alt 2 (.fork (.alt 3 (.take 5 (.take 6 (.take 7 (.take 8 .done)))) (.alt 5 (.take 3 (.take 6 (.take 7 (.take 8 .done)))) .ends))) (.alt 3 (.fork (.alt 2 (.take 5 (.take 6 (.take 7 (.take 8 .done)))) (.alt 5 (.fork (.alt 2 (.take 6 (.take 7 (.take 8 .done))) (.alt 6 (.fork (.alt 2 (.take 7 (.take 8 .done)) (.alt 7 (.take 2 (.take 8 .done)) .ends))) .ends))) .ends))) (.alt 5 (.fork (.alt 2 (.take 3 (.take 6 (.take 7 (.take 8 .done)))) (.alt 3 (.fork (.alt 2 (.take 6 (.take 7 (.take 8 .done))) (.alt 6 (.fork (.alt 2 (.take 7 (.take 8 .done)) (.alt 7 (.take 2 (.take 8 .done)) .ends))) .ends))) .ends))) .ends)))) (.alt 2 (.fork (.alt 1 (.fork (.alt 3 (.take 5 (.take 6 (.take 7 (.take 8 .done)))) (.alt 5 (.take 3 (.take 6 (.take 7 (.take 8 .done)))) .ends))) (.alt 3 (.fork (.alt 1 (.take 5 (.take 6 (.take 7 (.take 8 .done)))) (.alt 5 (.fork (.alt 1 (.take 6 (.take 7 (.take 8 .done))) (.alt 6 (.take 1 (.take 7 (.take 8 .done))) .ends))) .ends))) (.alt 5 (.fork (.alt 1 (.take 3 (.take 6 (.take 7 (.take 8 .done)))) (.alt 3 (.fork (.alt 1 (.take 6 (.take 7 (.take 8 .done))) (.alt 6 (.take 1 (.take 7 (.take 8 .done))) .ends))) .ends))) .ends)))) (.alt 3 (.fork (.alt 1 (.fork (.alt 2 (.take 5 (.take 6 (.take 7 (.take 8 .done)))) (.alt 5 (.fork (.alt 2 (.take 6 (.take 7 (.take 8 .done))) (.alt 6 (.fork (.alt 2 (.take 7 (.take 8 .done)) (.alt 7 (.take 2 (.take 8 .done)) .ends))) .ends))) .ends))) (.alt 2 (.fork (.alt 1 (.take 5 (.take 6 (.take 7 (.take 8 .done)))) (.alt 5 (.fork (.alt 1 (.take 6 (.take 7 (.take 8 .done))) (.alt 6 (.take 1 (.take 7 (.take 8 .done))) .ends))) .ends))) (.alt 5 (.fork (.alt 1 (.fork (.alt 2 (.take 6 (.take 7 (.take 8 .done))) (.alt 6 (.fork (.alt 2 (.take 7 (.take 8 .done)) (.alt 7 (.take 2 (.take 8 .done)) .ends))) .ends))) (.alt 2 (.fork (.alt 1 (.take 6 (.take 7 (.take 8 .done))) (.alt 6 (.take 1 (.take 7 (.take 8 .done))) .ends))) (.alt 6 (.take 1 (.fork (.alt 2 (.take 7 (.take 8 .done)) (.alt 7 (.take 2 (.take 8 .done)) .ends)))) .ends)))) .ends)))) (.alt 5 (.fork (.alt 1 (.fork (.alt 2 (.take 3 (.take 6 (.take 7 (.take 8 .done)))) (.alt 3 (.fork (.alt 2 (.take 6 (.take 7 (.take 8 .done))) (.alt 6 (.fork (.alt 2 (.take 7 (.take 8 .done)) (.alt 7 (.take 2 (.take 8 .done)) .ends))) .ends))) .ends))) (.alt 2 (.fork (.alt 1 (.take 3 (.take 6 (.take 7 (.take 8 .done)))) (.alt 3 (.fork (.alt 1 (.take 6 (.take 7 (.take 8 .done))) (.alt 6 (.take 1 (.take 7 (.take 8 .done))) .ends))) .ends))) (.alt 3 (.fork (.alt 1 (.fork (.alt 2 (.take 6 (.take 7 (.take 8 .done))) (.alt 6 (.fork (.alt 2 (.take 7 (.take 8 .done)) (.alt 7 (.take 2 (.take 8 .done)) .ends))) .ends))) (.alt 2 (.fork (.alt 1 (.take 6 (.take 7 (.take 8 .done))) (.alt 6 (.take 1 (.take 7 (.take 8 .done))) .ends))) (.alt 6 (.take 1 (.fork (.alt 2 (.take 7 (.take 8 .done)) (.alt 7 (.take 2 (.take 8 .done)) .ends)))) .ends)))) .ends)))) .ends))))) (.alt 5 (.fork (.alt 1 (.fork (.alt 2 (.fork (.alt 3 (.take 4 (.take 6 (.take 7 (.take 8 .done)))) (.alt 4 (.take 3 (.take 6 (.take 7 (.take 8 .done)))) .ends))) (.alt 3 (.fork (.alt 2 (.take 4 (.take 6 (.take 7 (.take 8 .done)))) (.alt 4 (.fork (.alt 2 (.take 6 (.take 7 (.take 8 .done))) (.alt 6 (.fork (.alt 2 (.take 7 (.take 8 .done)) (.alt 7 (.take 2 (.take 8 .done)) .ends))) .ends))) .ends))) (.alt 4 (.fork (.alt 2 (.take 3 (.take 6 (.take 7 (.take 8 .done)))) (.alt 3 (.fork (.alt 2 (.take 6 (.take 7 (.take 8 .done))) (.alt 6 (.fork (.alt 2 (.take 7 (.take 8 .done)) (.alt 7 (.take 2 (.take 8 .done)) .ends))) .ends))) .ends))) .ends)))) (.alt 2 (.fork (.alt 1 (.fork (.alt 3 (.take 4 (.take 6 (.take 7 (.take 8 .done)))) (.alt 4 (.take 3 (.take 6 (.take 7 (.take 8 .done)))) .ends))) (.alt 3 (.fork (.alt 1 (.take 4 (.take 6 (.take 7 (.take 8 .done)))) (.alt 4 (.fork (.alt 1 (.take 6 (.take 7 (.take 8 .done))) (.alt 6 (.take 1 (.take 7 (.take 8 .done))) .ends))) .ends))) (.alt 4 (.fork (.alt 1 (.take 3 (.take 6 (.take 7 (.take 8 .done)))) (.alt 3 (.fork (.alt 1 (.take 6 (.take 7 (.take 8 .done))) (.alt 6 (.take 1 (.take 7 (.take 8 .done))) .ends))) .ends))) .ends)))) (.alt 3 (.fork (.alt 1 (.fork (.alt 2 (.take 4 (.take 6 (.take 7 (.take 8 .done)))) (.alt 4 (.fork (.alt 2 (.take 6 (.take 7 (.take 8 .done))) (.alt 6 (.fork (.alt 2 (.take 7 (.take 8 .done)) (.alt 7 (.take 2 (.take 8 .done)) .ends))) .ends))) .ends))) (.alt 2 (.fork (.alt 1 (.take 4 (.take 6 (.take 7 (.take 8 .done)))) (.alt 4 (.fork (.alt 1 (.take 6 (.take 7 (.take 8 .done))) (.alt 6 (.take 1 (.take 7 (.take 8 .done))) .ends))) .ends))) (.alt 4 (.fork (.alt 1 (.fork (.alt 2 (.take 6 (.take 7 (.take 8 .done))) (.alt 6 (.fork (.alt 2 (.take 7 (.take 8 .done)) (.alt 7 (.take 2 (.take 8 .done)) .ends))) .ends))) (.alt 2 (.fork (.alt 1 (.take 6 (.take 7 (.take 8 .done))) (.alt 6 (.take 1 (.take 7 (.take 8 .done))) .ends))) (.alt 6 (.take 1 (.fork (.alt 2 (.take 7 (.take 8 .done)) (.alt 7 (.take 2 (.take 8 .done)) .ends)))) .ends)))) .ends)))) (.alt 4 (.fork (.alt 1 (.fork (.alt 2 (.take 3 (.take 6 (.take 7 (.take 8 .done)))) (.alt 3 (.fork (.alt 2 (.take 6 (.take 7 (.take 8 .done))) (.alt 6 (.fork (.alt 2 (.take 7 (.take 8 .done)) (.alt 7 (.take 2 (.take 8 .done)) .ends))) .ends))) .ends))) (.alt 2 (.fork (.alt 1 (.take 3 (.take 6 (.take 7 (.take 8 .done)))) (.alt 3 (.fork (.alt 1 (.take 6 (.take 7 (.take 8 .done))) (.alt 6 (.take 1 (.take 7 (.take 8 .done))) .ends))) .ends))) (.alt 3 (.fork (.alt 1 (.fork (.alt 2 (.take 6 (.take 7 (.take 8 .done))) (.alt 6 (.fork (.alt 2 (.take 7 (.take 8 .done)) (.alt 7 (.take 2 (.take 8 .done)) .ends))) .ends))) (.alt 2 (.fork (.alt 1 (.take 6 (.take 7 (.take 8 .done))) (.alt 6 (.take 1 (.take 7 (.take 8 .done))) .ends))) (.alt 6 (.take 1 (.fork (.alt 2 (.take 7 (.take 8 .done)) (.alt 7 (.take 2 (.take 8 .done)) .ends)))) .ends)))) .ends)))) .ends))))) .ends))))))) [[], [], [], [], [], [], [0, 3, 4, 5], [0, 1, 3, 4, 5, 6], [0, 1, 2, 3, 4, 5, 6, 7]] [13, 14, 15] (by kernel_rfl) (by kernel_rfl) (by decide) ?_
    simp only [go_sem]
    refine hK9 _ ?_; clear hK9 K9
    refine AWP.seqk fun K10 hK10 => ?_
    refine AWP.region ?_
    simp only [go_sem]
    refine hK10 _ ?_; clear hK10 K10
    refine AWP.seqk fun K11 hK11 => ?_
    refine AWP.region ?_
    simp only [go_sem]
    refine hK11 _ ?_; clear hK11 K11
    refine AWP.seqk fun K12 hK12 => ?_
    refine AWP.region ?_
    simp only [go_sem]
    refine hK12 _ ?_; clear hK12 K12
    refine AWP.seqk fun K13 hK13 => ?_
    refine AWP.seqk fun K14 hK14 => ?_
    refine AWP.region ?_
    simp only [go_sem]
    repeat' (first | (refine ACall.one (of_c _ _ _ _ _ _) (by kernel_rfl) rfl ?_; simp only [go_sem]) | (refine AGuard.splitN (fun h => ?_) (fun h => ?_) <;> simp only [h, go_sem]) | (refine AGuard.split (fun h => ?_) (fun h => ?_) <;> simp only [h, go_sem]))
    all_goals (
      refine hK14 _ ?_; clear hK14 K14
      refine AWP.cond rfl (fun c68 => ?_) (fun c68 => ?_)
      · first | exact Bool.noConfusion c68 | (
          refine AWP.seqk fun K16 hK16 => ?_
          refine AWP.region ?_
          simp only [go_sem]
          refine hK16 _ ?_; clear hK16 K16
          refine AWP.ret ?_
          simp only [go_sem]
          clear hK13 K13
          have e1 := worst1 l g f b (IntKind.i64.wrap n) (IntKind.i64.wrap p)
          have e2 := worst2 l g f b (IntKind.i64.wrap n) (IntKind.i64.wrap p)
          have e3 := worst3 l g f (IntKind.i64.wrap n) (IntKind.i64.wrap p)
          have e4 := worst4 l g f b n m (IntKind.i64.wrap p) hn hm
          have e5 := worst5 g f b (IntKind.i64.wrap n) (IntKind.i64.wrap p)
          have e6 := worst6 g f b n m p hn hm hp
          exact ⟨[], .v _, rfl, rfl, by clear hn hm hp; first | (simp only [Bool.false_eq_true] at c18; done) | (simp_all; done), rfl⟩)
      · first | exact Bool.noConfusion c68 | (
          refine AWP.skip ?_
          refine hK13 _ ?_; clear hK13 K13
          refine AWP.seqk fun K17 hK17 => ?_
          refine AWP.region ?_
          simp only [go_sem]
          repeat' (first | (refine ACall.one (of_c _ _ _ _ _ _) (by kernel_rfl) rfl ?_; simp only [go_sem]) | (refine AGuard.splitN (fun h => ?_) (fun h => ?_) <;> simp only [h, go_sem]) | (refine AGuard.split (fun h => ?_) (fun h => ?_) <;> simp only [h, go_sem]))
          all_goals (
            refine hK17 _ ?_; clear hK17 K17
            refine AWP.ret ?_
            simp only [go_sem]
            have e1 := worst1 l g f b (IntKind.i64.wrap n) (IntKind.i64.wrap p)
            have e2 := worst2 l g f b (IntKind.i64.wrap n) (IntKind.i64.wrap p)
            have e3 := worst3 l g f (IntKind.i64.wrap n) (IntKind.i64.wrap p)
            have e4 := worst4 l g f b n m (IntKind.i64.wrap p) hn hm
            have e5 := worst5 g f b (IntKind.i64.wrap n) (IntKind.i64.wrap p)
            have e6 := worst6 g f b n m p hn hm hp
            exact ⟨[], .v _, rfl, rfl, by clear hn hm hp; first | (simp only [Bool.false_eq_true] at c18; done) | (simp_all; done), rfl⟩)))

end Go.Proofs.Ythlbnggjbjmhiaa
