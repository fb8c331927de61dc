/- The statements on the feed. -/
import Derived.Test.YtgiomlgkccjhfaaDoorN22
set_option linter.unusedVariables false
set_option linter.unusedSimpArgs false
namespace Go.Proofs.YtgiomlgkccjhfaaDoor
open Go Go.Abs Go.RowKit Go.Fld Go.Shelf

theorem inB_len (kp pc : Bs) : (inB kp pc).1.length ≤ kp.length + pc.length ∧ (inB kp pc).2.1.length ≤ kp.length + pc.length := by
  have h := runB_len (kp ++ pc)
  rw [List.length_append] at h
  unfold inB
  split
  · exact ⟨by simp, by simp⟩
  · exact ⟨h.1, h.2.2⟩
theorem inB0 {s : Bs} (h : s.length ≤ 65536) : inB [] s = ((runB s).1, (runB s).2.1, (((runB s).2.2 : Nat) : Int), 0) := by
  rw [inB_ok (by rintro (e | e); simp at e; omega), List.nil_append]
theorem inB1 {s : Bs} (h : s.length ≤ 16000) : inB (runB s).1 [] = ((runB s).1, [], 0, 0) := by
  have := (runB_len s).1
  rw [inB_ok (by rintro (e | e); omega; simp at e), List.append_nil, runB_again]; rfl
theorem in_nil_c (pc : Bs) (g2 : pc.length ≤ 1000000) : ACalls E 39 [.nilS, bytesV pc] (fun r t => r = .tup [.sl (some 0) 1 ((inB [] pc).1.map u8), .sl (some 1) 1 ((inB [] pc).2.1.map bytesV), i64 (inB [] pc).2.2.1, i64 (inB [] pc).2.2.2] ∧ t = [(inB [] pc).1.length, (inB [] pc).2.1.length]) :=
  ACalls.of_le (xs := [bytesV [], bytesV pc]) (fun im vs ⟨hn, hp⟩ => ⟨hn, fun i x v h1 h2 => by
    cases i with
    | zero =>
      simp only [List.getElem?_cons_zero, Option.some.injEq] at h1
      subst h1
      exact VR0.of_nil (hp 0 .nilS v rfl h2)
    | succ i => exact hp (i + 1) x v h1 h2⟩) (in_c [] pc (by simp) g2)
theorem in_nil2_c (kp : Bs) (g1 : kp.length ≤ 1000000) : ACalls E 39 [bytesV kp, .nilS] (fun r t => r = .tup [.sl (some 0) 1 ((inB kp []).1.map u8), .sl (some 1) 1 ((inB kp []).2.1.map bytesV), i64 (inB kp []).2.2.1, i64 (inB kp []).2.2.2] ∧ t = [(inB kp []).1.length, (inB kp []).2.1.length]) :=
  ACalls.of_le (xs := [bytesV kp, bytesV []]) (fun im vs ⟨hn, hp⟩ => ⟨hn, fun i x v h1 h2 => by
    cases i with
    | zero => exact hp 0 x v h1 h2
    | succ i => cases i with
      | zero =>
        simp only [List.getElem?_cons_succ, List.getElem?_cons_zero, Option.some.injEq] at h1
        subst h1
        exact VR0.of_nil (hp 1 .nilS v rfl h2)
      | succ i => simp at h1⟩) (in_c kp [] g1 (by simp))
def awxy : Bs := [120, 121]
theorem awxyL : [AV.v (.int .u8 120), .v (.int .u8 121)] = awxy.map u8 := rfl
theorem awxyne : (¬ awxy.map u8 = []) = True := by simp [awxy]
theorem awxy_len : awxy.length = 2 := rfl
theorem aw4_in1 : inB [] (awxy ++ awf.take 9) = (awf.take 9, [], 2, 0) := by
  have h9 := (next_part (k := 9) aw3_ok (by rw [aw3_put]; decide)).2
  rw [aw3_put] at h9
  have h9 : kF (awf.take 9) = .need := h9
  rw [inB0 (by decide), runB_app, junk_no8 (a := awxy) (by decide)]
  show ((runB (awf.take 9)).1, ([] : List Bs) ++ (runB (awf.take 9)).2.1, ((2 + (runB (awf.take 9)).2.2 : Nat) : Int), (0 : Int)) = _
  rw [runB_need h9]; rfl
theorem aw4_in2 : inB (awf.take 9) (awf.drop 9) = ([], [awb3], 0, 0) := by
  have h := run_put aw3_ok []
  rw [aw3_put, runB_nil] at h
  have h : runB (awf ++ []) = ([], [awb3], 0) := h
  rw [inB_ok (by decide), List.take_append_drop]
  rw [List.append_nil] at h
  rw [h]; rfl
theorem take9 : (awf.take 9).length = 9 := rfl
theorem frSum_le : ∀ (l : List Bs) (i : Nat), frSum (l.take i) ≤ frSum l
  | [], i => by simp
  | x :: l, 0 => by simp [frSum]
  | x :: l, i + 1 => by rw [List.take_succ_cons, frSum, frSum]; have := frSum_le l i; omega
theorem frSum_end {l : List Bs} {i : Nat} (h : ¬ (i : Int) < (l.length : Int)) : frSum (l.take i) = frSum l := by rw [List.take_of_length_le (by omega)]
theorem minw {a n : Nat} {b : UInt8} (ha : a ≤ 100000) : min (IntKind.i64.wrap ((a : Int) + IntKind.i64.wrap (b.toNat : Int))) (n : Int) = ((min (a + b.toNat) n : Nat) : Int) := by
  have hb := b.toNat_lt
  rw [wrapN (by omega), wrapA (by omega)]; omega
theorem no8_end {l : Bs} {i : Nat} (h : ¬ (i : Int) < (l.length : Int)) (h2 : (56 : UInt8) ∉ l.take i) : (56 : UInt8) ∉ l := by rw [List.take_of_length_le (by omega)] at h2; exact h2
set_option maxHeartbeats 4000000 in
set_option maxRecDepth 8000 in
theorem awake4_c  : ACalls E 38 [] (fun r t => r = bl true ∧ t = []) := by -- checkroll/checkrolllaw04.awake
  refine ACalls.of_awp (n := 80) (rs := [.tmp 0]) Tryd.func38 rfl Tryd.ntmps38 rfl ?_
  refine AWP.seqk fun K1 hK1 => ?_
  refine AWP.region ?_
  simp only [go_sem, ABytes_row, awb3L, awxyL, awb3ne, awxyne, awb3_len, awxy_len, awf_len, aw3_put, aw4_in1, aw4_in2, awb3_cmp, take9, List.map_cons, List.map_nil, List.getElem?_cons_zero, List.length_nil, List.length_cons] -- region 0
  repeat' (first | (refine AGet.haveM (by assumption) ?_; (try simp only [go_sem, ABytes_row, awb3L, awxyL, awb3ne, awxyne, awb3_len, awxy_len, awf_len, aw3_put, aw4_in1, aw4_in2, awb3_cmp, take9, List.map_cons, List.map_nil, List.getElem?_cons_zero, List.length_nil, List.length_cons])) | (refine AGet.have' (by assumption) ?_; (try simp only [go_sem, ABytes_row, awb3L, awxyL, awb3ne, awxyne, awb3_len, awxy_len, awf_len, aw3_put, aw4_in1, aw4_in2, awb3_cmp, take9, List.map_cons, List.map_nil, List.getElem?_cons_zero, List.length_nil, List.length_cons])) | ((first | refine AGet.nth ?_ (fun b hb => ?_) | refine AGet.nth1 ?_ (fun b hb => ?_) | with_reducible refine And.intro ?_ ?_); (focus ((first | omega | exact List.length_pos_iff.2 (by assumption) | (simp only [List.length_append, List.length_cons, List.length_nil, List.length_map, List.length_take, List.length_drop] at *; omega) | (rw [wrap64_id (by omega) (by omega)]; omega) | (simp; done)))); (try simp only [hb, go_sem, ABytes_row, awb3L, awxyL, awb3ne, awxyne, awb3_len, awxy_len, awf_len, aw3_put, aw4_in1, aw4_in2, awb3_cmp, take9, List.map_cons, List.map_nil, List.getElem?_cons_zero, List.length_nil, List.length_cons])))
  refine hK1 _ ?_; clear hK1 K1
  refine AWP.seqk fun K2 hK2 => ?_
  refine AWP.region ?_
  simp only [go_sem, ABytes_row, awb3L, awxyL, awb3ne, awxyne, awb3_len, awxy_len, awf_len, aw3_put, aw4_in1, aw4_in2, awb3_cmp, take9, List.map_cons, List.map_nil, List.getElem?_cons_zero, List.length_nil, List.length_cons] -- region 1
  repeat' (first | (refine ACall.of (mput_c awb3) (by kernel_rfl) rfl ?_; rintro r t ⟨rfl, rfl⟩ <;> simp only [go_sem, ABytes_row, awb3L, awxyL, awb3ne, awxyne, awb3_len, awxy_len, awf_len, aw3_put, aw4_in1, aw4_in2, awb3_cmp, take9, List.map_cons, List.map_nil, List.getElem?_cons_zero, List.length_nil, List.length_cons]) | (refine AGet.haveM (by assumption) ?_; (try simp only [go_sem, ABytes_row, awb3L, awxyL, awb3ne, awxyne, awb3_len, awxy_len, awf_len, aw3_put, aw4_in1, aw4_in2, awb3_cmp, take9, List.map_cons, List.map_nil, List.getElem?_cons_zero, List.length_nil, List.length_cons])) | (refine AGet.have' (by assumption) ?_; (try simp only [go_sem, ABytes_row, awb3L, awxyL, awb3ne, awxyne, awb3_len, awxy_len, awf_len, aw3_put, aw4_in1, aw4_in2, awb3_cmp, take9, List.map_cons, List.map_nil, List.getElem?_cons_zero, List.length_nil, List.length_cons])) | ((first | refine AGet.nth ?_ (fun b hb => ?_) | refine AGet.nth1 ?_ (fun b hb => ?_) | with_reducible refine And.intro ?_ ?_); (focus ((first | omega | exact List.length_pos_iff.2 (by assumption) | (simp only [List.length_append, List.length_cons, List.length_nil, List.length_map, List.length_take, List.length_drop] at *; omega) | (rw [wrap64_id (by omega) (by omega)]; omega) | (simp; done)))); (try simp only [hb, go_sem, ABytes_row, awb3L, awxyL, awb3ne, awxyne, awb3_len, awxy_len, awf_len, aw3_put, aw4_in1, aw4_in2, awb3_cmp, take9, List.map_cons, List.map_nil, List.getElem?_cons_zero, List.length_nil, List.length_cons])))
  refine hK2 _ ?_; clear hK2 K2
  refine AWP.seqk fun K3 hK3 => ?_
  refine AWP.seqk fun K4 hK4 => ?_
  refine AWP.region ?_
  simp only [go_sem, ABytes_row, awb3L, awxyL, awb3ne, awxyne, awb3_len, awxy_len, awf_len, aw3_put, aw4_in1, aw4_in2, awb3_cmp, take9, List.map_cons, List.map_nil, List.getElem?_cons_zero, List.length_nil, List.length_cons] -- region 2
  repeat' (first | (refine AGet.haveM (by assumption) ?_; (try simp only [go_sem, ABytes_row, awb3L, awxyL, awb3ne, awxyne, awb3_len, awxy_len, awf_len, aw3_put, aw4_in1, aw4_in2, awb3_cmp, take9, List.map_cons, List.map_nil, List.getElem?_cons_zero, List.length_nil, List.length_cons])) | (refine AGet.have' (by assumption) ?_; (try simp only [go_sem, ABytes_row, awb3L, awxyL, awb3ne, awxyne, awb3_len, awxy_len, awf_len, aw3_put, aw4_in1, aw4_in2, awb3_cmp, take9, List.map_cons, List.map_nil, List.getElem?_cons_zero, List.length_nil, List.length_cons])) | ((first | refine AGet.nth ?_ (fun b hb => ?_) | refine AGet.nth1 ?_ (fun b hb => ?_) | with_reducible refine And.intro ?_ ?_); (focus ((first | omega | exact List.length_pos_iff.2 (by assumption) | (simp only [List.length_append, List.length_cons, List.length_nil, List.length_map, List.length_take, List.length_drop] at *; omega) | (rw [wrap64_id (by omega) (by omega)]; omega) | (simp; done)))); (try simp only [hb, go_sem, ABytes_row, awb3L, awxyL, awb3ne, awxyne, awb3_len, awxy_len, awf_len, aw3_put, aw4_in1, aw4_in2, awb3_cmp, take9, List.map_cons, List.map_nil, List.getElem?_cons_zero, List.length_nil, List.length_cons])))
  refine hK4 _ ?_; clear hK4 K4
  refine AWP.cond rfl (fun c19 => ?_) (fun c19 => ?_)
  · first | exact Bool.noConfusion c19 | (
      try simp only [dD] at c19
      refine AWP.seqk fun K5 hK5 => ?_
      refine AWP.region ?_
      simp only [go_sem, ABytes_row, awb3L, awxyL, awb3ne, awxyne, awb3_len, awxy_len, awf_len, aw3_put, aw4_in1, aw4_in2, awb3_cmp, take9, List.map_cons, List.map_nil, List.getElem?_cons_zero, List.length_nil, List.length_cons] -- region 3
      repeat' (first | (refine AGet.haveM (by assumption) ?_; (try simp only [go_sem, ABytes_row, awb3L, awxyL, awb3ne, awxyne, awb3_len, awxy_len, awf_len, aw3_put, aw4_in1, aw4_in2, awb3_cmp, take9, List.map_cons, List.map_nil, List.getElem?_cons_zero, List.length_nil, List.length_cons])) | (refine AGet.have' (by assumption) ?_; (try simp only [go_sem, ABytes_row, awb3L, awxyL, awb3ne, awxyne, awb3_len, awxy_len, awf_len, aw3_put, aw4_in1, aw4_in2, awb3_cmp, take9, List.map_cons, List.map_nil, List.getElem?_cons_zero, List.length_nil, List.length_cons])) | ((first | refine AGet.nth ?_ (fun b hb => ?_) | refine AGet.nth1 ?_ (fun b hb => ?_) | with_reducible refine And.intro ?_ ?_); (focus ((first | omega | exact List.length_pos_iff.2 (by assumption) | (simp only [List.length_append, List.length_cons, List.length_nil, List.length_map, List.length_take, List.length_drop] at *; omega) | (rw [wrap64_id (by omega) (by omega)]; omega) | (simp; done)))); (try simp only [hb, go_sem, ABytes_row, awb3L, awxyL, awb3ne, awxyne, awb3_len, awxy_len, awf_len, aw3_put, aw4_in1, aw4_in2, awb3_cmp, take9, List.map_cons, List.map_nil, List.getElem?_cons_zero, List.length_nil, List.length_cons])))
      refine hK5 _ ?_; clear hK5 K5
      refine AWP.ret ?_
      try simp only [go_sem]
      clear hK3 K3
      exact ⟨[], .v _, rfl, rfl, rfl, rfl⟩)
  · first | exact Bool.noConfusion c19 | (
      try simp only [dD] at c19
      refine AWP.skip ?_
      refine hK3 _ ?_; clear hK3 K3
      refine AWP.seqk fun K6 hK6 => ?_
      refine AWP.region ?_
      simp only [go_sem, ABytes_row, awb3L, awxyL, awb3ne, awxyne, awb3_len, awxy_len, awf_len, aw3_put, aw4_in1, aw4_in2, awb3_cmp, take9, List.map_cons, List.map_nil, List.getElem?_cons_zero, List.length_nil, List.length_cons] -- region 4
      repeat' (first | (refine ACall.of (in_nil_c (awxy ++ awf.take 9) (by decide)) (by kernel_rfl) rfl ?_; rintro r t ⟨rfl, rfl⟩ <;> simp only [go_sem, ABytes_row, awb3L, awxyL, awb3ne, awxyne, awb3_len, awxy_len, awf_len, aw3_put, aw4_in1, aw4_in2, awb3_cmp, take9, List.map_cons, List.map_nil, List.getElem?_cons_zero, List.length_nil, List.length_cons]) | (refine ACall.of (in_c (awf.take 9) (awf.drop 9) (by decide) (by decide)) (by kernel_rfl) rfl ?_; rintro r t ⟨rfl, rfl⟩ <;> simp only [go_sem, ABytes_row, awb3L, awxyL, awb3ne, awxyne, awb3_len, awxy_len, awf_len, aw3_put, aw4_in1, aw4_in2, awb3_cmp, take9, List.map_cons, List.map_nil, List.getElem?_cons_zero, List.length_nil, List.length_cons]) | (refine AGet.haveM (by assumption) ?_; (try simp only [go_sem, ABytes_row, awb3L, awxyL, awb3ne, awxyne, awb3_len, awxy_len, awf_len, aw3_put, aw4_in1, aw4_in2, awb3_cmp, take9, List.map_cons, List.map_nil, List.getElem?_cons_zero, List.length_nil, List.length_cons])) | (refine AGet.have' (by assumption) ?_; (try simp only [go_sem, ABytes_row, awb3L, awxyL, awb3ne, awxyne, awb3_len, awxy_len, awf_len, aw3_put, aw4_in1, aw4_in2, awb3_cmp, take9, List.map_cons, List.map_nil, List.getElem?_cons_zero, List.length_nil, List.length_cons])) | ((first | refine AGet.nth ?_ (fun b hb => ?_) | refine AGet.nth1 ?_ (fun b hb => ?_) | with_reducible refine And.intro ?_ ?_); (focus ((first | omega | exact List.length_pos_iff.2 (by assumption) | (simp only [List.length_append, List.length_cons, List.length_nil, List.length_map, List.length_take, List.length_drop] at *; omega) | (rw [wrap64_id (by omega) (by omega)]; omega) | (simp; done)))); (try simp only [hb, go_sem, ABytes_row, awb3L, awxyL, awb3ne, awxyne, awb3_len, awxy_len, awf_len, aw3_put, aw4_in1, aw4_in2, awb3_cmp, take9, List.map_cons, List.map_nil, List.getElem?_cons_zero, List.length_nil, List.length_cons])))
      refine hK6 _ ?_; clear hK6 K6
      refine AWP.seqk fun K7 hK7 => ?_
      refine AWP.region ?_
      simp only [go_sem, ABytes_row, awb3L, awxyL, awb3ne, awxyne, awb3_len, awxy_len, awf_len, aw3_put, aw4_in1, aw4_in2, awb3_cmp, take9, List.map_cons, List.map_nil, List.getElem?_cons_zero, List.length_nil, List.length_cons] -- region 5
      repeat' (first | (refine ACall.of (in_nil_c (awxy ++ awf.take 9) (by decide)) (by kernel_rfl) rfl ?_; rintro r t ⟨rfl, rfl⟩ <;> simp only [go_sem, ABytes_row, awb3L, awxyL, awb3ne, awxyne, awb3_len, awxy_len, awf_len, aw3_put, aw4_in1, aw4_in2, awb3_cmp, take9, List.map_cons, List.map_nil, List.getElem?_cons_zero, List.length_nil, List.length_cons]) | (refine ACall.of (in_c (awf.take 9) (awf.drop 9) (by decide) (by decide)) (by kernel_rfl) rfl ?_; rintro r t ⟨rfl, rfl⟩ <;> simp only [go_sem, ABytes_row, awb3L, awxyL, awb3ne, awxyne, awb3_len, awxy_len, awf_len, aw3_put, aw4_in1, aw4_in2, awb3_cmp, take9, List.map_cons, List.map_nil, List.getElem?_cons_zero, List.length_nil, List.length_cons]) | (refine AGet.haveM (by assumption) ?_; (try simp only [go_sem, ABytes_row, awb3L, awxyL, awb3ne, awxyne, awb3_len, awxy_len, awf_len, aw3_put, aw4_in1, aw4_in2, awb3_cmp, take9, List.map_cons, List.map_nil, List.getElem?_cons_zero, List.length_nil, List.length_cons])) | (refine AGet.have' (by assumption) ?_; (try simp only [go_sem, ABytes_row, awb3L, awxyL, awb3ne, awxyne, awb3_len, awxy_len, awf_len, aw3_put, aw4_in1, aw4_in2, awb3_cmp, take9, List.map_cons, List.map_nil, List.getElem?_cons_zero, List.length_nil, List.length_cons])) | ((first | refine AGet.nth ?_ (fun b hb => ?_) | refine AGet.nth1 ?_ (fun b hb => ?_) | with_reducible refine And.intro ?_ ?_); (focus ((first | omega | exact List.length_pos_iff.2 (by assumption) | (simp only [List.length_append, List.length_cons, List.length_nil, List.length_map, List.length_take, List.length_drop] at *; omega) | (rw [wrap64_id (by omega) (by omega)]; omega) | (simp; done)))); (try simp only [hb, go_sem, ABytes_row, awb3L, awxyL, awb3ne, awxyne, awb3_len, awxy_len, awf_len, aw3_put, aw4_in1, aw4_in2, awb3_cmp, take9, List.map_cons, List.map_nil, List.getElem?_cons_zero, List.length_nil, List.length_cons])))
      refine hK7 _ ?_; clear hK7 K7
      refine AWP.seqk fun K8 hK8 => ?_
      refine AWP.region ?_
      simp only [go_sem, ABytes_row, awb3L, awxyL, awb3ne, awxyne, awb3_len, awxy_len, awf_len, aw3_put, aw4_in1, aw4_in2, awb3_cmp, take9, List.map_cons, List.map_nil, List.getElem?_cons_zero, List.length_nil, List.length_cons] -- region 6
      repeat' (first | (refine AGuard.splitN (fun h => ?_) (fun h => ?_) <;> simp only [h, go_sem, ABytes_row, awb3L, awxyL, awb3ne, awxyne, awb3_len, awxy_len, awf_len, aw3_put, aw4_in1, aw4_in2, awb3_cmp, take9, List.map_cons, List.map_nil, List.getElem?_cons_zero, List.length_nil, List.length_cons] <;> try simp only [dD] at h) | (refine AGuard.split (fun h => ?_) (fun h => ?_) <;> simp only [h, go_sem, ABytes_row, awb3L, awxyL, awb3ne, awxyne, awb3_len, awxy_len, awf_len, aw3_put, aw4_in1, aw4_in2, awb3_cmp, take9, List.map_cons, List.map_nil, List.getElem?_cons_zero, List.length_nil, List.length_cons] <;> try simp only [dD] at h) | (refine AGet.haveM (by assumption) ?_; (try simp only [go_sem, ABytes_row, awb3L, awxyL, awb3ne, awxyne, awb3_len, awxy_len, awf_len, aw3_put, aw4_in1, aw4_in2, awb3_cmp, take9, List.map_cons, List.map_nil, List.getElem?_cons_zero, List.length_nil, List.length_cons])) | (refine AGet.have' (by assumption) ?_; (try simp only [go_sem, ABytes_row, awb3L, awxyL, awb3ne, awxyne, awb3_len, awxy_len, awf_len, aw3_put, aw4_in1, aw4_in2, awb3_cmp, take9, List.map_cons, List.map_nil, List.getElem?_cons_zero, List.length_nil, List.length_cons])) | ((first | refine AGet.nth ?_ (fun b hb => ?_) | refine AGet.nth1 ?_ (fun b hb => ?_) | with_reducible refine And.intro ?_ ?_); (focus ((first | omega | exact List.length_pos_iff.2 (by assumption) | (simp only [List.length_append, List.length_cons, List.length_nil, List.length_map, List.length_take, List.length_drop] at *; omega) | (rw [wrap64_id (by omega) (by omega)]; omega) | (simp; done)))); (try simp only [hb, go_sem, ABytes_row, awb3L, awxyL, awb3ne, awxyne, awb3_len, awxy_len, awf_len, aw3_put, aw4_in1, aw4_in2, awb3_cmp, take9, List.map_cons, List.map_nil, List.getElem?_cons_zero, List.length_nil, List.length_cons])))
      all_goals (
        refine hK8 _ ?_; clear hK8 K8
        refine AWP.ret ?_
        try simp only [go_sem]
        exact ⟨[], .v _, rfl, rfl, rfl, rfl⟩))


set_option maxHeartbeats 2000000 in
theorem fd_right_c (kp pc : Bs) : ACalls E 12 [bytesV kp, bytesV pc] (fun r t => r = bl true ∧ t = []) := by -- checkroll/checkrolllaw04.FeedRight
  have hil := inB_len kp pc
  refine ACalls.of_awp (n := 59) (rs := [.tmp 4]) Tryd.func12 rfl Tryd.ntmps12 rfl ?_
  refine AWP.seqk fun K1 hK1 => ?_
  refine AWP.region ?_
  simp only [go_sem] -- region 0
  repeat' (first | (refine AGet.haveM (by assumption) ?_; (try simp only [go_sem])) | (refine AGet.have' (by assumption) ?_; (try simp only [go_sem])) | ((first | refine AGet.nth ?_ (fun b hb => ?_) | refine AGet.nth1 ?_ (fun b hb => ?_) | with_reducible refine And.intro ?_ ?_); (focus ((first | omega | exact List.length_pos_iff.2 (by assumption) | (simp only [List.length_append, List.length_cons, List.length_nil, List.length_map, List.length_take, List.length_drop] at *; omega) | (rw [wrap64_id (by omega) (by omega)]; omega) | (simp; done)))); (try simp only [hb, go_sem])))
  refine hK1 _ ?_; clear hK1 K1
  refine AWP.seqk fun K2 hK2 => ?_
  refine AWP.seqk fun K3 hK3 => ?_
  refine AWP.region ?_
  simp only [go_sem] -- region 1
  repeat' (first | (refine ACall.one (awake4_c ) (by kernel_rfl) rfl ?_; simp only [go_sem]) | (refine AGet.haveM (by assumption) ?_; (try simp only [go_sem])) | (refine AGet.have' (by assumption) ?_; (try simp only [go_sem])) | ((first | refine AGet.nth ?_ (fun b hb => ?_) | refine AGet.nth1 ?_ (fun b hb => ?_) | with_reducible refine And.intro ?_ ?_); (focus ((first | omega | exact List.length_pos_iff.2 (by assumption) | (simp only [List.length_append, List.length_cons, List.length_nil, List.length_map, List.length_take, List.length_drop] at *; omega) | (rw [wrap64_id (by omega) (by omega)]; omega) | (simp; done)))); (try simp only [hb, go_sem])))
  refine hK3 _ ?_; clear hK3 K3
  refine AWP.cond rfl (fun c14 => ?_) (fun c14 => ?_)
  · first | exact Bool.noConfusion c14 | (
      try simp only [dD] at c14
      refine AWP.seqk fun K4 hK4 => ?_
      refine AWP.region ?_
      simp only [go_sem] -- region 2
      repeat' (first | (refine AGet.haveM (by assumption) ?_; (try simp only [go_sem])) | (refine AGet.have' (by assumption) ?_; (try simp only [go_sem])) | ((first | refine AGet.nth ?_ (fun b hb => ?_) | refine AGet.nth1 ?_ (fun b hb => ?_) | with_reducible refine And.intro ?_ ?_); (focus ((first | omega | exact List.length_pos_iff.2 (by assumption) | (simp only [List.length_append, List.length_cons, List.length_nil, List.length_map, List.length_take, List.length_drop] at *; omega) | (rw [wrap64_id (by omega) (by omega)]; omega) | (simp; done)))); (try simp only [hb, go_sem])))
      refine hK4 _ ?_; clear hK4 K4
      refine AWP.ret ?_
      try simp only [go_sem]
      clear hK2 K2
      exact ⟨[], .v _, rfl, rfl, rfl, rfl⟩)
  · first | exact Bool.noConfusion c14 | (
      try simp only [dD] at c14
      refine AWP.skip ?_
      refine hK2 _ ?_; clear hK2 K2
      refine AWP.seqk fun K5 hK5 => ?_
      refine AWP.seqk fun K6 hK6 => ?_
      refine AWP.region ?_
      simp only [go_sem] -- region 3
      repeat' (first | (refine AGuard.splitN (fun h => ?_) (fun h => ?_) <;> simp only [h, go_sem] <;> try simp only [dD] at h) | (refine AGuard.split (fun h => ?_) (fun h => ?_) <;> simp only [h, go_sem] <;> try simp only [dD] at h) | (refine AGet.haveM (by assumption) ?_; (try simp only [go_sem])) | (refine AGet.have' (by assumption) ?_; (try simp only [go_sem])) | ((first | refine AGet.nth ?_ (fun b hb => ?_) | refine AGet.nth1 ?_ (fun b hb => ?_) | with_reducible refine And.intro ?_ ?_); (focus ((first | omega | exact List.length_pos_iff.2 (by assumption) | (simp only [List.length_append, List.length_cons, List.length_nil, List.length_map, List.length_take, List.length_drop] at *; omega) | (rw [wrap64_id (by omega) (by omega)]; omega) | (simp; done)))); (try simp only [hb, go_sem])))
      all_goals (
        refine hK6 _ ?_; clear hK6 K6
        refine AWP.cond rfl (fun c22 => ?_) (fun c22 => ?_)
        · first | exact Bool.noConfusion c22 | (
            try simp only [dD] at c22
            refine AWP.seqk fun K7 hK7 => ?_
            refine AWP.region ?_
            simp only [go_sem] -- region 4
            repeat' (first | (refine AGet.haveM (by assumption) ?_; (try simp only [go_sem])) | (refine AGet.have' (by assumption) ?_; (try simp only [go_sem])) | ((first | refine AGet.nth ?_ (fun b hb => ?_) | refine AGet.nth1 ?_ (fun b hb => ?_) | with_reducible refine And.intro ?_ ?_); (focus ((first | omega | exact List.length_pos_iff.2 (by assumption) | (simp only [List.length_append, List.length_cons, List.length_nil, List.length_map, List.length_take, List.length_drop] at *; omega) | (rw [wrap64_id (by omega) (by omega)]; omega) | (simp; done)))); (try simp only [hb, go_sem])))
            refine hK7 _ ?_; clear hK7 K7
            refine AWP.ret ?_
            try simp only [go_sem]
            clear hK5 K5
            exact ⟨[], .v _, rfl, rfl, rfl, rfl⟩)
        · first | exact Bool.noConfusion c22 | (
            try simp only [dD] at c22
            refine AWP.skip ?_
            refine hK5 _ ?_; clear hK5 K5
            refine AWP.seqk fun K8 hK8 => ?_
            refine AWP.region ?_
            simp only [go_sem] -- region 5
            repeat' (first | (refine ACall.of (in_c kp pc (by omega) (by omega)) (by kernel_rfl) rfl ?_; rintro r t ⟨rfl, rfl⟩ <;> simp only [go_sem]) | (refine AGet.haveM (by assumption) ?_; (try simp only [go_sem])) | (refine AGet.have' (by assumption) ?_; (try simp only [go_sem])) | ((first | refine AGet.nth ?_ (fun b hb => ?_) | refine AGet.nth1 ?_ (fun b hb => ?_) | with_reducible refine And.intro ?_ ?_); (focus ((first | omega | exact List.length_pos_iff.2 (by assumption) | (simp only [List.length_append, List.length_cons, List.length_nil, List.length_map, List.length_take, List.length_drop] at *; omega) | (rw [wrap64_id (by omega) (by omega)]; omega) | (simp; done)))); (try simp only [hb, go_sem])))
            refine hK8 _ ?_; clear hK8 K8
            refine AWP.seqk fun K9 hK9 => ?_
            refine AWP.region ?_
            simp only [go_sem] -- region 6
            repeat' (first | (refine ACall.of (r4in_c _ _ (by omega) (by omega)) (by kernel_rfl) rfl ?_; rintro r t ⟨rfl, rfl⟩ <;> simp only [go_sem]) | (refine AGet.haveM (by assumption) ?_; (try simp only [go_sem])) | (refine AGet.have' (by assumption) ?_; (try simp only [go_sem])) | ((first | refine AGet.nth ?_ (fun b hb => ?_) | refine AGet.nth1 ?_ (fun b hb => ?_) | with_reducible refine And.intro ?_ ?_); (focus ((first | omega | exact List.length_pos_iff.2 (by assumption) | (simp only [List.length_append, List.length_cons, List.length_nil, List.length_map, List.length_take, List.length_drop] at *; omega) | (rw [wrap64_id (by omega) (by omega)]; omega) | (simp; done)))); (try simp only [hb, go_sem])))
            refine hK9 _ ?_; clear hK9 K9
            refine AWP.seqk fun K10 hK10 => ?_
            refine AWP.region ?_
            simp only [go_sem] -- region 7
            repeat' (first | (refine ACall.one (r4same_c _ _ (by omega)) (by kernel_rfl) rfl ?_; simp only [go_sem]) | (refine AGuard.splitN (fun h => ?_) (fun h => ?_) <;> simp only [h, go_sem] <;> try simp only [dD] at h) | (refine AGuard.split (fun h => ?_) (fun h => ?_) <;> simp only [h, go_sem] <;> try simp only [dD] at h) | (refine AGet.haveM (by assumption) ?_; (try simp only [go_sem])) | (refine AGet.have' (by assumption) ?_; (try simp only [go_sem])) | ((first | refine AGet.nth ?_ (fun b hb => ?_) | refine AGet.nth1 ?_ (fun b hb => ?_) | with_reducible refine And.intro ?_ ?_); (focus ((first | omega | exact List.length_pos_iff.2 (by assumption) | (simp only [List.length_append, List.length_cons, List.length_nil, List.length_map, List.length_take, List.length_drop] at *; omega) | (rw [wrap64_id (by omega) (by omega)]; omega) | (simp; done)))); (try simp only [hb, go_sem])))
            all_goals (
              refine hK10 _ ?_; clear hK10 K10
              refine AWP.ret ?_
              try simp only [go_sem]
              exact ⟨[], .v _, rfl, rfl, rfl, rfl⟩))))


set_option maxHeartbeats 4000000 in
set_option maxRecDepth 8000 in
theorem fd_counts_c (kp pc : Bs) : ACalls E 14 [bytesV kp, bytesV pc] (fun r t => r = bl true ∧ t = []) := by -- checkroll/checkrolllaw04.FeedCounts
  have hal : (kp ++ pc).length = kp.length + pc.length := List.length_append
  have hc := runB_counts (kp ++ pc)
  have hl := runB_len (kp ++ pc)
  refine ACalls.of_awp (n := 97) (rs := [.tmp 4]) Tryd.func14 rfl Tryd.ntmps14 rfl ?_
  refine AWP.seqk fun K1 hK1 => ?_
  refine AWP.region ?_
  simp only [go_sem] -- region 0
  repeat' (first | (refine AGet.haveM (by assumption) ?_; (try simp only [go_sem])) | (refine AGet.have' (by assumption) ?_; (try simp only [go_sem])) | ((first | refine AGet.nth ?_ (fun b hb => ?_) | refine AGet.nth1 ?_ (fun b hb => ?_) | with_reducible refine And.intro ?_ ?_); (focus ((first | omega | exact List.length_pos_iff.2 (by assumption) | (simp only [List.length_append, List.length_cons, List.length_nil, List.length_map, List.length_take, List.length_drop] at *; omega) | (rw [wrap64_id (by omega) (by omega)]; omega) | (simp; done)))); (try simp only [hb, go_sem])))
  refine hK1 _ ?_; clear hK1 K1
  refine AWP.seqk fun K2 hK2 => ?_
  refine AWP.seqk fun K3 hK3 => ?_
  refine AWP.region ?_
  simp only [go_sem] -- region 1
  repeat' (first | (refine ACall.one (awake4_c ) (by kernel_rfl) rfl ?_; simp only [go_sem]) | (refine AGet.haveM (by assumption) ?_; (try simp only [go_sem])) | (refine AGet.have' (by assumption) ?_; (try simp only [go_sem])) | ((first | refine AGet.nth ?_ (fun b hb => ?_) | refine AGet.nth1 ?_ (fun b hb => ?_) | with_reducible refine And.intro ?_ ?_); (focus ((first | omega | exact List.length_pos_iff.2 (by assumption) | (simp only [List.length_append, List.length_cons, List.length_nil, List.length_map, List.length_take, List.length_drop] at *; omega) | (rw [wrap64_id (by omega) (by omega)]; omega) | (simp; done)))); (try simp only [hb, go_sem])))
  refine hK3 _ ?_; clear hK3 K3
  refine AWP.cond rfl (fun c18 => ?_) (fun c18 => ?_)
  · first | exact Bool.noConfusion c18 | (
      try simp only [dD] at c18
      refine AWP.seqk fun K4 hK4 => ?_
      refine AWP.region ?_
      simp only [go_sem] -- region 2
      repeat' (first | (refine AGet.haveM (by assumption) ?_; (try simp only [go_sem])) | (refine AGet.have' (by assumption) ?_; (try simp only [go_sem])) | ((first | refine AGet.nth ?_ (fun b hb => ?_) | refine AGet.nth1 ?_ (fun b hb => ?_) | with_reducible refine And.intro ?_ ?_); (focus ((first | omega | exact List.length_pos_iff.2 (by assumption) | (simp only [List.length_append, List.length_cons, List.length_nil, List.length_map, List.length_take, List.length_drop] at *; omega) | (rw [wrap64_id (by omega) (by omega)]; omega) | (simp; done)))); (try simp only [hb, go_sem])))
      refine hK4 _ ?_; clear hK4 K4
      refine AWP.ret ?_
      try simp only [go_sem]
      clear hK2 K2
      first
      | exact ⟨[], .v _, rfl, rfl, rfl, rfl⟩
      | skip)
  · first | exact Bool.noConfusion c18 | (
      try simp only [dD] at c18
      refine AWP.skip ?_
      refine hK2 _ ?_; clear hK2 K2
      refine AWP.seqk fun K5 hK5 => ?_
      refine AWP.seqk fun K6 hK6 => ?_
      refine AWP.region ?_
      simp only [go_sem] -- region 3
      repeat' (first | (refine AGuard.splitN (fun h => ?_) (fun h => ?_) <;> simp only [h, go_sem] <;> try simp only [dD] at h) | (refine AGuard.split (fun h => ?_) (fun h => ?_) <;> simp only [h, go_sem] <;> try simp only [dD] at h) | (refine AGet.haveM (by assumption) ?_; (try simp only [go_sem])) | (refine AGet.have' (by assumption) ?_; (try simp only [go_sem])) | ((first | refine AGet.nth ?_ (fun b hb => ?_) | refine AGet.nth1 ?_ (fun b hb => ?_) | with_reducible refine And.intro ?_ ?_); (focus ((first | omega | exact List.length_pos_iff.2 (by assumption) | (simp only [List.length_append, List.length_cons, List.length_nil, List.length_map, List.length_take, List.length_drop] at *; omega) | (rw [wrap64_id (by omega) (by omega)]; omega) | (simp; done)))); (try simp only [hb, go_sem])))
      all_goals (
        refine hK6 _ ?_; clear hK6 K6
        refine AWP.cond rfl (fun c26 => ?_) (fun c26 => ?_)
        · first | exact Bool.noConfusion c26 | (
            try simp only [dD] at c26
            refine AWP.seqk fun K7 hK7 => ?_
            refine AWP.region ?_
            simp only [go_sem] -- region 4
            repeat' (first | (refine AGet.haveM (by assumption) ?_; (try simp only [go_sem])) | (refine AGet.have' (by assumption) ?_; (try simp only [go_sem])) | ((first | refine AGet.nth ?_ (fun b hb => ?_) | refine AGet.nth1 ?_ (fun b hb => ?_) | with_reducible refine And.intro ?_ ?_); (focus ((first | omega | exact List.length_pos_iff.2 (by assumption) | (simp only [List.length_append, List.length_cons, List.length_nil, List.length_map, List.length_take, List.length_drop] at *; omega) | (rw [wrap64_id (by omega) (by omega)]; omega) | (simp; done)))); (try simp only [hb, go_sem])))
            refine hK7 _ ?_; clear hK7 K7
            refine AWP.ret ?_
            try simp only [go_sem]
            clear hK5 K5
            first
            | exact ⟨[], .v _, rfl, rfl, rfl, rfl⟩
            | skip)
        · first | exact Bool.noConfusion c26 | (
            try simp only [dD] at c26
            refine AWP.skip ?_
            refine hK5 _ ?_; clear hK5 K5
            refine AWP.seqk fun K8 hK8 => ?_
            refine AWP.region ?_
            simp only [go_sem] -- region 5
            repeat' (first | (refine ACall.of (in_c kp pc (by omega) (by omega)) (by kernel_rfl) rfl ?_; rintro r t ⟨rfl, rfl⟩ <;> simp only [go_sem]) | (refine ACall.of (in_nil2_c (runB (kp ++ pc)).1 (by omega)) (by kernel_rfl) rfl ?_; rintro r t ⟨rfl, rfl⟩ <;> simp only [go_sem]) | (refine AGet.haveM (by assumption) ?_; (try simp only [go_sem])) | (refine AGet.have' (by assumption) ?_; (try simp only [go_sem])) | ((first | refine AGet.nth ?_ (fun b hb => ?_) | refine AGet.nth1 ?_ (fun b hb => ?_) | with_reducible refine And.intro ?_ ?_); (focus ((first | omega | exact List.length_pos_iff.2 (by assumption) | (simp only [List.length_append, List.length_cons, List.length_nil, List.length_map, List.length_take, List.length_drop] at *; omega) | (rw [wrap64_id (by omega) (by omega)]; omega) | (simp; done)))); (try simp only [hb, go_sem])))
            refine hK8 _ ?_; clear hK8 K8
            refine AWP.seqk fun K9 hK9 => ?_
            have hin := inB_ok (kept := kp) (piece := pc) (by omega)
            simp only [hin]
            have w6 := wrapA (a := (runB (kp ++ pc)).2.2) (b := (runB (kp ++ pc)).1.length) (by omega)
            refine AWP.region ?_
            simp only [go_sem, w6] -- region 6
            repeat' (first | (refine AGet.haveM (by assumption) ?_; (try simp only [go_sem, w6])) | (refine AGet.have' (by assumption) ?_; (try simp only [go_sem, w6])) | ((first | refine AGet.nth ?_ (fun b hb => ?_) | refine AGet.nth1 ?_ (fun b hb => ?_) | with_reducible refine And.intro ?_ ?_); (focus ((first | omega | exact List.length_pos_iff.2 (by assumption) | (simp only [List.length_append, List.length_cons, List.length_nil, List.length_map, List.length_take, List.length_drop] at *; omega) | (rw [wrap64_id (by omega) (by omega)]; omega) | (simp; done)))); (try simp only [hb, go_sem, w6])))
            refine hK9 _ ?_; clear hK9 K9
            refine AWP.seqk fun K10 hK10 => ?_
            refine AWP.seqk fun K11 hK11 => ?_
            refine AWP.region ?_
            simp only [go_sem] -- region 7
            repeat' (first | (refine AGet.haveM (by assumption) ?_; (try simp only [go_sem])) | (refine AGet.have' (by assumption) ?_; (try simp only [go_sem])) | ((first | refine AGet.nth ?_ (fun b hb => ?_) | refine AGet.nth1 ?_ (fun b hb => ?_) | with_reducible refine And.intro ?_ ?_); (focus ((first | omega | exact List.length_pos_iff.2 (by assumption) | (simp only [List.length_append, List.length_cons, List.length_nil, List.length_map, List.length_take, List.length_drop] at *; omega) | (rw [wrap64_id (by omega) (by omega)]; omega) | (simp; done)))); (try simp only [hb, go_sem])))
            refine hK11 _ ?_; clear hK11 K11
            refine AWP.block ?_ -- 0
            refine AWP.loopO (ι := Nat) [4, 11, 12, 39, 40, 41, 42, 43, 44, 45, 46, 47, 48, 49, 50, 51, 52, 53, 54, 55, 56, 57, 58] (fun (i : Nat) => [(9, i64 (((runB (kp ++ pc)).2.2 + (runB (kp ++ pc)).1.length + frSum ((runB (kp ++ pc)).2.1.take i) : Nat) : Int)), (10, i64 i)]) (fun (i : Nat) => []) (fun (i : Nat) => [(runB (kp ++ pc)).1.length, (runB (kp ++ pc)).2.1.length]) (fun (i : Nat) => i ≤ (runB (kp ++ pc)).2.1.length) (fun (i : Nat) => (runB (kp ++ pc)).2.1.length - i) (0) ?_ ?_ ?_
            · (try simp only [go_sem]); simp [frSum]
            · omega
            rintro i h1
            simp only [go_sem]
            refine AWP.seqk fun K12 hK12 => ?_
            refine AWP.seqk fun K13 hK13 => ?_
            refine AWP.region ?_
            simp only [go_sem] -- region 8
            repeat' (first | (refine AGet.haveM (by assumption) ?_; (try simp only [go_sem])) | (refine AGet.have' (by assumption) ?_; (try simp only [go_sem])) | ((first | refine AGet.nth ?_ (fun b hb => ?_) | refine AGet.nth1 ?_ (fun b hb => ?_) | with_reducible refine And.intro ?_ ?_); (focus ((first | omega | exact List.length_pos_iff.2 (by assumption) | (simp only [List.length_append, List.length_cons, List.length_nil, List.length_map, List.length_take, List.length_drop] at *; omega) | (rw [wrap64_id (by omega) (by omega)]; omega) | (simp; done)))); (try simp only [hb, go_sem])))
            refine hK13 _ ?_; clear hK13 K13
            refine AWP.cond rfl (fun c42 => ?_) (fun c42 => ?_)
            · first | exact Bool.noConfusion c42 | (
                try simp only [dD] at c42
                refine AWP.skip ?_
                refine hK12 _ ?_; clear hK12 K12
                refine AWP.seqk fun K14 hK14 => ?_
                refine AWP.block ?_ -- 1
                refine AWP.seqk fun K15 hK15 => ?_
                refine AWP.region ?_
                simp only [go_sem] -- region 10
                repeat' (first | (refine ACall.of (mput_c _) (by kernel_rfl) rfl ?_; rintro r t ⟨rfl, rfl⟩ <;> simp only [go_sem]) | (refine AGet.haveM (by assumption) ?_; (try simp only [go_sem])) | (refine AGet.have' (by assumption) ?_; (try simp only [go_sem])) | ((first | refine AGet.nth ?_ (fun b hb => ?_) | refine AGet.nth1 ?_ (fun b hb => ?_) | with_reducible refine And.intro ?_ ?_); (focus ((first | omega | exact List.length_pos_iff.2 (by assumption) | (simp only [List.length_append, List.length_cons, List.length_nil, List.length_map, List.length_take, List.length_drop] at *; omega) | (rw [wrap64_id (by omega) (by omega)]; omega) | (simp; done)))); (try simp only [hb, go_sem])))
                refine hK15 _ ?_; clear hK15 K15
                refine AWP.seqk fun K16 hK16 => ?_
                refine AWP.seqk fun K17 hK17 => ?_
                have h0 := hc.2 _ (List.mem_of_getElem? hb)
                simp only [h0]
                have hfn := frSum_next hb
                have hfl := frSum_le (runB (kp ++ pc)).2.1 (i + 1)
                have w13 := wrapA (a := (runB (kp ++ pc)).2.2 + (runB (kp ++ pc)).1.length + frSum ((runB (kp ++ pc)).2.1.take i)) (b := (putB b).1.length) (by omega)
                refine AWP.region ?_
                simp only [go_sem] -- region 11
                repeat' (first | (refine AGet.haveM (by assumption) ?_; (try simp only [go_sem])) | (refine AGet.have' (by assumption) ?_; (try simp only [go_sem])) | ((first | refine AGet.nth ?_ (fun b hb => ?_) | refine AGet.nth1 ?_ (fun b hb => ?_) | with_reducible refine And.intro ?_ ?_); (focus ((first | omega | exact List.length_pos_iff.2 (by assumption) | (simp only [List.length_append, List.length_cons, List.length_nil, List.length_map, List.length_take, List.length_drop] at *; omega) | (rw [wrap64_id (by omega) (by omega)]; omega) | (simp; done)))); (try simp only [hb, go_sem])))
                refine hK17 _ ?_; clear hK17 K17
                refine AWP.cond rfl (fun c54 => ?_) (fun c54 => ?_)
                · first | exact Bool.noConfusion c54 | (
                    try simp only [dD] at c54
                    refine AWP.seqk fun K18 hK18 => ?_
                    refine AWP.region ?_
                    simp only [go_sem] -- region 12
                    repeat' (first | (refine AGet.haveM (by assumption) ?_; (try simp only [go_sem])) | (refine AGet.have' (by assumption) ?_; (try simp only [go_sem])) | ((first | refine AGet.nth ?_ (fun b hb => ?_) | refine AGet.nth1 ?_ (fun b hb => ?_) | with_reducible refine And.intro ?_ ?_); (focus ((first | omega | exact List.length_pos_iff.2 (by assumption) | (simp only [List.length_append, List.length_cons, List.length_nil, List.length_map, List.length_take, List.length_drop] at *; omega) | (rw [wrap64_id (by omega) (by omega)]; omega) | (simp; done)))); (try simp only [hb, go_sem])))
                    refine hK18 _ ?_; clear hK18 K18
                    refine AWP.ret ?_
                    try simp only [go_sem]
                    clear hK16 K16 hK14 K14 hK10 K10
                    first
                    | exact ⟨[], .v _, rfl, rfl, rfl, rfl⟩
                    | skip)
                · first | exact Bool.noConfusion c54 | (
                    try simp only [dD] at c54
                    refine AWP.skip ?_
                    refine hK16 _ ?_; clear hK16 K16
                    refine AWP.region ?_
                    simp only [go_sem, w13] -- region 13
                    repeat' (first | (refine AGet.haveM (by assumption) ?_; (try simp only [go_sem, w13])) | (refine AGet.have' (by assumption) ?_; (try simp only [go_sem, w13])) | ((first | refine AGet.nth ?_ (fun b hb => ?_) | refine AGet.nth1 ?_ (fun b hb => ?_) | with_reducible refine And.intro ?_ ?_); (focus ((first | omega | exact List.length_pos_iff.2 (by assumption) | (simp only [List.length_append, List.length_cons, List.length_nil, List.length_map, List.length_take, List.length_drop] at *; omega) | (rw [wrap64_id (by omega) (by omega)]; omega) | (simp; done)))); (try simp only [hb, go_sem, w13])))
                    refine hK14 _ ?_; clear hK14 K14
                    refine AWP.region ?_
                    simp only [go_sem] -- region 9
                    repeat' (first | (refine AGet.haveM (by assumption) ?_; (try simp only [go_sem])) | (refine AGet.have' (by assumption) ?_; (try simp only [go_sem])) | ((first | refine AGet.nth ?_ (fun b hb => ?_) | refine AGet.nth1 ?_ (fun b hb => ?_) | with_reducible refine And.intro ?_ ?_); (focus ((first | omega | exact List.length_pos_iff.2 (by assumption) | (simp only [List.length_append, List.length_cons, List.length_nil, List.length_map, List.length_take, List.length_drop] at *; omega) | (rw [wrap64_id (by omega) (by omega)]; omega) | (simp; done)))); (try simp only [hb, go_sem])))
                    clear hK10 K10
                    rw [wrap64_id (x := (i : Int) + 1) (by omega) (by omega)]
                    refine ⟨i + 1, ?_, ?_, ?_⟩
                    · rw [hfn]; simp; omega
                    · omega
                    · omega))
            · first | exact Bool.noConfusion c42 | (
                try simp only [dD] at c42
                refine AWP.exit ?_
                simp only [go_sem]
                clear hK12 K12
                refine hK10 _ ?_; clear hK10 K10
                refine AWP.seqk fun K19 hK19 => ?_
                refine AWP.region ?_
                simp only [go_sem] -- region 14
                repeat' (first | (refine ACall.of (in_c kp pc (by omega) (by omega)) (by kernel_rfl) rfl ?_; rintro r t ⟨rfl, rfl⟩ <;> simp only [go_sem]) | (refine ACall.of (in_nil2_c (runB (kp ++ pc)).1 (by omega)) (by kernel_rfl) rfl ?_; rintro r t ⟨rfl, rfl⟩ <;> simp only [go_sem]) | (refine AGet.haveM (by assumption) ?_; (try simp only [go_sem])) | (refine AGet.have' (by assumption) ?_; (try simp only [go_sem])) | ((first | refine AGet.nth ?_ (fun b hb => ?_) | refine AGet.nth1 ?_ (fun b hb => ?_) | with_reducible refine And.intro ?_ ?_); (focus ((first | omega | exact List.length_pos_iff.2 (by assumption) | (simp only [List.length_append, List.length_cons, List.length_nil, List.length_map, List.length_take, List.length_drop] at *; omega) | (rw [wrap64_id (by omega) (by omega)]; omega) | (simp; done)))); (try simp only [hb, go_sem])))
                refine hK19 _ ?_; clear hK19 K19
                refine AWP.seqk fun K20 hK20 => ?_
                have hin2 := inB1 (s := kp ++ pc) (by omega)
                simp only [hin2]
                rw [frSum_end (by assumption), hc.1, hal]
                have w15 := wrapA (a := kp.length) (b := pc.length) (by omega)
                refine AWP.region ?_
                simp only [go_sem, w15] -- region 15
                repeat' (first | (refine AGuard.splitN (fun h => ?_) (fun h => ?_) <;> simp only [h, go_sem, w15] <;> try simp only [dD] at h) | (refine AGuard.split (fun h => ?_) (fun h => ?_) <;> simp only [h, go_sem, w15] <;> try simp only [dD] at h) | (refine AGet.haveM (by assumption) ?_; (try simp only [go_sem, w15])) | (refine AGet.have' (by assumption) ?_; (try simp only [go_sem, w15])) | ((first | refine AGet.nth ?_ (fun b hb => ?_) | refine AGet.nth1 ?_ (fun b hb => ?_) | with_reducible refine And.intro ?_ ?_); (focus ((first | omega | exact List.length_pos_iff.2 (by assumption) | (simp only [List.length_append, List.length_cons, List.length_nil, List.length_map, List.length_take, List.length_drop] at *; omega) | (rw [wrap64_id (by omega) (by omega)]; omega) | (simp; done)))); (try simp only [hb, go_sem, w15])))
                all_goals (
                  refine hK20 _ ?_; clear hK20 K20
                  refine AWP.ret ?_
                  try simp only [go_sem]
                  first
                  | exact ⟨[], .v _, rfl, rfl, rfl, rfl⟩
                  | skip)))))


set_option maxHeartbeats 4000000 in
set_option maxRecDepth 8000 in
theorem fd_junk_c (ja bd jb : Bs) : ACalls E 15 [bytesV ja, bytesV bd, bytesV jb] (fun r t => r = bl true ∧ t = []) := by -- checkroll/checkrolllaw04.FeedJunk
  have hF := put_len_le bd
  refine ACalls.of_awp (n := 127) (rs := [.tmp 6]) Tryd.func15 rfl Tryd.ntmps15 rfl ?_
  refine AWP.seqk fun K1 hK1 => ?_
  refine AWP.region ?_
  simp only [go_sem, List.nil_append] -- region 0
  repeat' (first | (refine AGet.haveM (by assumption) ?_; (try simp only [go_sem, List.nil_append])) | (refine AGet.have' (by assumption) ?_; (try simp only [go_sem, List.nil_append])) | ((first | refine AGet.nth ?_ (fun b hb => ?_) | refine AGet.nth1 ?_ (fun b hb => ?_) | with_reducible refine And.intro ?_ ?_); (focus ((first | omega | exact List.length_pos_iff.2 (by assumption) | (simp only [List.length_append, List.length_cons, List.length_nil, List.length_map, List.length_take, List.length_drop] at *; omega) | (rw [wrap64_id (by omega) (by omega)]; omega) | (simp; done)))); (try simp only [hb, go_sem, List.nil_append])))
  refine hK1 _ ?_; clear hK1 K1
  refine AWP.seqk fun K2 hK2 => ?_
  refine AWP.seqk fun K3 hK3 => ?_
  refine AWP.region ?_
  simp only [go_sem, List.nil_append] -- region 1
  repeat' (first | (refine ACall.one (awake4_c ) (by kernel_rfl) rfl ?_; simp only [go_sem, List.nil_append]) | (refine AGet.haveM (by assumption) ?_; (try simp only [go_sem, List.nil_append])) | (refine AGet.have' (by assumption) ?_; (try simp only [go_sem, List.nil_append])) | ((first | refine AGet.nth ?_ (fun b hb => ?_) | refine AGet.nth1 ?_ (fun b hb => ?_) | with_reducible refine And.intro ?_ ?_); (focus ((first | omega | exact List.length_pos_iff.2 (by assumption) | (simp only [List.length_append, List.length_cons, List.length_nil, List.length_map, List.length_take, List.length_drop] at *; omega) | (rw [wrap64_id (by omega) (by omega)]; omega) | (simp; done)))); (try simp only [hb, go_sem, List.nil_append])))
  refine hK3 _ ?_; clear hK3 K3
  refine AWP.cond rfl (fun c16 => ?_) (fun c16 => ?_)
  · first | exact Bool.noConfusion c16 | (
      try simp only [dD] at c16
      refine AWP.seqk fun K4 hK4 => ?_
      refine AWP.region ?_
      simp only [go_sem, List.nil_append] -- region 2
      repeat' (first | (refine AGet.haveM (by assumption) ?_; (try simp only [go_sem, List.nil_append])) | (refine AGet.have' (by assumption) ?_; (try simp only [go_sem, List.nil_append])) | ((first | refine AGet.nth ?_ (fun b hb => ?_) | refine AGet.nth1 ?_ (fun b hb => ?_) | with_reducible refine And.intro ?_ ?_); (focus ((first | omega | exact List.length_pos_iff.2 (by assumption) | (simp only [List.length_append, List.length_cons, List.length_nil, List.length_map, List.length_take, List.length_drop] at *; omega) | (rw [wrap64_id (by omega) (by omega)]; omega) | (simp; done)))); (try simp only [hb, go_sem, List.nil_append])))
      refine hK4 _ ?_; clear hK4 K4
      refine AWP.ret ?_
      try simp only [go_sem]
      clear hK2 K2
      first
      | exact ⟨[], .v _, rfl, rfl, rfl, rfl⟩
      | skip)
  · first | exact Bool.noConfusion c16 | (
      try simp only [dD] at c16
      refine AWP.skip ?_
      refine hK2 _ ?_; clear hK2 K2
      refine AWP.seqk fun K5 hK5 => ?_
      refine AWP.seqk fun K6 hK6 => ?_
      refine AWP.region ?_
      simp only [go_sem, List.nil_append] -- region 3
      repeat' (first | (refine AGuard.splitN (fun h => ?_) (fun h => ?_) <;> simp only [h, go_sem, List.nil_append] <;> try simp only [dD] at h) | (refine AGuard.split (fun h => ?_) (fun h => ?_) <;> simp only [h, go_sem, List.nil_append] <;> try simp only [dD] at h) | (refine AGet.haveM (by assumption) ?_; (try simp only [go_sem, List.nil_append])) | (refine AGet.have' (by assumption) ?_; (try simp only [go_sem, List.nil_append])) | ((first | refine AGet.nth ?_ (fun b hb => ?_) | refine AGet.nth1 ?_ (fun b hb => ?_) | with_reducible refine And.intro ?_ ?_); (focus ((first | omega | exact List.length_pos_iff.2 (by assumption) | (simp only [List.length_append, List.length_cons, List.length_nil, List.length_map, List.length_take, List.length_drop] at *; omega) | (rw [wrap64_id (by omega) (by omega)]; omega) | (simp; done)))); (try simp only [hb, go_sem, List.nil_append])))
      all_goals (
        refine hK6 _ ?_; clear hK6 K6
        refine AWP.cond rfl (fun c29 => ?_) (fun c29 => ?_)
        · first | exact Bool.noConfusion c29 | (
            try simp only [dD] at c29
            refine AWP.seqk fun K7 hK7 => ?_
            refine AWP.region ?_
            simp only [go_sem, List.nil_append] -- region 4
            repeat' (first | (refine AGet.haveM (by assumption) ?_; (try simp only [go_sem, List.nil_append])) | (refine AGet.have' (by assumption) ?_; (try simp only [go_sem, List.nil_append])) | ((first | refine AGet.nth ?_ (fun b hb => ?_) | refine AGet.nth1 ?_ (fun b hb => ?_) | with_reducible refine And.intro ?_ ?_); (focus ((first | omega | exact List.length_pos_iff.2 (by assumption) | (simp only [List.length_append, List.length_cons, List.length_nil, List.length_map, List.length_take, List.length_drop] at *; omega) | (rw [wrap64_id (by omega) (by omega)]; omega) | (simp; done)))); (try simp only [hb, go_sem, List.nil_append])))
            refine hK7 _ ?_; clear hK7 K7
            refine AWP.ret ?_
            try simp only [go_sem]
            clear hK5 K5
            first
            | exact ⟨[], .v _, rfl, rfl, rfl, rfl⟩
            | skip)
        · first | exact Bool.noConfusion c29 | (
            try simp only [dD] at c29
            refine AWP.skip ?_
            refine hK5 _ ?_; clear hK5 K5
            refine AWP.seqk fun K8 hK8 => ?_
            refine AWP.seqk fun K9 hK9 => ?_
            refine AWP.region ?_
            simp only [go_sem, List.nil_append] -- region 5
            repeat' (first | (refine AGet.haveM (by assumption) ?_; (try simp only [go_sem, List.nil_append])) | (refine AGet.have' (by assumption) ?_; (try simp only [go_sem, List.nil_append])) | ((first | refine AGet.nth ?_ (fun b hb => ?_) | refine AGet.nth1 ?_ (fun b hb => ?_) | with_reducible refine And.intro ?_ ?_); (focus ((first | omega | exact List.length_pos_iff.2 (by assumption) | (simp only [List.length_append, List.length_cons, List.length_nil, List.length_map, List.length_take, List.length_drop] at *; omega) | (rw [wrap64_id (by omega) (by omega)]; omega) | (simp; done)))); (try simp only [hb, go_sem, List.nil_append])))
            refine hK9 _ ?_; clear hK9 K9
            refine AWP.block ?_ -- 0
            refine AWP.loopH (ι := Nat) [6, 30, 31, 32, 33, 34, 35, 36, 37, 38, 39, 40] (fun (i : Nat) => [(7, i64 i)]) (fun (i : Nat) => i ≤ ja.length ∧ (56 : UInt8) ∉ ja.take i) (fun (i : Nat) => ja.length - i) (0) ?_ ?_ ?_
            · (try simp only [go_sem]); try (simp; done)
            · simp
            rintro i ⟨h1, h2⟩
            simp only [go_sem]
            refine AWP.seqk fun K10 hK10 => ?_
            refine AWP.seqk fun K11 hK11 => ?_
            refine AWP.region ?_
            simp only [go_sem, List.nil_append] -- region 6
            repeat' (first | (refine AGet.haveM (by assumption) ?_; (try simp only [go_sem, List.nil_append])) | (refine AGet.have' (by assumption) ?_; (try simp only [go_sem, List.nil_append])) | ((first | refine AGet.nth ?_ (fun b hb => ?_) | refine AGet.nth1 ?_ (fun b hb => ?_) | with_reducible refine And.intro ?_ ?_); (focus ((first | omega | exact List.length_pos_iff.2 (by assumption) | (simp only [List.length_append, List.length_cons, List.length_nil, List.length_map, List.length_take, List.length_drop] at *; omega) | (rw [wrap64_id (by omega) (by omega)]; omega) | (simp; done)))); (try simp only [hb, go_sem, List.nil_append])))
            refine hK11 _ ?_; clear hK11 K11
            refine AWP.cond rfl (fun c33 => ?_) (fun c33 => ?_)
            · first | exact Bool.noConfusion c33 | (
                try simp only [dD] at c33
                refine AWP.skip ?_
                refine hK10 _ ?_; clear hK10 K10
                refine AWP.seqk fun K12 hK12 => ?_
                refine AWP.block ?_ -- 1
                refine AWP.seqk fun K13 hK13 => ?_
                refine AWP.region ?_
                simp only [go_sem, List.nil_append] -- region 8
                repeat' (first | (refine AGet.haveM (by assumption) ?_; (try simp only [go_sem, List.nil_append])) | (refine AGet.have' (by assumption) ?_; (try simp only [go_sem, List.nil_append])) | ((first | refine AGet.nth ?_ (fun b hb => ?_) | refine AGet.nth1 ?_ (fun b hb => ?_) | with_reducible refine And.intro ?_ ?_); (focus ((first | omega | exact List.length_pos_iff.2 (by assumption) | (simp only [List.length_append, List.length_cons, List.length_nil, List.length_map, List.length_take, List.length_drop] at *; omega) | (rw [wrap64_id (by omega) (by omega)]; omega) | (simp; done)))); (try simp only [hb, go_sem, List.nil_append])))
                refine hK13 _ ?_; clear hK13 K13
                refine AWP.cond rfl (fun c40 => ?_) (fun c40 => ?_)
                · first | exact Bool.noConfusion c40 | (
                    try simp only [dD] at c40
                    refine AWP.seqk fun K14 hK14 => ?_
                    refine AWP.region ?_
                    simp only [go_sem, List.nil_append] -- region 9
                    repeat' (first | (refine AGet.haveM (by assumption) ?_; (try simp only [go_sem, List.nil_append])) | (refine AGet.have' (by assumption) ?_; (try simp only [go_sem, List.nil_append])) | ((first | refine AGet.nth ?_ (fun b hb => ?_) | refine AGet.nth1 ?_ (fun b hb => ?_) | with_reducible refine And.intro ?_ ?_); (focus ((first | omega | exact List.length_pos_iff.2 (by assumption) | (simp only [List.length_append, List.length_cons, List.length_nil, List.length_map, List.length_take, List.length_drop] at *; omega) | (rw [wrap64_id (by omega) (by omega)]; omega) | (simp; done)))); (try simp only [hb, go_sem, List.nil_append])))
                    refine hK14 _ ?_; clear hK14 K14
                    refine AWP.ret ?_
                    try simp only [go_sem]
                    clear hK12 K12 hK8 K8
                    first
                    | exact ⟨[], .v _, rfl, rfl, rfl, rfl⟩
                    | skip)
                · first | exact Bool.noConfusion c40 | (
                    try simp only [dD] at c40
                    refine AWP.skip ?_
                    refine hK12 _ ?_; clear hK12 K12
                    refine AWP.region ?_
                    simp only [go_sem, List.nil_append] -- region 7
                    repeat' (first | (refine AGet.haveM (by assumption) ?_; (try simp only [go_sem, List.nil_append])) | (refine AGet.have' (by assumption) ?_; (try simp only [go_sem, List.nil_append])) | ((first | refine AGet.nth ?_ (fun b hb => ?_) | refine AGet.nth1 ?_ (fun b hb => ?_) | with_reducible refine And.intro ?_ ?_); (focus ((first | omega | exact List.length_pos_iff.2 (by assumption) | (simp only [List.length_append, List.length_cons, List.length_nil, List.length_map, List.length_take, List.length_drop] at *; omega) | (rw [wrap64_id (by omega) (by omega)]; omega) | (simp; done)))); (try simp only [hb, go_sem, List.nil_append])))
                    clear hK8 K8
                    refine ⟨i + 1, ?_, ?_, ?_⟩
                    · (try simp only [go_sem]); (try rw [wrap64_id (by omega) (by omega)]); simp
                    · exact ⟨by omega, nmem_next hb h2 (u8_ne (n := 56) (by assumption) rfl)⟩
                    · omega))
            · first | exact Bool.noConfusion c33 | (
                try simp only [dD] at c33
                refine AWP.exit ?_
                simp only [go_sem]
                clear hK10 K10
                refine hK8 _ ?_; clear hK8 K8
                refine AWP.seqk fun K15 hK15 => ?_
                refine AWP.seqk fun K16 hK16 => ?_
                have h8 := no8_end (by assumption) h2
                clear h1 h2
                refine AWP.region ?_
                simp only [go_sem, List.nil_append] -- region 10
                repeat' (first | (refine AGet.haveM (by assumption) ?_; (try simp only [go_sem, List.nil_append])) | (refine AGet.have' (by assumption) ?_; (try simp only [go_sem, List.nil_append])) | ((first | refine AGet.nth ?_ (fun b hb => ?_) | refine AGet.nth1 ?_ (fun b hb => ?_) | with_reducible refine And.intro ?_ ?_); (focus ((first | omega | exact List.length_pos_iff.2 (by assumption) | (simp only [List.length_append, List.length_cons, List.length_nil, List.length_map, List.length_take, List.length_drop] at *; omega) | (rw [wrap64_id (by omega) (by omega)]; omega) | (simp; done)))); (try simp only [hb, go_sem, List.nil_append])))
                refine hK16 _ ?_; clear hK16 K16
                refine AWP.block ?_ -- 2
                refine AWP.loopH (ι := Nat) [6, 41, 42, 43, 44, 45, 46, 47, 48, 49, 50, 51] (fun (i : Nat) => [(8, i64 i)]) (fun (i : Nat) => i ≤ jb.length ∧ (56 : UInt8) ∉ jb.take i) (fun (i : Nat) => jb.length - i) (0) ?_ ?_ ?_
                · (try simp only [go_sem]); try (simp; done)
                · simp
                rintro i ⟨k1, k2⟩
                simp only [go_sem]
                refine AWP.seqk fun K17 hK17 => ?_
                refine AWP.seqk fun K18 hK18 => ?_
                refine AWP.region ?_
                simp only [go_sem, List.nil_append] -- region 11
                repeat' (first | (refine AGet.haveM (by assumption) ?_; (try simp only [go_sem, List.nil_append])) | (refine AGet.have' (by assumption) ?_; (try simp only [go_sem, List.nil_append])) | ((first | refine AGet.nth ?_ (fun b hb => ?_) | refine AGet.nth1 ?_ (fun b hb => ?_) | with_reducible refine And.intro ?_ ?_); (focus ((first | omega | exact List.length_pos_iff.2 (by assumption) | (simp only [List.length_append, List.length_cons, List.length_nil, List.length_map, List.length_take, List.length_drop] at *; omega) | (rw [wrap64_id (by omega) (by omega)]; omega) | (simp; done)))); (try simp only [hb, go_sem, List.nil_append])))
                refine hK18 _ ?_; clear hK18 K18
                refine AWP.cond rfl (fun c44 => ?_) (fun c44 => ?_)
                · first | exact Bool.noConfusion c44 | (
                    try simp only [dD] at c44
                    refine AWP.skip ?_
                    refine hK17 _ ?_; clear hK17 K17
                    refine AWP.seqk fun K19 hK19 => ?_
                    refine AWP.block ?_ -- 3
                    refine AWP.seqk fun K20 hK20 => ?_
                    refine AWP.region ?_
                    simp only [go_sem, List.nil_append] -- region 13
                    repeat' (first | (refine AGet.haveM (by assumption) ?_; (try simp only [go_sem, List.nil_append])) | (refine AGet.have' (by assumption) ?_; (try simp only [go_sem, List.nil_append])) | ((first | refine AGet.nth ?_ (fun b hb => ?_) | refine AGet.nth1 ?_ (fun b hb => ?_) | with_reducible refine And.intro ?_ ?_); (focus ((first | omega | exact List.length_pos_iff.2 (by assumption) | (simp only [List.length_append, List.length_cons, List.length_nil, List.length_map, List.length_take, List.length_drop] at *; omega) | (rw [wrap64_id (by omega) (by omega)]; omega) | (simp; done)))); (try simp only [hb, go_sem, List.nil_append])))
                    refine hK20 _ ?_; clear hK20 K20
                    refine AWP.cond rfl (fun c51 => ?_) (fun c51 => ?_)
                    · first | exact Bool.noConfusion c51 | (
                        try simp only [dD] at c51
                        refine AWP.seqk fun K21 hK21 => ?_
                        refine AWP.region ?_
                        simp only [go_sem, List.nil_append] -- region 14
                        repeat' (first | (refine AGet.haveM (by assumption) ?_; (try simp only [go_sem, List.nil_append])) | (refine AGet.have' (by assumption) ?_; (try simp only [go_sem, List.nil_append])) | ((first | refine AGet.nth ?_ (fun b hb => ?_) | refine AGet.nth1 ?_ (fun b hb => ?_) | with_reducible refine And.intro ?_ ?_); (focus ((first | omega | exact List.length_pos_iff.2 (by assumption) | (simp only [List.length_append, List.length_cons, List.length_nil, List.length_map, List.length_take, List.length_drop] at *; omega) | (rw [wrap64_id (by omega) (by omega)]; omega) | (simp; done)))); (try simp only [hb, go_sem, List.nil_append])))
                        refine hK21 _ ?_; clear hK21 K21
                        refine AWP.ret ?_
                        try simp only [go_sem]
                        clear hK19 K19 hK15 K15
                        first
                        | exact ⟨[], .v _, rfl, rfl, rfl, rfl⟩
                        | skip)
                    · first | exact Bool.noConfusion c51 | (
                        try simp only [dD] at c51
                        refine AWP.skip ?_
                        refine hK19 _ ?_; clear hK19 K19
                        refine AWP.region ?_
                        simp only [go_sem, List.nil_append] -- region 12
                        repeat' (first | (refine AGet.haveM (by assumption) ?_; (try simp only [go_sem, List.nil_append])) | (refine AGet.have' (by assumption) ?_; (try simp only [go_sem, List.nil_append])) | ((first | refine AGet.nth ?_ (fun b hb => ?_) | refine AGet.nth1 ?_ (fun b hb => ?_) | with_reducible refine And.intro ?_ ?_); (focus ((first | omega | exact List.length_pos_iff.2 (by assumption) | (simp only [List.length_append, List.length_cons, List.length_nil, List.length_map, List.length_take, List.length_drop] at *; omega) | (rw [wrap64_id (by omega) (by omega)]; omega) | (simp; done)))); (try simp only [hb, go_sem, List.nil_append])))
                        clear hK15 K15
                        refine ⟨i + 1, ?_, ?_, ?_⟩
                        · (try simp only [go_sem]); (try rw [wrap64_id (by omega) (by omega)]); simp
                        · exact ⟨by omega, nmem_next hb k2 (u8_ne (n := 56) (by assumption) rfl)⟩
                        · omega))
                · first | exact Bool.noConfusion c44 | (
                    try simp only [dD] at c44
                    refine AWP.exit ?_
                    simp only [go_sem]
                    clear hK17 K17
                    refine hK15 _ ?_; clear hK15 K15
                    refine AWP.seqk fun K22 hK22 => ?_
                    have k8 := no8_end (by assumption) k2
                    refine AWP.region ?_
                    simp only [go_sem, List.nil_append] -- region 15
                    repeat' (first | (refine ACall.of (in_nil_c ja (by omega)) (by kernel_rfl) rfl ?_; rintro r t ⟨rfl, rfl⟩ <;> simp only [go_sem, List.nil_append]) | (refine ACall.of (in_nil_c (ja ++ (putB bd).1 ++ jb) (by (try simp only [List.length_append, List.length_take, List.length_drop, List.length_cons, List.length_nil]); omega)) (by kernel_rfl) rfl ?_; rintro r t ⟨rfl, rfl⟩ <;> simp only [go_sem, List.nil_append]) | (refine AGet.haveM (by assumption) ?_; (try simp only [go_sem, List.nil_append])) | (refine AGet.have' (by assumption) ?_; (try simp only [go_sem, List.nil_append])) | ((first | refine AGet.nth ?_ (fun b hb => ?_) | refine AGet.nth1 ?_ (fun b hb => ?_) | with_reducible refine And.intro ?_ ?_); (focus ((first | omega | exact List.length_pos_iff.2 (by assumption) | (simp only [List.length_append, List.length_cons, List.length_nil, List.length_map, List.length_take, List.length_drop] at *; omega) | (rw [wrap64_id (by omega) (by omega)]; omega) | (simp; done)))); (try simp only [hb, go_sem, List.nil_append])))
                    refine hK22 _ ?_; clear hK22 K22
                    refine AWP.seqk fun K23 hK23 => ?_
                    refine AWP.seqk fun K24 hK24 => ?_
                    have hin : inB [] ja = ([], [], (ja.length : Int), 0) := by rw [inB0 (by omega), junk_no8 h8]
                    simp only [hin]
                    refine AWP.region ?_
                    simp only [go_sem, List.nil_append, List.map_nil, List.length_nil] -- region 16
                    repeat' (first | (refine AGuard.splitN (fun h => ?_) (fun h => ?_) <;> simp only [h, go_sem, List.nil_append, List.map_nil, List.length_nil] <;> try simp only [dD] at h) | (refine AGuard.split (fun h => ?_) (fun h => ?_) <;> simp only [h, go_sem, List.nil_append, List.map_nil, List.length_nil] <;> try simp only [dD] at h) | (refine AGet.haveM (by assumption) ?_; (try simp only [go_sem, List.nil_append, List.map_nil, List.length_nil])) | (refine AGet.have' (by assumption) ?_; (try simp only [go_sem, List.nil_append, List.map_nil, List.length_nil])) | ((first | refine AGet.nth ?_ (fun b hb => ?_) | refine AGet.nth1 ?_ (fun b hb => ?_) | with_reducible refine And.intro ?_ ?_); (focus ((first | omega | exact List.length_pos_iff.2 (by assumption) | (simp only [List.length_append, List.length_cons, List.length_nil, List.length_map, List.length_take, List.length_drop] at *; omega) | (rw [wrap64_id (by omega) (by omega)]; omega) | (simp; done)))); (try simp only [hb, go_sem, List.nil_append, List.map_nil, List.length_nil])))
                    all_goals (
                      refine hK24 _ ?_; clear hK24 K24
                      refine AWP.cond rfl (fun c76 => ?_) (fun c76 => ?_)
                      · first | exact Bool.noConfusion c76 | (
                          try simp only [dD] at c76
                          refine AWP.seqk fun K25 hK25 => ?_
                          refine AWP.region ?_
                          simp only [go_sem, List.nil_append] -- region 17
                          repeat' (first | (refine AGet.haveM (by assumption) ?_; (try simp only [go_sem, List.nil_append])) | (refine AGet.have' (by assumption) ?_; (try simp only [go_sem, List.nil_append])) | ((first | refine AGet.nth ?_ (fun b hb => ?_) | refine AGet.nth1 ?_ (fun b hb => ?_) | with_reducible refine And.intro ?_ ?_); (focus ((first | omega | exact List.length_pos_iff.2 (by assumption) | (simp only [List.length_append, List.length_cons, List.length_nil, List.length_map, List.length_take, List.length_drop] at *; omega) | (rw [wrap64_id (by omega) (by omega)]; omega) | (simp; done)))); (try simp only [hb, go_sem, List.nil_append])))
                          refine hK25 _ ?_; clear hK25 K25
                          refine AWP.ret ?_
                          try simp only [go_sem]
                          clear hK23 K23
                          first
                          | exact ⟨[], .v _, rfl, rfl, rfl, rfl⟩
                          | skip)
                      · first | exact Bool.noConfusion c76 | (
                          try simp only [dD] at c76
                          refine AWP.skip ?_
                          refine hK23 _ ?_; clear hK23 K23
                          refine AWP.seqk fun K26 hK26 => ?_
                          refine AWP.region ?_
                          simp only [go_sem, List.nil_append] -- region 18
                          repeat' (first | (refine ACall.of (mput_c _) (by kernel_rfl) rfl ?_; rintro r t ⟨rfl, rfl⟩ <;> simp only [go_sem, List.nil_append]) | (refine AGet.haveM (by assumption) ?_; (try simp only [go_sem, List.nil_append])) | (refine AGet.have' (by assumption) ?_; (try simp only [go_sem, List.nil_append])) | ((first | refine AGet.nth ?_ (fun b hb => ?_) | refine AGet.nth1 ?_ (fun b hb => ?_) | with_reducible refine And.intro ?_ ?_); (focus ((first | omega | exact List.length_pos_iff.2 (by assumption) | (simp only [List.length_append, List.length_cons, List.length_nil, List.length_map, List.length_take, List.length_drop] at *; omega) | (rw [wrap64_id (by omega) (by omega)]; omega) | (simp; done)))); (try simp only [hb, go_sem, List.nil_append])))
                          refine hK26 _ ?_; clear hK26 K26
                          refine AWP.seqk fun K27 hK27 => ?_
                          refine AWP.seqk fun K28 hK28 => ?_
                          refine AWP.region ?_
                          simp only [go_sem, List.nil_append] -- region 19
                          repeat' (first | (refine AGet.haveM (by assumption) ?_; (try simp only [go_sem, List.nil_append])) | (refine AGet.have' (by assumption) ?_; (try simp only [go_sem, List.nil_append])) | ((first | refine AGet.nth ?_ (fun b hb => ?_) | refine AGet.nth1 ?_ (fun b hb => ?_) | with_reducible refine And.intro ?_ ?_); (focus ((first | omega | exact List.length_pos_iff.2 (by assumption) | (simp only [List.length_append, List.length_cons, List.length_nil, List.length_map, List.length_take, List.length_drop] at *; omega) | (rw [wrap64_id (by omega) (by omega)]; omega) | (simp; done)))); (try simp only [hb, go_sem, List.nil_append])))
                          refine hK28 _ ?_; clear hK28 K28
                          refine AWP.cond rfl (fun c83 => ?_) (fun c83 => ?_)
                          · first | exact Bool.noConfusion c83 | (
                              try simp only [dD] at c83
                              refine AWP.seqk fun K29 hK29 => ?_
                              refine AWP.region ?_
                              simp only [go_sem, List.nil_append] -- region 20
                              repeat' (first | (refine AGet.haveM (by assumption) ?_; (try simp only [go_sem, List.nil_append])) | (refine AGet.have' (by assumption) ?_; (try simp only [go_sem, List.nil_append])) | ((first | refine AGet.nth ?_ (fun b hb => ?_) | refine AGet.nth1 ?_ (fun b hb => ?_) | with_reducible refine And.intro ?_ ?_); (focus ((first | omega | exact List.length_pos_iff.2 (by assumption) | (simp only [List.length_append, List.length_cons, List.length_nil, List.length_map, List.length_take, List.length_drop] at *; omega) | (rw [wrap64_id (by omega) (by omega)]; omega) | (simp; done)))); (try simp only [hb, go_sem, List.nil_append])))
                              refine hK29 _ ?_; clear hK29 K29
                              refine AWP.ret ?_
                              try simp only [go_sem]
                              clear hK27 K27
                              first
                              | exact ⟨[], .v _, rfl, rfl, rfl, rfl⟩
                              | skip)
                          · first | exact Bool.noConfusion c83 | (
                              try simp only [dD] at c83
                              refine AWP.skip ?_
                              refine hK27 _ ?_; clear hK27 K27
                              refine AWP.seqk fun K30 hK30 => ?_
                              refine AWP.region ?_
                              simp only [go_sem, List.nil_append] -- region 21
                              repeat' (first | (refine ACall.of (in_nil_c ja (by omega)) (by kernel_rfl) rfl ?_; rintro r t ⟨rfl, rfl⟩ <;> simp only [go_sem, List.nil_append]) | (refine ACall.of (in_nil_c (ja ++ (putB bd).1 ++ jb) (by (try simp only [List.length_append, List.length_take, List.length_drop, List.length_cons, List.length_nil]); omega)) (by kernel_rfl) rfl ?_; rintro r t ⟨rfl, rfl⟩ <;> simp only [go_sem, List.nil_append]) | (refine AGet.haveM (by assumption) ?_; (try simp only [go_sem, List.nil_append])) | (refine AGet.have' (by assumption) ?_; (try simp only [go_sem, List.nil_append])) | ((first | refine AGet.nth ?_ (fun b hb => ?_) | refine AGet.nth1 ?_ (fun b hb => ?_) | with_reducible refine And.intro ?_ ?_); (focus ((first | omega | exact List.length_pos_iff.2 (by assumption) | (simp only [List.length_append, List.length_cons, List.length_nil, List.length_map, List.length_take, List.length_drop] at *; omega) | (rw [wrap64_id (by omega) (by omega)]; omega) | (simp; done)))); (try simp only [hb, go_sem, List.nil_append])))
                              refine hK30 _ ?_; clear hK30 K30
                              refine AWP.seqk fun K31 hK31 => ?_
                              have hok : (putB bd).2 = 0 := by assumption
                              have hin2 : inB [] (ja ++ (putB bd).1 ++ jb) = ([], [bd], ((ja.length + jb.length : Nat) : Int), 0) := by rw [inB0 (by (try simp only [List.length_append, List.length_take, List.length_drop, List.length_cons, List.length_nil]); omega), run_junk_frame h8 k8 hok]
                              have w22 := wrapA (a := ja.length) (b := jb.length) (by omega)
                              simp only [hin2]
                              refine AWP.regionAs [0, 1, 2, 3, 4, 5, 6, 7, 8, 9, 10, 11, 12, 13, 14, 15, 16, 17, 18, 19, 20, 21, 22, 23, 24, 25, 26, 27, 28, 29, 30] [[], [0], [0, 1], [0, 1, 2], [0, 1, 2, 3], [0, 1, 2, 3, 4], [0, 1, 2, 3, 4, 5], [0, 1, 2, 3, 4, 5, 6], [0, 1, 2, 3, 4, 5, 6, 7], [0, 1, 2, 3, 4, 5, 6, 7, 8], [0, 1, 2, 3, 4, 5, 6, 7, 8, 9], [0, 1, 2, 3, 4, 5, 6, 7, 8, 9, 10], [0, 1, 2, 3, 4, 5, 6, 7, 8, 9, 10, 11], [0, 1, 2, 3, 4, 5, 6, 7, 8, 9, 10, 11, 12], [0, 1, 2, 3, 4, 5, 6, 7, 8, 9, 10, 11, 12, 13], [0, 1, 2, 3, 4, 5, 6, 7, 8, 9, 10, 11, 12, 13, 14], [0, 1, 2, 3, 4, 5, 6, 7, 8, 9, 10, 11, 12, 13, 14, 15], [0, 1, 2, 3, 4, 5, 6, 7, 8, 9, 10, 11, 12], [0, 1, 2, 3, 4, 5, 6, 7, 8, 9, 10, 11, 12, 17], [0, 1, 2, 3, 4, 5, 6, 7, 8, 9, 10, 11, 12, 13, 14, 15, 16, 17, 18], [0, 1, 2, 3, 4, 5, 6, 7, 8, 9, 10, 11, 12, 13, 14, 15, 16, 17, 18, 19], [0, 1, 2, 3, 4, 5, 6, 7, 8, 9, 10, 11, 12, 13, 14, 15, 16, 17, 18, 19, 20], [0, 1, 2, 3, 4, 5, 6, 7, 8, 9, 10, 11, 12, 13, 14, 15, 16, 17, 18, 19, 20, 21], [0, 1, 2, 3, 4, 5, 6, 7, 8, 9, 10, 11, 12, 13, 14, 15, 16, 17, 18, 19, 20, 21], [0, 1, 2, 3, 4, 5, 6, 7, 8, 9, 10, 11, 12, 13, 14, 15, 16, 17, 18, 19, 20, 21, 23], [0, 1, 2, 3, 4, 5, 6, 7, 8, 9, 10, 11, 12, 13, 14, 15, 16, 17, 18, 19, 20, 21], [0, 1, 2, 3, 4, 5, 6, 7, 8, 9, 10, 11, 12, 13, 14, 15, 16, 17, 18, 19, 20, 21, 25], [0, 1, 2, 3, 4, 5, 6, 7, 8, 9, 10, 11, 12, 13, 14, 15, 16, 17, 18, 19, 20, 21, 23, 24, 25, 26], [0, 1, 2, 3, 4, 5, 6, 7, 8, 9, 10, 11, 12, 13, 14, 15, 16, 17, 18, 19, 20, 21, 22, 23, 24, 25, 26, 27], [0, 1, 2, 3, 4, 5, 6, 7, 8, 9, 10, 11, 12, 13, 14, 15, 16, 17, 18, 19, 20, 21, 22, 23, 24, 25, 26, 27, 28], [0, 1, 2, 3, 4, 5, 6, 7, 8, 9, 10, 11, 12, 13, 14, 15, 16, 17, 18, 19, 20, 21, 22, 23, 24, 25, 26, 27, 28, 29]] [] (by kernel_rfl) (by kernel_rfl) (by decide) rfl ?_
                              simp only [go_sem, List.nil_append, w22, List.map_cons, List.map_nil, List.length_nil, List.length_cons, List.getElem?_cons_zero] -- region 22
                              repeat' (first | (refine AGuard.splitN (fun h => ?_) (fun h => ?_) <;> simp only [h, go_sem, List.nil_append, w22, List.map_cons, List.map_nil, List.length_nil, List.length_cons, List.getElem?_cons_zero] <;> try simp only [dD] at h) | (refine AGuard.split (fun h => ?_) (fun h => ?_) <;> simp only [h, go_sem, List.nil_append, w22, List.map_cons, List.map_nil, List.length_nil, List.length_cons, List.getElem?_cons_zero] <;> try simp only [dD] at h) | (refine AGet.haveM (by assumption) ?_; (try simp only [go_sem, List.nil_append, w22, List.map_cons, List.map_nil, List.length_nil, List.length_cons, List.getElem?_cons_zero])) | (refine AGet.have' (by assumption) ?_; (try simp only [go_sem, List.nil_append, w22, List.map_cons, List.map_nil, List.length_nil, List.length_cons, List.getElem?_cons_zero])) | ((first | refine AGet.nth ?_ (fun b hb => ?_) | refine AGet.nth1 ?_ (fun b hb => ?_) | with_reducible refine And.intro ?_ ?_); (focus ((first | omega | exact List.length_pos_iff.2 (by assumption) | (simp only [List.length_append, List.length_cons, List.length_nil, List.length_map, List.length_take, List.length_drop] at *; omega) | (rw [wrap64_id (by omega) (by omega)]; omega) | (simp; done)))); (try simp only [hb, go_sem, List.nil_append, w22, List.map_cons, List.map_nil, List.length_nil, List.length_cons, List.getElem?_cons_zero])))
                              all_goals (
                                refine hK31 _ ?_; clear hK31 K31
                                refine AWP.ret ?_
                                try simp only [go_sem]
                                first
                                | exact ⟨[], .v _, rfl, rfl, rfl, rfl⟩
                                | skip)))))))))


set_option maxHeartbeats 8000000 in
set_option maxRecDepth 8000 in
theorem fd_pieces_c (st cu : Bs) : ACalls E 13 [bytesV st, bytesV cu] (fun r t => r = bl true ∧ t = []) := by -- checkroll/checkrolllaw04.FeedPieces
  have hsl := runB_len st
  refine ACalls.of_awp (n := 98) (rs := [.tmp 4]) Tryd.func13 rfl Tryd.ntmps13 rfl ?_
  refine AWP.seqk fun K1 hK1 => ?_
  refine AWP.region ?_
  simp only [go_sem] -- region 0
  repeat' (first | (refine AGet.haveM (by assumption) ?_; (try simp only [go_sem])) | (refine AGet.have' (by assumption) ?_; (try simp only [go_sem])) | ((first | refine AGet.nth ?_ (fun b hb => ?_) | refine AGet.nth1 ?_ (fun b hb => ?_) | with_reducible refine And.intro ?_ ?_); (focus ((first | omega | exact List.length_pos_iff.2 (by assumption) | (simp only [List.length_append, List.length_cons, List.length_nil, List.length_map, List.length_take, List.length_drop] at *; omega) | (rw [wrap64_id (by omega) (by omega)]; omega) | (simp; done)))); (try simp only [hb, go_sem])))
  refine hK1 _ ?_; clear hK1 K1
  refine AWP.seqk fun K2 hK2 => ?_
  refine AWP.seqk fun K3 hK3 => ?_
  refine AWP.region ?_
  simp only [go_sem] -- region 1
  repeat' (first | (refine ACall.one (awake4_c ) (by kernel_rfl) rfl ?_; simp only [go_sem]) | (refine AGet.haveM (by assumption) ?_; (try simp only [go_sem])) | (refine AGet.have' (by assumption) ?_; (try simp only [go_sem])) | ((first | refine AGet.nth ?_ (fun b hb => ?_) | refine AGet.nth1 ?_ (fun b hb => ?_) | with_reducible refine And.intro ?_ ?_); (focus ((first | omega | exact List.length_pos_iff.2 (by assumption) | (simp only [List.length_append, List.length_cons, List.length_nil, List.length_map, List.length_take, List.length_drop] at *; omega) | (rw [wrap64_id (by omega) (by omega)]; omega) | (simp; done)))); (try simp only [hb, go_sem])))
  refine hK3 _ ?_; clear hK3 K3
  refine AWP.cond rfl (fun c20 => ?_) (fun c20 => ?_)
  · first | exact Bool.noConfusion c20 | (
      try simp only [dD] at c20
      refine AWP.seqk fun K4 hK4 => ?_
      refine AWP.region ?_
      simp only [go_sem] -- region 2
      repeat' (first | (refine AGet.haveM (by assumption) ?_; (try simp only [go_sem])) | (refine AGet.have' (by assumption) ?_; (try simp only [go_sem])) | ((first | refine AGet.nth ?_ (fun b hb => ?_) | refine AGet.nth1 ?_ (fun b hb => ?_) | with_reducible refine And.intro ?_ ?_); (focus ((first | omega | exact List.length_pos_iff.2 (by assumption) | (simp only [List.length_append, List.length_cons, List.length_nil, List.length_map, List.length_take, List.length_drop] at *; omega) | (rw [wrap64_id (by omega) (by omega)]; omega) | (simp; done)))); (try simp only [hb, go_sem])))
      refine hK4 _ ?_; clear hK4 K4
      refine AWP.ret ?_
      try simp only [go_sem]
      clear hK2 K2
      first
      | exact ⟨[], .v _, rfl, rfl, rfl, rfl⟩
      | skip)
  · first | exact Bool.noConfusion c20 | (
      try simp only [dD] at c20
      refine AWP.skip ?_
      refine hK2 _ ?_; clear hK2 K2
      refine AWP.seqk fun K5 hK5 => ?_
      refine AWP.seqk fun K6 hK6 => ?_
      refine AWP.region ?_
      simp only [go_sem] -- region 3
      repeat' (first | (refine AGuard.splitN (fun h => ?_) (fun h => ?_) <;> simp only [h, go_sem] <;> try simp only [dD] at h) | (refine AGuard.split (fun h => ?_) (fun h => ?_) <;> simp only [h, go_sem] <;> try simp only [dD] at h) | (refine AGet.haveM (by assumption) ?_; (try simp only [go_sem])) | (refine AGet.have' (by assumption) ?_; (try simp only [go_sem])) | ((first | refine AGet.nth ?_ (fun b hb => ?_) | refine AGet.nth1 ?_ (fun b hb => ?_) | with_reducible refine And.intro ?_ ?_); (focus ((first | omega | exact List.length_pos_iff.2 (by assumption) | (simp only [List.length_append, List.length_cons, List.length_nil, List.length_map, List.length_take, List.length_drop] at *; omega) | (rw [wrap64_id (by omega) (by omega)]; omega) | (simp; done)))); (try simp only [hb, go_sem])))
      all_goals (
        refine hK6 _ ?_; clear hK6 K6
        refine AWP.cond rfl (fun c28 => ?_) (fun c28 => ?_)
        · first | exact Bool.noConfusion c28 | (
            try simp only [dD] at c28
            refine AWP.seqk fun K7 hK7 => ?_
            refine AWP.region ?_
            simp only [go_sem] -- region 4
            repeat' (first | (refine AGet.haveM (by assumption) ?_; (try simp only [go_sem])) | (refine AGet.have' (by assumption) ?_; (try simp only [go_sem])) | ((first | refine AGet.nth ?_ (fun b hb => ?_) | refine AGet.nth1 ?_ (fun b hb => ?_) | with_reducible refine And.intro ?_ ?_); (focus ((first | omega | exact List.length_pos_iff.2 (by assumption) | (simp only [List.length_append, List.length_cons, List.length_nil, List.length_map, List.length_take, List.length_drop] at *; omega) | (rw [wrap64_id (by omega) (by omega)]; omega) | (simp; done)))); (try simp only [hb, go_sem])))
            refine hK7 _ ?_; clear hK7 K7
            refine AWP.ret ?_
            try simp only [go_sem]
            clear hK5 K5
            first
            | exact ⟨[], .v _, rfl, rfl, rfl, rfl⟩
            | skip)
        · first | exact Bool.noConfusion c28 | (
            try simp only [dD] at c28
            refine AWP.skip ?_
            refine hK5 _ ?_; clear hK5 K5
            refine AWP.seqk fun K8 hK8 => ?_
            refine AWP.region ?_
            simp only [go_sem] -- region 5
            repeat' (first | (refine ACall.of (in_nil_c st (by omega)) (by kernel_rfl) rfl ?_; rintro r t ⟨rfl, rfl⟩ <;> simp only [go_sem]) | (refine ACall.of (in_c (runB (st.take a)).1 ((st.take e).drop a) (by omega) (by omega)) (by kernel_rfl) rfl ?_; rintro r t ⟨rfl, rfl⟩ <;> simp only [go_sem]) | (refine AGet.haveM (by assumption) ?_; (try simp only [go_sem])) | (refine AGet.have' (by assumption) ?_; (try simp only [go_sem])) | ((first | refine AGet.nth ?_ (fun b hb => ?_) | refine AGet.nth1 ?_ (fun b hb => ?_) | with_reducible refine And.intro ?_ ?_); (focus ((first | omega | exact List.length_pos_iff.2 (by assumption) | (simp only [List.length_append, List.length_cons, List.length_nil, List.length_map, List.length_take, List.length_drop] at *; omega) | (rw [wrap64_id (by omega) (by omega)]; omega) | (simp; done)))); (try simp only [hb, go_sem])))
            refine hK8 _ ?_; clear hK8 K8
            refine AWP.seqk fun K9 hK9 => ?_
            have hin := inB0 (s := st) (by omega)
            simp only [hin]
            refine AWP.region ?_
            simp only [go_sem] -- region 6
            repeat' (first | (refine AGet.haveM (by assumption) ?_; (try simp only [go_sem])) | (refine AGet.have' (by assumption) ?_; (try simp only [go_sem])) | ((first | refine AGet.nth ?_ (fun b hb => ?_) | refine AGet.nth1 ?_ (fun b hb => ?_) | with_reducible refine And.intro ?_ ?_); (focus ((first | omega | exact List.length_pos_iff.2 (by assumption) | (simp only [List.length_append, List.length_cons, List.length_nil, List.length_map, List.length_take, List.length_drop] at *; omega) | (rw [wrap64_id (by omega) (by omega)]; omega) | (simp; done)))); (try simp only [hb, go_sem])))
            refine hK9 _ ?_; clear hK9 K9
            refine AWP.seqk fun K10 hK10 => ?_
            refine AWP.region ?_
            simp only [go_sem] -- region 7
            repeat' (first | (refine AGet.haveM (by assumption) ?_; (try simp only [go_sem])) | (refine AGet.have' (by assumption) ?_; (try simp only [go_sem])) | ((first | refine AGet.nth ?_ (fun b hb => ?_) | refine AGet.nth1 ?_ (fun b hb => ?_) | with_reducible refine And.intro ?_ ?_); (focus ((first | omega | exact List.length_pos_iff.2 (by assumption) | (simp only [List.length_append, List.length_cons, List.length_nil, List.length_map, List.length_take, List.length_drop] at *; omega) | (rw [wrap64_id (by omega) (by omega)]; omega) | (simp; done)))); (try simp only [hb, go_sem])))
            refine hK10 _ ?_; clear hK10 K10
            refine AWP.seqk fun K11 hK11 => ?_
            refine AWP.region ?_
            simp only [go_sem] -- region 8
            repeat' (first | (refine AGet.haveM (by assumption) ?_; (try simp only [go_sem])) | (refine AGet.have' (by assumption) ?_; (try simp only [go_sem])) | ((first | refine AGet.nth ?_ (fun b hb => ?_) | refine AGet.nth1 ?_ (fun b hb => ?_) | with_reducible refine And.intro ?_ ?_); (focus ((first | omega | exact List.length_pos_iff.2 (by assumption) | (simp only [List.length_append, List.length_cons, List.length_nil, List.length_map, List.length_take, List.length_drop] at *; omega) | (rw [wrap64_id (by omega) (by omega)]; omega) | (simp; done)))); (try simp only [hb, go_sem])))
            refine hK11 _ ?_; clear hK11 K11
            refine AWP.seqk fun K12 hK12 => ?_
            refine AWP.region ?_
            simp only [go_sem] -- region 9
            repeat' (first | (refine AGet.haveM (by assumption) ?_; (try simp only [go_sem])) | (refine AGet.have' (by assumption) ?_; (try simp only [go_sem])) | ((first | refine AGet.nth ?_ (fun b hb => ?_) | refine AGet.nth1 ?_ (fun b hb => ?_) | with_reducible refine And.intro ?_ ?_); (focus ((first | omega | exact List.length_pos_iff.2 (by assumption) | (simp only [List.length_append, List.length_cons, List.length_nil, List.length_map, List.length_take, List.length_drop] at *; omega) | (rw [wrap64_id (by omega) (by omega)]; omega) | (simp; done)))); (try simp only [hb, go_sem])))
            refine hK12 _ ?_; clear hK12 K12
            refine AWP.seqk fun K13 hK13 => ?_
            refine AWP.seqk fun K14 hK14 => ?_
            refine AWP.region ?_
            simp only [go_sem] -- region 10
            repeat' (first | (refine AGet.haveM (by assumption) ?_; (try simp only [go_sem])) | (refine AGet.have' (by assumption) ?_; (try simp only [go_sem])) | ((first | refine AGet.nth ?_ (fun b hb => ?_) | refine AGet.nth1 ?_ (fun b hb => ?_) | with_reducible refine And.intro ?_ ?_); (focus ((first | omega | exact List.length_pos_iff.2 (by assumption) | (simp only [List.length_append, List.length_cons, List.length_nil, List.length_map, List.length_take, List.length_drop] at *; omega) | (rw [wrap64_id (by omega) (by omega)]; omega) | (simp; done)))); (try simp only [hb, go_sem])))
            refine hK14 _ ?_; clear hK14 K14
            refine AWP.block ?_ -- 0
            refine AWP.nilPlain 9 1 rfl ?_
            refine AWP.nilTok 10 1 rfl ?_
            simp only [go_sem]
            refine AWP.loopO (ι := Nat × Nat) [4, 14, 15, 16, 17, 18, 36, 37, 38, 39, 40, 41, 42, 43, 44, 45, 46, 47, 48, 49, 50, 51, 52, 53, 54, 55, 56, 57, 58, 59, 60, 61, 62, 63, 64, 65, 66, 67, 68, 69, 70, 71, 72, 73, 74, 75, 76, 77, 78] (fun ⟨i, a⟩ => [(9, bytesV (runB (st.take a)).1), (10, .sl (some 2) 1 ((runB (st.take a)).2.1.map bytesV)), (11, i64 (((runB (st.take a)).2.2 : Nat) : Int)), (12, i64 a), (13, i64 i)]) (fun ⟨i, a⟩ => []) (fun ⟨i, a⟩ => [(runB st).1.length, (runB st).2.1.length, (runB (st.take a)).2.1.length]) (fun ⟨i, a⟩ => a ≤ st.length ∧ i ≤ cu.length + 1 ∧ (i = cu.length + 1 → a = st.length)) (fun ⟨i, a⟩ => cu.length + 1 - i) ((0, 0)) ?_ ?_ ?_
            · (try simp only [go_sem]); simp [runB_nil]
            · exact ⟨by omega, by omega, fun h => by simp at h⟩
            rintro ⟨i, a⟩ ⟨h1, h2, h3⟩
            simp only [go_sem]
            refine AWP.seqk fun K15 hK15 => ?_
            refine AWP.seqk fun K16 hK16 => ?_
            refine AWP.region ?_
            simp only [go_sem] -- region 11
            repeat' (first | (refine AGet.haveM (by assumption) ?_; (try simp only [go_sem])) | (refine AGet.have' (by assumption) ?_; (try simp only [go_sem])) | ((first | refine AGet.nth ?_ (fun b hb => ?_) | refine AGet.nth1 ?_ (fun b hb => ?_) | with_reducible refine And.intro ?_ ?_); (focus ((first | omega | exact List.length_pos_iff.2 (by assumption) | (simp only [List.length_append, List.length_cons, List.length_nil, List.length_map, List.length_take, List.length_drop] at *; omega) | (rw [wrap64_id (by omega) (by omega)]; omega) | (simp; done)))); (try simp only [hb, go_sem])))
            refine hK16 _ ?_; clear hK16 K16
            refine AWP.cond rfl (fun c39 => ?_) (fun c39 => ?_)
            · first | exact Bool.noConfusion c39 | (
                try simp only [dD] at c39
                refine AWP.skip ?_
                refine hK15 _ ?_; clear hK15 K15
                refine AWP.seqk fun K17 hK17 => ?_
                refine AWP.block ?_ -- 1
                refine AWP.seqk fun K18 hK18 => ?_
                refine AWP.region ?_
                simp only [go_sem] -- region 13
                repeat' (first | (refine AGet.haveM (by assumption) ?_; (try simp only [go_sem])) | (refine AGet.have' (by assumption) ?_; (try simp only [go_sem])) | ((first | refine AGet.nth ?_ (fun b hb => ?_) | refine AGet.nth1 ?_ (fun b hb => ?_) | with_reducible refine And.intro ?_ ?_); (focus ((first | omega | exact List.length_pos_iff.2 (by assumption) | (simp only [List.length_append, List.length_cons, List.length_nil, List.length_map, List.length_take, List.length_drop] at *; omega) | (rw [wrap64_id (by omega) (by omega)]; omega) | (simp; done)))); (try simp only [hb, go_sem])))
                refine hK18 _ ?_; clear hK18 K18
                refine AWP.seqJ (ι := Nat) [44, 45, 46, 47, 48, 49, 50, 51, 52, 53, 54, 55, 56, 57] (fun (e : Nat) => [(14, i64 e)]) (fun (e : Nat) => []) (fun (e : Nat) => [(runB st).1.length, (runB st).2.1.length, (runB (st.take a)).2.1.length]) (fun (e : Nat) => a ≤ e ∧ e ≤ st.length ∧ (i = cu.length → e = st.length)) ?_ ?_
                · refine AWP.seqk fun K19 hK19 => ?_
                  refine AWP.region ?_
                  simp only [go_sem] -- region 14
                  repeat' (first | (refine AGet.haveM (by assumption) ?_; (try simp only [go_sem])) | (refine AGet.have' (by assumption) ?_; (try simp only [go_sem])) | ((first | refine AGet.nth ?_ (fun b hb => ?_) | refine AGet.nth1 ?_ (fun b hb => ?_) | with_reducible refine And.intro ?_ ?_); (focus ((first | omega | exact List.length_pos_iff.2 (by assumption) | (simp only [List.length_append, List.length_cons, List.length_nil, List.length_map, List.length_take, List.length_drop] at *; omega) | (rw [wrap64_id (by omega) (by omega)]; omega) | (simp; done)))); (try simp only [hb, go_sem])))
                  refine hK19 _ ?_; clear hK19 K19
                  refine AWP.cond rfl (fun c47 => ?_) (fun c47 => ?_)
                  · first | exact Bool.noConfusion c47 | (
                      try simp only [dD] at c47
                      refine AWP.region ?_
                      simp only [go_sem] -- region 15
                      repeat' (first | (refine AGet.haveM (by assumption) ?_; (try simp only [go_sem])) | (refine AGet.have' (by assumption) ?_; (try simp only [go_sem])) | ((first | refine AGet.nth ?_ (fun b hb => ?_) | refine AGet.nth1 ?_ (fun b hb => ?_) | with_reducible refine And.intro ?_ ?_); (focus ((first | omega | exact List.length_pos_iff.2 (by assumption) | (simp only [List.length_append, List.length_cons, List.length_nil, List.length_map, List.length_take, List.length_drop] at *; omega) | (rw [wrap64_id (by omega) (by omega)]; omega) | (simp; done)))); (try simp only [hb, go_sem])))
                      first
                      | (rw [minw (a := a) (b := b) (n := st.length) (by omega)]
                         refine ⟨min (a + b.toNat) st.length, ⟨by omega, by omega, fun h => by omega⟩, ?_⟩
                         (try simp only [go_sem]); (try simp); done)
                      | (refine ⟨st.length, ⟨by omega, by omega, fun _ => rfl⟩, ?_⟩
                         (try simp only [go_sem]); (try simp); done))
                  · first | exact Bool.noConfusion c47 | (
                      try simp only [dD] at c47
                      refine AWP.skip ?_
                      first
                      | (rw [minw (a := a) (b := b) (n := st.length) (by omega)]
                         refine ⟨min (a + b.toNat) st.length, ⟨by omega, by omega, fun h => by omega⟩, ?_⟩
                         (try simp only [go_sem]); (try simp); done)
                      | (refine ⟨st.length, ⟨by omega, by omega, fun _ => rfl⟩, ?_⟩
                         (try simp only [go_sem]); (try simp); done))
                rintro e ⟨e1, e2, e3⟩
                simp only [go_sem]
                refine AWP.seqk fun K20 hK20 => ?_
                have ht1 : (st.take a).length = a := by rw [List.length_take]; omega
                have ht2 : ((st.take e).drop a).length = e - a := by rw [List.length_drop, List.length_take]; omega
                have hla := runB_len (st.take a)
                refine AWP.region ?_
                simp only [go_sem] -- region 16
                repeat' (first | (refine ACall.of (in_nil_c st (by omega)) (by kernel_rfl) rfl ?_; rintro r t ⟨rfl, rfl⟩ <;> simp only [go_sem]) | (refine ACall.of (in_c (runB (st.take a)).1 ((st.take e).drop a) (by omega) (by omega)) (by kernel_rfl) rfl ?_; rintro r t ⟨rfl, rfl⟩ <;> simp only [go_sem]) | (refine AGet.haveM (by assumption) ?_; (try simp only [go_sem])) | (refine AGet.have' (by assumption) ?_; (try simp only [go_sem])) | ((first | refine AGet.nth ?_ (fun b hb => ?_) | refine AGet.nth1 ?_ (fun b hb => ?_) | with_reducible refine And.intro ?_ ?_); (focus ((first | omega | exact List.length_pos_iff.2 (by assumption) | (simp only [List.length_append, List.length_cons, List.length_nil, List.length_map, List.length_take, List.length_drop] at *; omega) | (rw [wrap64_id (by omega) (by omega)]; omega) | (simp; done)))); (try simp only [hb, go_sem])))
                refine hK20 _ ?_; clear hK20 K20
                refine AWP.seqk fun K21 hK21 => ?_
                refine AWP.seqk fun K22 hK22 => ?_
                have hin2 := inB_ok (kept := (runB (st.take a)).1) (piece := (st.take e).drop a) (by omega)
                simp only [hin2]
                have hrp := run_piece (st := st) e1
                have hlb := runB_len ((runB (st.take a)).1 ++ (st.take e).drop a)
                rw [List.length_append] at hlb
                have w19 := wrapA (a := (runB (st.take a)).2.2) (b := (runB ((runB (st.take a)).1 ++ (st.take e).drop a)).2.2) (by omega)
                refine AWP.region ?_
                simp only [go_sem] -- region 17
                repeat' (first | (refine AGet.haveM (by assumption) ?_; (try simp only [go_sem])) | (refine AGet.have' (by assumption) ?_; (try simp only [go_sem])) | ((first | refine AGet.nth ?_ (fun b hb => ?_) | refine AGet.nth1 ?_ (fun b hb => ?_) | with_reducible refine And.intro ?_ ?_); (focus ((first | omega | exact List.length_pos_iff.2 (by assumption) | (simp only [List.length_append, List.length_cons, List.length_nil, List.length_map, List.length_take, List.length_drop] at *; omega) | (rw [wrap64_id (by omega) (by omega)]; omega) | (simp; done)))); (try simp only [hb, go_sem])))
                refine hK22 _ ?_; clear hK22 K22
                refine AWP.cond rfl (fun c70 => ?_) (fun c70 => ?_)
                · first | exact Bool.noConfusion c70 | (
                    try simp only [dD] at c70
                    refine AWP.seqk fun K23 hK23 => ?_
                    refine AWP.region ?_
                    simp only [go_sem] -- region 18
                    repeat' (first | (refine AGet.haveM (by assumption) ?_; (try simp only [go_sem])) | (refine AGet.have' (by assumption) ?_; (try simp only [go_sem])) | ((first | refine AGet.nth ?_ (fun b hb => ?_) | refine AGet.nth1 ?_ (fun b hb => ?_) | with_reducible refine And.intro ?_ ?_); (focus ((first | omega | exact List.length_pos_iff.2 (by assumption) | (simp only [List.length_append, List.length_cons, List.length_nil, List.length_map, List.length_take, List.length_drop] at *; omega) | (rw [wrap64_id (by omega) (by omega)]; omega) | (simp; done)))); (try simp only [hb, go_sem])))
                    refine hK23 _ ?_; clear hK23 K23
                    refine AWP.ret ?_
                    try simp only [go_sem]
                    clear hK21 K21 hK17 K17 hK13 K13
                    first
                    | exact ⟨[], .v _, rfl, rfl, rfl, rfl⟩
                    | skip)
                · first | exact Bool.noConfusion c70 | (
                    try simp only [dD] at c70
                    refine AWP.skip ?_
                    refine hK21 _ ?_; clear hK21 K21
                    refine AWP.region ?_
                    simp only [go_sem, w19, app_bytes2] -- region 19
                    repeat' (first | (refine AGet.haveM (by assumption) ?_; (try simp only [go_sem, w19, app_bytes2])) | (refine AGet.have' (by assumption) ?_; (try simp only [go_sem, w19, app_bytes2])) | ((first | refine AGet.nth ?_ (fun b hb => ?_) | refine AGet.nth1 ?_ (fun b hb => ?_) | with_reducible refine And.intro ?_ ?_); (focus ((first | omega | exact List.length_pos_iff.2 (by assumption) | (simp only [List.length_append, List.length_cons, List.length_nil, List.length_map, List.length_take, List.length_drop] at *; omega) | (rw [wrap64_id (by omega) (by omega)]; omega) | (simp; done)))); (try simp only [hb, go_sem, w19, app_bytes2])))
                    refine hK17 _ ?_; clear hK17 K17
                    refine AWP.forget 9 rfl ?_
                    simp only [go_sem]
                    refine AWP.region ?_
                    simp only [go_sem] -- region 12
                    repeat' (first | (refine AGet.haveM (by assumption) ?_; (try simp only [go_sem])) | (refine AGet.have' (by assumption) ?_; (try simp only [go_sem])) | ((first | refine AGet.nth ?_ (fun b hb => ?_) | refine AGet.nth1 ?_ (fun b hb => ?_) | with_reducible refine And.intro ?_ ?_); (focus ((first | omega | exact List.length_pos_iff.2 (by assumption) | (simp only [List.length_append, List.length_cons, List.length_nil, List.length_map, List.length_take, List.length_drop] at *; omega) | (rw [wrap64_id (by omega) (by omega)]; omega) | (simp; done)))); (try simp only [hb, go_sem])))
                    clear hK13 K13
                    rw [wrap64_id (x := (i : Int) + 1) (by omega) (by omega)]
                    refine ⟨(i + 1, e), ?_, ⟨?_, ?_, ?_⟩, ?_⟩
                    · show _
                      rw [hrp]; simp; done
                    · show e ≤ st.length; omega
                    · show i + 1 ≤ cu.length + 1; omega
                    · show i + 1 = cu.length + 1 → e = st.length; omega
                    · show cu.length + 1 - (i + 1) < cu.length + 1 - i; omega))
            · first | exact Bool.noConfusion c39 | (
                try simp only [dD] at c39
                refine AWP.exit ?_
                simp only [go_sem]
                clear hK15 K15
                refine hK13 _ ?_; clear hK13 K13
                refine AWP.seqk fun K24 hK24 => ?_
                have ha := h3 (by omega)
                rw [ha, List.take_length]
                refine AWP.region ?_
                simp only [go_sem] -- region 20
                repeat' (first | (refine ACall.one (r4same_c _ _ (by omega)) (by kernel_rfl) rfl ?_; simp only [go_sem]) | (refine AGuard.splitN (fun h => ?_) (fun h => ?_) <;> simp only [h, go_sem] <;> try simp only [dD] at h) | (refine AGuard.split (fun h => ?_) (fun h => ?_) <;> simp only [h, go_sem] <;> try simp only [dD] at h) | (refine AGet.haveM (by assumption) ?_; (try simp only [go_sem])) | (refine AGet.have' (by assumption) ?_; (try simp only [go_sem])) | ((first | refine AGet.nth ?_ (fun b hb => ?_) | refine AGet.nth1 ?_ (fun b hb => ?_) | with_reducible refine And.intro ?_ ?_); (focus ((first | omega | exact List.length_pos_iff.2 (by assumption) | (simp only [List.length_append, List.length_cons, List.length_nil, List.length_map, List.length_take, List.length_drop] at *; omega) | (rw [wrap64_id (by omega) (by omega)]; omega) | (simp; done)))); (try simp only [hb, go_sem])))
                all_goals (
                  refine hK24 _ ?_; clear hK24 K24
                  refine AWP.ret ?_
                  try simp only [go_sem]
                  first
                  | exact ⟨[], .v _, rfl, rfl, rfl, rfl⟩
                  | skip)))))


end Go.Proofs.YtgiomlgkccjhfaaDoor
