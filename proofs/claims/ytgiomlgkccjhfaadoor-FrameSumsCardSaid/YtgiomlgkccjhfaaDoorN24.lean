/- The statement on sums of bytes. -/
import Derived.Test.YtgiomlgkccjhfaaDoorN20
import Derived.Test.YtgiomlgkccjhfaaDoorLd
import Derived.Test.YtgiomlgkccjhfaaDoorPm
set_option linter.unusedVariables false
set_option linter.unusedSimpArgs false
namespace Go.Proofs.YtgiomlgkccjhfaaDoor
open Go Go.Abs Go.RowKit Go.Fld Go.Shelf

theorem mod_lt2 {c : Int} {n : Nat} (h0 : 0 ≤ c) (h1 : c < 65536) (hn : 0 < n) (hn2 : n ≤ 100000) : ∃ q : Nat, Int.tmod (IntKind.i64.wrap c) (n : Int) = (q : Int) ∧ q < n := by
  have e : IntKind.i64.wrap c = c := by rw [IntKind.wrap_i64]; omega
  rw [e]
  obtain ⟨k, rfl⟩ : ∃ k : Nat, c = (k : Int) := ⟨c.toNat, by omega⟩
  exact ⟨k % n, rfl, Nat.mod_lt _ hn⟩
theorem cut3000 (a : Bs) : ∃ a0 : Bs, a.take (min (a.length : Int) 3000).toNat = a0 ∧ a0.length ≤ 3000 := ⟨_, rfl, by rw [List.length_take]; omega⟩
theorem set_u8 {l : Bs} {q : Nat} {c : UInt8} {n : Int} (hb : l[q]? = some c) (h0 : 0 ≤ n) (h1 : n < 256) : (l.map u8).set q (.v (.int .u8 (IntKind.u8.wrap ((c.toNat : Int) + n)))) = (l.set q (c + UInt8.ofNat n.toNat)).map u8 := by
  rw [List.map_set]
  congr 1
  show _ = AV.v (.int .u8 ((c + UInt8.ofNat n.toNat).toNat : Int))
  have hc := c.toNat_lt
  rw [UInt8.toNat_add, UInt8.toNat_ofNat', IntKind.wrap_u8]
  congr 2
  omega
theorem u8_plain {l : Bs} : ∀ e ∈ l.map u8, ∀ x ∈ e.leaves, ∃ y, x = AV.v y := by
  intro e he x hx
  simp only [List.mem_map] at he
  obtain ⟨b, _, rfl⟩ := he
  simp only [u8, AV.leaves, List.mem_cons, List.not_mem_nil, or_false] at hx
  exact ⟨_, hx⟩
theorem u8_clean {l : Bs} : ∀ e ∈ l.map u8, ∀ x ∈ e.leaves, x.clean1 = some x := by
  intro e he x hx
  simp only [List.mem_map] at he
  obtain ⟨b, _, rfl⟩ := he
  simp only [u8, AV.leaves, List.mem_cons, List.not_mem_nil, or_false] at hx
  subst hx; rfl
theorem ofNat_zero {n : Int} (h0 : 0 ≤ n) (h1 : n < 256) : decide (UInt8.ofNat n.toNat = 0) = decide (n = 0) := by
  rw [Bool.eq_iff_iff, decide_eq_true_eq, decide_eq_true_eq]
  constructor
  · intro e
    have := congrArg UInt8.toNat e
    rw [UInt8.toNat_ofNat'] at this
    have h2 : (0 : UInt8).toNat = 0 := rfl
    rw [h2] at this
    omega
  · rintro rfl; rfl
set_option maxHeartbeats 4000000 in
set_option maxRecDepth 8000 in
theorem fr_sums_c (a b : Bs) (cut by8 : Int) (hc0 : 0 ≤ cut) (hc1 : cut < 65536) (hb0 : 0 ≤ by8) (hb1 : by8 < 256) : ACalls E 11 [bytesV a, bytesV b, .v (.int .u16 cut), .v (.int .u8 by8)] (fun r t => r = bl true ∧ t = []) := by -- checkroll/checkrolllaw03.FrameSums
  refine ACalls.of_awp (n := 73) (rs := [.tmp 8]) Tryd.func11 rfl Tryd.ntmps11 rfl ?_
  refine AWP.seqk fun K1 hK1 => ?_
  refine AWP.region ?_
  simp only [go_sem, List.nil_append] -- region 0
  repeat' (first | (refine AGet.haveM (by assumption) ?_; (try simp only [go_sem, List.nil_append])) | (refine AGet.have' (by assumption) ?_; (try simp only [go_sem, List.nil_append])) | ((first | refine AGet.nth ?_ (fun b hb => ?_) | refine AGet.nth1 ?_ (fun b hb => ?_) | with_reducible refine And.intro ?_ ?_); (focus ((first | omega | exact List.length_pos_iff.2 (by assumption) | (simp only [List.length_append, List.length_cons, List.length_nil, List.length_map, List.length_take, List.length_drop] at *; omega) | (rw [wrap64_id (by omega) (by omega)]; omega) | (simp; done)))); (try simp only [hb, go_sem, List.nil_append])))
  refine hK1 _ ?_; clear hK1 K1
  refine AWP.seqk fun K2 hK2 => ?_
  refine AWP.seqk fun K3 hK3 => ?_
  refine AWP.region ?_
  simp only [go_sem, List.nil_append] -- region 1
  repeat' (first | (refine ACall.one (awake3_c ) (by kernel_rfl) rfl ?_; simp only [go_sem, List.nil_append]) | (refine AGet.haveM (by assumption) ?_; (try simp only [go_sem, List.nil_append])) | (refine AGet.have' (by assumption) ?_; (try simp only [go_sem, List.nil_append])) | ((first | refine AGet.nth ?_ (fun b hb => ?_) | refine AGet.nth1 ?_ (fun b hb => ?_) | with_reducible refine And.intro ?_ ?_); (focus ((first | omega | exact List.length_pos_iff.2 (by assumption) | (simp only [List.length_append, List.length_cons, List.length_nil, List.length_map, List.length_take, List.length_drop] at *; omega) | (rw [wrap64_id (by omega) (by omega)]; omega) | (simp; done)))); (try simp only [hb, go_sem, List.nil_append])))
  refine hK3 _ ?_; clear hK3 K3
  refine AWP.cond rfl (fun c13 => ?_) (fun c13 => ?_)
  · first | exact Bool.noConfusion c13 | (
      try simp only [dD] at c13
      refine AWP.seqk fun K4 hK4 => ?_
      refine AWP.region ?_
      simp only [go_sem, List.nil_append] -- region 2
      repeat' (first | (refine AGet.haveM (by assumption) ?_; (try simp only [go_sem, List.nil_append])) | (refine AGet.have' (by assumption) ?_; (try simp only [go_sem, List.nil_append])) | ((first | refine AGet.nth ?_ (fun b hb => ?_) | refine AGet.nth1 ?_ (fun b hb => ?_) | with_reducible refine And.intro ?_ ?_); (focus ((first | omega | exact List.length_pos_iff.2 (by assumption) | (simp only [List.length_append, List.length_cons, List.length_nil, List.length_map, List.length_take, List.length_drop] at *; omega) | (rw [wrap64_id (by omega) (by omega)]; omega) | (simp; done)))); (try simp only [hb, go_sem, List.nil_append])))
      refine hK4 _ ?_; clear hK4 K4
      refine AWP.ret ?_
      try simp only [go_sem]
      clear hK2 K2
      first
      | exact ⟨[], .v _, rfl, rfl, rfl, rfl⟩
      | exact ⟨[], .v _, rfl, rfl, by rw [(List.eq_nil_of_length_eq_zero (by omega) : A ++ B = [])]; rfl, rfl⟩
      | skip)
  · first | exact Bool.noConfusion c13 | (
      try simp only [dD] at c13
      refine AWP.skip ?_
      refine hK2 _ ?_; clear hK2 K2
      refine AWP.seqk fun K5 hK5 => ?_
      refine AWP.regionAs [0, 1, 2, 3, 4, 5, 6, 7, 8, 9, 10, 11] [[], [], [1], [1, 2], [0, 1, 2, 3], [], [], [6], [6, 7], [5, 6, 7, 8], [0, 1, 2, 3, 4], [0, 1, 2, 3, 4, 5, 6, 7, 8, 9, 10]] [] (by kernel_rfl) (by kernel_rfl) (by decide) rfl ?_
      simp only [go_sem, List.nil_append] -- region 3
      repeat' (first | (refine AGet.haveM (by assumption) ?_; (try simp only [go_sem, List.nil_append])) | (refine AGet.have' (by assumption) ?_; (try simp only [go_sem, List.nil_append])) | ((first | refine AGet.nth ?_ (fun b hb => ?_) | refine AGet.nth1 ?_ (fun b hb => ?_) | with_reducible refine And.intro ?_ ?_); (focus ((first | omega | exact List.length_pos_iff.2 (by assumption) | (simp only [List.length_append, List.length_cons, List.length_nil, List.length_map, List.length_take, List.length_drop] at *; omega) | (rw [wrap64_id (by omega) (by omega)]; omega) | (simp; done)))); (try simp only [hb, go_sem, List.nil_append])))
      refine hK5 _ ?_; clear hK5 K5
      refine AWP.seqk fun K6 hK6 => ?_
      obtain ⟨A, hA, hAl⟩ := cut3000 a
      obtain ⟨B, hB, hBl⟩ := cut3000 b
      simp only [hA, hB]
      have hABl : (A ++ B).length = A.length + B.length := List.length_append
      refine AWP.region ?_
      simp only [go_sem, List.nil_append] -- region 4
      repeat' (first | (refine AGet.haveM (by assumption) ?_; (try simp only [go_sem, List.nil_append])) | (refine AGet.have' (by assumption) ?_; (try simp only [go_sem, List.nil_append])) | ((first | refine AGet.nth ?_ (fun b hb => ?_) | refine AGet.nth1 ?_ (fun b hb => ?_) | with_reducible refine And.intro ?_ ?_); (focus ((first | omega | exact List.length_pos_iff.2 (by assumption) | (simp only [List.length_append, List.length_cons, List.length_nil, List.length_map, List.length_take, List.length_drop] at *; omega) | (rw [wrap64_id (by omega) (by omega)]; omega) | (simp; done)))); (try simp only [hb, go_sem, List.nil_append])))
      refine hK6 _ ?_; clear hK6 K6
      refine AWP.seqk fun K7 hK7 => ?_
      refine AWP.region ?_
      simp only [go_sem, List.nil_append] -- region 5
      repeat' (first | (refine ACall.one (msum_c _ (by (try simp only [List.length_set, List.length_append, List.length_take, List.length_drop, List.length_cons, List.length_nil]); omega)) (by kernel_rfl) rfl ?_; simp only [go_sem, List.nil_append]) | (refine AGet.haveM (by assumption) ?_; (try simp only [go_sem, List.nil_append])) | (refine AGet.have' (by assumption) ?_; (try simp only [go_sem, List.nil_append])) | ((first | refine AGet.nth ?_ (fun b hb => ?_) | refine AGet.nth1 ?_ (fun b hb => ?_) | with_reducible refine And.intro ?_ ?_); (focus ((first | omega | exact List.length_pos_iff.2 (by assumption) | (simp only [List.length_append, List.length_cons, List.length_nil, List.length_map, List.length_take, List.length_drop] at *; omega) | (rw [wrap64_id (by omega) (by omega)]; omega) | (simp; done)))); (try simp only [hb, go_sem, List.nil_append])))
      refine hK7 _ ?_; clear hK7 K7
      refine AWP.seqk fun K8 hK8 => ?_
      refine AWP.seqk fun K9 hK9 => ?_
      have e1 := sum_mod A B
      have hlt := sumF_lt (A ++ B)
      have e2 : decide (((sumF (A ++ B) : Nat) : Int) < 0) = false := decide_eq_false (by omega)
      have e3 : decide ((255 : Int) < ((sumF (A ++ B) : Nat) : Int)) = false := decide_eq_false (by omega)
      refine AWP.region ?_
      simp only [go_sem, List.nil_append, e1, e2, e3] -- region 6
      repeat' (first | (refine ACall.one (msum_c _ (by (try simp only [List.length_set, List.length_append, List.length_take, List.length_drop, List.length_cons, List.length_nil]); omega)) (by kernel_rfl) rfl ?_; simp only [go_sem, List.nil_append, e1, e2, e3]) | (refine AGuard.splitN (fun h => ?_) (fun h => ?_) <;> simp only [h, go_sem, List.nil_append, e1, e2, e3] <;> try simp only [dD] at h) | (refine AGuard.split (fun h => ?_) (fun h => ?_) <;> simp only [h, go_sem, List.nil_append, e1, e2, e3] <;> try simp only [dD] at h) | (refine AGet.haveM (by assumption) ?_; (try simp only [go_sem, List.nil_append, e1, e2, e3])) | (refine AGet.have' (by assumption) ?_; (try simp only [go_sem, List.nil_append, e1, e2, e3])) | ((first | refine AGet.nth ?_ (fun b hb => ?_) | refine AGet.nth1 ?_ (fun b hb => ?_) | with_reducible refine And.intro ?_ ?_); (focus ((first | omega | exact List.length_pos_iff.2 (by assumption) | (simp only [List.length_append, List.length_cons, List.length_nil, List.length_map, List.length_take, List.length_drop] at *; omega) | (rw [wrap64_id (by omega) (by omega)]; omega) | (simp; done)))); (try simp only [hb, go_sem, List.nil_append, e1, e2, e3])))
      all_goals (
        refine hK9 _ ?_; clear hK9 K9
        refine AWP.cond rfl (fun c46 => ?_) (fun c46 => ?_)
        · first | exact Bool.noConfusion c46 | (
            try simp only [dD] at c46
            refine AWP.seqk fun K10 hK10 => ?_
            refine AWP.region ?_
            simp only [go_sem, List.nil_append] -- region 7
            repeat' (first | (refine AGet.haveM (by assumption) ?_; (try simp only [go_sem, List.nil_append])) | (refine AGet.have' (by assumption) ?_; (try simp only [go_sem, List.nil_append])) | ((first | refine AGet.nth ?_ (fun b hb => ?_) | refine AGet.nth1 ?_ (fun b hb => ?_) | with_reducible refine And.intro ?_ ?_); (focus ((first | omega | exact List.length_pos_iff.2 (by assumption) | (simp only [List.length_append, List.length_cons, List.length_nil, List.length_map, List.length_take, List.length_drop] at *; omega) | (rw [wrap64_id (by omega) (by omega)]; omega) | (simp; done)))); (try simp only [hb, go_sem, List.nil_append])))
            refine hK10 _ ?_; clear hK10 K10
            refine AWP.ret ?_
            try simp only [go_sem]
            clear hK8 K8
            first
            | exact ⟨[], .v _, rfl, rfl, rfl, rfl⟩
            | exact ⟨[], .v _, rfl, rfl, by rw [(List.eq_nil_of_length_eq_zero (by omega) : A ++ B = [])]; rfl, rfl⟩
            | skip)
        · first | exact Bool.noConfusion c46 | (
            try simp only [dD] at c46
            refine AWP.skip ?_
            refine hK8 _ ?_; clear hK8 K8
            refine AWP.seqk fun K11 hK11 => ?_
            refine AWP.seqk fun K12 hK12 => ?_
            refine AWP.region ?_
            simp only [go_sem, List.nil_append] -- region 8
            repeat' (first | (refine AGet.haveM (by assumption) ?_; (try simp only [go_sem, List.nil_append])) | (refine AGet.have' (by assumption) ?_; (try simp only [go_sem, List.nil_append])) | ((first | refine AGet.nth ?_ (fun b hb => ?_) | refine AGet.nth1 ?_ (fun b hb => ?_) | with_reducible refine And.intro ?_ ?_); (focus ((first | omega | exact List.length_pos_iff.2 (by assumption) | (simp only [List.length_append, List.length_cons, List.length_nil, List.length_map, List.length_take, List.length_drop] at *; omega) | (rw [wrap64_id (by omega) (by omega)]; omega) | (simp; done)))); (try simp only [hb, go_sem, List.nil_append])))
            refine hK12 _ ?_; clear hK12 K12
            refine AWP.cond rfl (fun c49 => ?_) (fun c49 => ?_)
            · first | exact Bool.noConfusion c49 | (
                try simp only [dD] at c49
                refine AWP.seqk fun K13 hK13 => ?_
                refine AWP.region ?_
                simp only [go_sem, List.nil_append] -- region 9
                repeat' (first | (refine AGet.haveM (by assumption) ?_; (try simp only [go_sem, List.nil_append])) | (refine AGet.have' (by assumption) ?_; (try simp only [go_sem, List.nil_append])) | ((first | refine AGet.nth ?_ (fun b hb => ?_) | refine AGet.nth1 ?_ (fun b hb => ?_) | with_reducible refine And.intro ?_ ?_); (focus ((first | omega | exact List.length_pos_iff.2 (by assumption) | (simp only [List.length_append, List.length_cons, List.length_nil, List.length_map, List.length_take, List.length_drop] at *; omega) | (rw [wrap64_id (by omega) (by omega)]; omega) | (simp; done)))); (try simp only [hb, go_sem, List.nil_append])))
                refine hK13 _ ?_; clear hK13 K13
                refine AWP.ret ?_
                try simp only [go_sem]
                clear hK11 K11
                first
                | exact ⟨[], .v _, rfl, rfl, rfl, rfl⟩
                | exact ⟨[], .v _, rfl, rfl, by rw [(List.eq_nil_of_length_eq_zero (by omega) : A ++ B = [])]; rfl, rfl⟩
                | skip)
            · first | exact Bool.noConfusion c49 | (
                try simp only [dD] at c49
                refine AWP.skip ?_
                refine hK11 _ ?_; clear hK11 K11
                refine AWP.seqk fun K14 hK14 => ?_
                obtain ⟨q, hq, hql⟩ := mod_lt2 (n := (A ++ B).length) hc0 hc1 (by omega) (by omega)
                rw [hABl] at hq
                refine AWP.region ?_
                simp only [go_sem, List.nil_append, hq] -- region 10
                repeat' (first | (refine AGet.haveM (by assumption) ?_; (try simp only [go_sem, List.nil_append, hq])) | (refine AGet.have' (by assumption) ?_; (try simp only [go_sem, List.nil_append, hq])) | ((first | refine AGet.nth ?_ (fun b hb => ?_) | refine AGet.nth1 ?_ (fun b hb => ?_) | with_reducible refine And.intro ?_ ?_); (focus ((first | omega | exact List.length_pos_iff.2 (by assumption) | (simp only [List.length_append, List.length_cons, List.length_nil, List.length_map, List.length_take, List.length_drop] at *; omega) | (rw [wrap64_id (by omega) (by omega)]; omega) | (simp; done)))); (try simp only [hb, go_sem, List.nil_append, hq])))
                refine hK14 _ ?_; clear hK14 K14
                refine AWP.seqk fun K15 hK15 => ?_
                obtain ⟨c, hcq⟩ : ∃ c, (A ++ B)[q]? = some c := ⟨_, List.getElem?_eq_getElem hql⟩
                have hget : ((A ++ B).map u8)[q]? = some (u8 c) := by rw [List.getElem?_map, hcq]; rfl
                have hne : (A ++ B).map u8 ≠ [] := by intro e; have := congrArg List.length e; rw [List.length_map, List.length_nil] at this; omega
                refine AWP.thaw' 9 0 1 ((A ++ B).map u8) rfl (by rw [List.length_map, hABl]; rfl) rfl rfl (fun _ => rfl) hne u8_plain ?_
                simp only [List.map_cons, List.map_nil, AV.plainOnly, List.set_cons_succ, List.set_cons_zero, List.length_map]
                refine AWP.region ?_
                simp only [go_sem, List.nil_append, hget, Nat.zero_add] -- region 11
                repeat' (first | (refine AGet.haveM (by assumption) ?_; (try simp only [go_sem, List.nil_append, hget, Nat.zero_add])) | (refine AGet.have' (by assumption) ?_; (try simp only [go_sem, List.nil_append, hget, Nat.zero_add])) | ((first | refine AGet.nth ?_ (fun b hb => ?_) | refine AGet.nth1 ?_ (fun b hb => ?_) | with_reducible refine And.intro ?_ ?_); (focus ((first | omega | exact List.length_pos_iff.2 (by assumption) | (simp only [List.length_append, List.length_cons, List.length_nil, List.length_map, List.length_take, List.length_drop] at *; omega) | (rw [wrap64_id (by omega) (by omega)]; omega) | (simp; done)))); (try simp only [hb, go_sem, List.nil_append, hget, Nat.zero_add])))
                refine hK15 _ ?_; clear hK15 K15
                refine AWP.seqk fun K16 hK16 => ?_
                rw [set_u8 hcq hb0 hb1]
                refine AWP.publishSl 9 0 1 (((A ++ B).set q (c + UInt8.ofNat by8.toNat)).map u8) (by show some _ = some _; rw [List.length_map, List.length_set, hABl]) rfl u8_clean ?_
                have hst := sum_turn (d := UInt8.ofNat by8.toNat) hcq
                have e4 : decide (((sumF ((A ++ B).set q (c + UInt8.ofNat by8.toNat)) : Nat) : Int) = ((sumF (A ++ B) : Nat) : Int)) = decide (by8 = 0) := by
                  rw [← ofNat_zero hb0 hb1, ← hst]; exact decide_eq_decide.2 (by omega)
                refine AWP.region ?_
                simp only [go_sem, List.nil_append, e4] -- region 12
                repeat' (first | (refine ACall.one (msum_c _ (by (try simp only [List.length_set, List.length_append, List.length_take, List.length_drop, List.length_cons, List.length_nil]); omega)) (by kernel_rfl) rfl ?_; simp only [go_sem, List.nil_append, e4]) | (refine AGet.haveM (by assumption) ?_; (try simp only [go_sem, List.nil_append, e4])) | (refine AGet.have' (by assumption) ?_; (try simp only [go_sem, List.nil_append, e4])) | ((first | refine AGet.nth ?_ (fun b hb => ?_) | refine AGet.nth1 ?_ (fun b hb => ?_) | with_reducible refine And.intro ?_ ?_); (focus ((first | omega | exact List.length_pos_iff.2 (by assumption) | (simp only [List.length_append, List.length_cons, List.length_nil, List.length_map, List.length_take, List.length_drop] at *; omega) | (rw [wrap64_id (by omega) (by omega)]; omega) | (simp; done)))); (try simp only [hb, go_sem, List.nil_append, e4])))
                refine hK16 _ ?_; clear hK16 K16
                refine AWP.ret ?_
                try simp only [go_sem]
                first
                | exact ⟨[], .v _, rfl, rfl, rfl, rfl⟩
                | exact ⟨[], .v _, rfl, rfl, by rw [(List.eq_nil_of_length_eq_zero (by omega) : A ++ B = [])]; rfl, rfl⟩
                | skip))))


end Go.Proofs.YtgiomlgkccjhfaaDoor
