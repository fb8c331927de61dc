/- Frames: what stands at the beginning; contracts. -/
import Derived.Test.YtgiomlgkccjhfaaDoorN16
import Derived.Test.YtgiomlgkccjhfaaDoorPl
set_option linter.unusedVariables false
set_option linter.unusedSimpArgs false
namespace Go.Proofs.YtgiomlgkccjhfaaDoor
open Go Go.Abs Go.RowKit Go.Fld Go.Shelf

def hd3 : Hd → Int × Int × Int
  | .need => (0, 0, 0)
  | .junk => (2, 0, 0)
  | .frame s n => (1, (s : Int), (n : Int))
theorem hd3n {b : Bs} (h : headF b = .need) : hd3 (headF b) = (0, 0, 0) := by rw [h]; rfl
theorem hd3j {b : Bs} (h : headF b = .junk) : hd3 (headF b) = (2, 0, 0) := by rw [h]; rfl
theorem hd3f {b : Bs} {s n : Nat} (h : headF b = .frame s n) : hd3 (headF b) = (1, (s : Int), (n : Int)) := by rw [h]; rfl
theorem begS' : [56, 61, 70, 73, 88, 46, 52, 46, 52, 1, 57, 61] = beg := rfl
theorem not_len {i n : Nat} (h : ¬ (i : Int) < (n : Int)) : n ≤ i := by omega
theorem head_no {bs : Bs} {j : Nat} {c : UInt8} (hp : HP (bs.drop 12) j) (hb : bs[12 + j]? = some c) (hc : ¬ (c.toNat : Int) = 1 ∨ ((decVal 0 ((bs.drop 12).take j) : Nat) : Int) = 0) (hs : 12 + j = bs.length ∨ ∃ c, bs[12 + j]? = some c ∧ isDig c = false) : headR (bs.drop 12) = .junk := by
  rcases hs with hs | ⟨d, hd, hn⟩
  · have := get_lt hb; omega
  · rw [hb, Option.some.injEq] at hd; subst hd
    refine hp.no (get12.trans hb) hn ?_
    rcases hc with hc | hc
    · exact .inl (fun e => hc (by rw [e]; rfl))
    · exact .inr (hp.zero_of (by omega))
theorem head_one {bs : Bs} {j : Nat} {c : UInt8} (hb : bs[12 + j]? = some c) (hc : (c.toNat : Int) = 1) : (bs.drop 12)[j]? = some 1 := by
  rw [get12, hb]; exact congrArg some (UInt8.toNat_inj.1 (by show c.toNat = 1; omega))
theorem head_pos {bs : Bs} {j : Nat} (hc : ¬ ((decVal 0 ((bs.drop 12).take j) : Nat) : Int) = 0) : j ≠ 0 := by
  rintro rfl; rw [List.take_zero, decVal_nil] at hc; exact hc rfl
theorem bequal_c (a b : Bs) : ACalls E 51 [bytesV a, bytesV b] (fun r t => r = bl (decide (a = b)) ∧ t = []) := by -- bytes.Equal
  refine ACalls.of_awp (n := 10) (rs := [.tmp 4]) Tryd.func51 rfl Tryd.ntmps51 rfl ?_
  refine AWP.seqk fun K1 hK1 => ?_
  refine AWP.region ?_
  simp only [go_sem] -- region 0
  repeat' (first | (refine AGet.haveM (by assumption) ?_; (try simp only [go_sem])) | (refine AGet.have' (by assumption) ?_; (try simp only [go_sem])) | ((first | refine AGet.nth ?_ (fun b hb => ?_) | refine AGet.nth1 ?_ (fun b hb => ?_) | with_reducible refine And.intro ?_ ?_); (focus ((first | omega | exact List.length_pos_iff.2 (by assumption) | (simp only [List.length_append, List.length_cons, List.length_nil, List.length_map, List.length_take, List.length_drop] at *; omega) | (rw [wrap64_id (by omega) (by omega)]; omega) | (simp; done)))); (try simp only [hb, go_sem])))
  refine hK1 _ ?_; clear hK1 K1
  refine AWP.seqk fun K2 hK2 => ?_
  refine AWP.region ?_
  simp only [go_sem] -- region 1
  repeat' (first | (refine AGet.haveM (by assumption) ?_; (try simp only [go_sem])) | (refine AGet.have' (by assumption) ?_; (try simp only [go_sem])) | ((first | refine AGet.nth ?_ (fun b hb => ?_) | refine AGet.nth1 ?_ (fun b hb => ?_) | with_reducible refine And.intro ?_ ?_); (focus ((first | omega | exact List.length_pos_iff.2 (by assumption) | (simp only [List.length_append, List.length_cons, List.length_nil, List.length_map, List.length_take, List.length_drop] at *; omega) | (rw [wrap64_id (by omega) (by omega)]; omega) | (simp; done)))); (try simp only [hb, go_sem])))
  refine hK2 _ ?_; clear hK2 K2
  refine AWP.ret ?_
  try simp only [go_sem]
  exact ⟨[], .v _, rfl, rfl, rfl, rfl⟩


theorem bclone_c (b : Bs) (hl : b.length ≤ 1000000) : ACalls E 52 [bytesV b] (fun r t => r = .sl (some 0) 1 (b.map u8) ∧ t = [b.length]) := by -- bytes.Clone
  refine ACalls.of_awp (n := 8) (rs := [.tmp 2]) Tryd.func52 rfl Tryd.ntmps52 rfl ?_
  refine AWP.seqk fun K1 hK1 => ?_
  refine AWP.region ?_
  simp only [go_sem] -- region 0
  repeat' (first | (refine AGet.haveM (by assumption) ?_; (try simp only [go_sem])) | (refine AGet.have' (by assumption) ?_; (try simp only [go_sem])) | ((first | refine AGet.nth ?_ (fun b hb => ?_) | refine AGet.nth1 ?_ (fun b hb => ?_) | with_reducible refine And.intro ?_ ?_); (focus ((first | omega | exact List.length_pos_iff.2 (by assumption) | (simp only [List.length_append, List.length_cons, List.length_nil, List.length_map, List.length_take, List.length_drop] at *; omega) | (rw [wrap64_id (by omega) (by omega)]; omega) | (simp; done)))); (try simp only [hb, go_sem])))
  refine hK1 _ ?_; clear hK1 K1
  refine AWP.seqk fun K2 hK2 => ?_
  refine AWP.seqk fun K3 hK3 => ?_
  refine AWP.region ?_
  simp only [go_sem] -- region 1
  repeat' (first | (refine AGet.haveM (by assumption) ?_; (try simp only [go_sem])) | (refine AGet.have' (by assumption) ?_; (try simp only [go_sem])) | ((first | refine AGet.nth ?_ (fun b hb => ?_) | refine AGet.nth1 ?_ (fun b hb => ?_) | with_reducible refine And.intro ?_ ?_); (focus ((first | omega | exact List.length_pos_iff.2 (by assumption) | (simp only [List.length_append, List.length_cons, List.length_nil, List.length_map, List.length_take, List.length_drop] at *; omega) | (rw [wrap64_id (by omega) (by omega)]; omega) | (simp; done)))); (try simp only [hb, go_sem])))
  intro bb hbb
  refine hK3 _ ?_; clear hK3 K3
  refine AWP.cond rfl (fun c4 => ?_) (fun c4 => ?_)
  · first | exact Bool.noConfusion c4 | (
      try simp only [dD] at c4
      refine AWP.seqk fun K4 hK4 => ?_
      refine AWP.region ?_
      simp only [go_sem] -- region 2
      repeat' (first | (refine AGet.haveM (by assumption) ?_; (try simp only [go_sem])) | (refine AGet.have' (by assumption) ?_; (try simp only [go_sem])) | ((first | refine AGet.nth ?_ (fun b hb => ?_) | refine AGet.nth1 ?_ (fun b hb => ?_) | with_reducible refine And.intro ?_ ?_); (focus ((first | omega | exact List.length_pos_iff.2 (by assumption) | (simp only [List.length_append, List.length_cons, List.length_nil, List.length_map, List.length_take, List.length_drop] at *; omega) | (rw [wrap64_id (by omega) (by omega)]; omega) | (simp; done)))); (try simp only [hb, go_sem])))
      refine hK4 _ ?_; clear hK4 K4
      refine AWP.ret ?_
      try simp only [go_sem]
      clear hK2 K2
      first
      | (have he : b = [] := by
           apply Classical.byContradiction; intro hne
           have := hbb (by simpa using hne)
           rw [this] at c4; exact absurd c4 (by simp)
         exact ⟨[(false, 1)], .sl (some 0) 1 [], rfl, rfl, by rw [he]; rfl, by rw [he]; rfl⟩)
      | exact ⟨[(true, 0)], .sl (some 0) 1 _, rfl, ⟨rfl, rfl, rfl⟩, by simp, by simp [selLens]⟩
      | skip)
  · first | exact Bool.noConfusion c4 | (
      try simp only [dD] at c4
      refine AWP.skip ?_
      refine hK2 _ ?_; clear hK2 K2
      refine AWP.seqk fun K5 hK5 => ?_
      refine AWP.region ?_
      simp only [go_sem] -- region 3
      repeat' (first | (refine AGet.haveM (by assumption) ?_; (try simp only [go_sem])) | (refine AGet.have' (by assumption) ?_; (try simp only [go_sem])) | ((first | refine AGet.nth ?_ (fun b hb => ?_) | refine AGet.nth1 ?_ (fun b hb => ?_) | with_reducible refine And.intro ?_ ?_); (focus ((first | omega | exact List.length_pos_iff.2 (by assumption) | (simp only [List.length_append, List.length_cons, List.length_nil, List.length_map, List.length_take, List.length_drop] at *; omega) | (rw [wrap64_id (by omega) (by omega)]; omega) | (simp; done)))); (try simp only [hb, go_sem])))
      refine hK5 _ ?_; clear hK5 K5
      refine AWP.ret ?_
      try simp only [go_sem]
      first
      | (have he : b = [] := by
           apply Classical.byContradiction; intro hne
           have := hbb (by simpa using hne)
           rw [this] at c4; exact absurd c4 (by simp)
         exact ⟨[(false, 1)], .sl (some 0) 1 [], rfl, rfl, by rw [he]; rfl, by rw [he]; rfl⟩)
      | exact ⟨[(true, 0)], .sl (some 0) 1 _, rfl, ⟨rfl, rfl, rfl⟩, by simp, by simp [selLens]⟩
      | skip)


theorem begins_c (b : Bs) : ACalls E 65 [bytesV b] (fun r t => r = bl (begins b) ∧ t = []) := by -- checkroll/frame.begins
  refine ACalls.of_awp (n := 14) (rs := [.tmp 2]) Tryd.func65 rfl Tryd.ntmps65 rfl ?_
  refine AWP.seqk fun K1 hK1 => ?_
  refine AWP.region ?_
  simp only [go_sem, begS, beg_len] -- region 0
  repeat' (first | (refine AGet.haveM (by assumption) ?_; (try simp only [go_sem, begS, beg_len])) | (refine AGet.have' (by assumption) ?_; (try simp only [go_sem, begS, beg_len])) | ((first | refine AGet.nth ?_ (fun b hb => ?_) | refine AGet.nth1 ?_ (fun b hb => ?_) | with_reducible refine And.intro ?_ ?_); (focus ((first | omega | exact List.length_pos_iff.2 (by assumption) | (simp only [List.length_append, List.length_cons, List.length_nil, List.length_map, List.length_take, List.length_drop] at *; omega) | (rw [wrap64_id (by omega) (by omega)]; omega) | (simp; done)))); (try simp only [hb, go_sem, begS, beg_len])))
  refine hK1 _ ?_; clear hK1 K1
  refine AWP.seqk fun K2 hK2 => ?_
  refine AWP.region ?_
  simp only [go_sem, begS, beg_len] -- region 1
  repeat' (first | (refine AGet.haveM (by assumption) ?_; (try simp only [go_sem, begS, beg_len])) | (refine AGet.have' (by assumption) ?_; (try simp only [go_sem, begS, beg_len])) | ((first | refine AGet.nth ?_ (fun b hb => ?_) | refine AGet.nth1 ?_ (fun b hb => ?_) | with_reducible refine And.intro ?_ ?_); (focus ((first | omega | exact List.length_pos_iff.2 (by assumption) | (simp only [List.length_append, List.length_cons, List.length_nil, List.length_map, List.length_take, List.length_drop] at *; omega) | (rw [wrap64_id (by omega) (by omega)]; omega) | (simp; done)))); (try simp only [hb, go_sem, begS, beg_len])))
  refine hK2 _ ?_; clear hK2 K2
  refine AWP.seqk fun K3 hK3 => ?_
  refine AWP.regionAs [0, 1, 2, 3, 4, 5, 6, 7] [[], [], [0, 1], [0, 1, 2], [], [4], [0, 1, 2, 3, 4, 5], [0, 1, 2, 3, 4, 5, 6]] [] (by kernel_rfl) (by kernel_rfl) (by decide) rfl ?_
  simp only [go_sem, begS, beg_len] -- region 2
  repeat' (first | (refine AGet.haveM (by assumption) ?_; (try simp only [go_sem, begS, beg_len])) | (refine AGet.have' (by assumption) ?_; (try simp only [go_sem, begS, beg_len])) | ((first | refine AGet.nth ?_ (fun b hb => ?_) | refine AGet.nth1 ?_ (fun b hb => ?_) | with_reducible refine And.intro ?_ ?_); (focus ((first | omega | exact List.length_pos_iff.2 (by assumption) | (simp only [List.length_append, List.length_cons, List.length_nil, List.length_map, List.length_take, List.length_drop] at *; omega) | (rw [wrap64_id (by omega) (by omega)]; omega) | (simp; done)))); (try simp only [hb, go_sem, begS, beg_len])))
  refine hK3 _ ?_; clear hK3 K3
  refine AWP.ret ?_
  try simp only [go_sem]
  exact ⟨[], .v _, rfl, rfl, by rw [begins_min], rfl⟩


theorem junk_c (b : Bs) (hl : b.length ≤ 1000000) (hne : b ≠ []) : ACalls E 53 [bytesV b] (fun r t => r = i64 (junkF b : Nat) ∧ t = []) := by -- checkroll/frame.junk
  refine ACalls.of_awp (n := 17) (rs := [.tmp 2]) Tryd.func53 rfl Tryd.ntmps53 rfl ?_
  refine AWP.seqk fun K1 hK1 => ?_
  refine AWP.region ?_
  simp only [go_sem] -- region 0
  repeat' (first | (refine AGet.haveM (by assumption) ?_; (try simp only [go_sem])) | (refine AGet.have' (by assumption) ?_; (try simp only [go_sem])) | ((first | refine AGet.nth ?_ (fun b hb => ?_) | refine AGet.nth1 ?_ (fun b hb => ?_) | with_reducible refine And.intro ?_ ?_); (focus ((first | omega | exact List.length_pos_iff.2 (by assumption) | (simp only [List.length_append, List.length_cons, List.length_nil, List.length_map, List.length_take, List.length_drop] at *; omega) | (rw [wrap64_id (by omega) (by omega)]; omega) | (simp; done)))); (try simp only [hb, go_sem])))
  refine hK1 _ ?_; clear hK1 K1
  refine AWP.seqk fun K2 hK2 => ?_
  refine AWP.seqk fun K3 hK3 => ?_
  refine AWP.region ?_
  simp only [go_sem] -- region 1
  repeat' (first | (refine AGet.haveM (by assumption) ?_; (try simp only [go_sem])) | (refine AGet.have' (by assumption) ?_; (try simp only [go_sem])) | ((first | refine AGet.nth ?_ (fun b hb => ?_) | refine AGet.nth1 ?_ (fun b hb => ?_) | with_reducible refine And.intro ?_ ?_); (focus ((first | omega | exact List.length_pos_iff.2 (by assumption) | (simp only [List.length_append, List.length_cons, List.length_nil, List.length_map, List.length_take, List.length_drop] at *; omega) | (rw [wrap64_id (by omega) (by omega)]; omega) | (simp; done)))); (try simp only [hb, go_sem])))
  refine hK3 _ ?_; clear hK3 K3
  refine AWP.block ?_ -- 0
  refine AWP.loopH (ι := Nat) [2, 4, 5, 6, 7, 8, 9, 10, 11, 12, 13, 14] (fun (i : Nat) => [(3, i64 i)]) (fun (i : Nat) => 1 ≤ i ∧ i ≤ b.length ∧ ∀ k, 1 ≤ k → k < i → begins (b.drop k) = false) (fun (i : Nat) => b.length - i) (1) ?_ ?_ ?_
  · (try simp only [go_sem]); try (simp; done)
  · exact ⟨by omega, List.length_pos_iff.2 hne, fun k h1 h2 => by omega⟩
  rintro i ⟨h1, h2, h3⟩
  simp only [go_sem]
  refine AWP.seqk fun K4 hK4 => ?_
  refine AWP.seqk fun K5 hK5 => ?_
  refine AWP.region ?_
  simp only [go_sem] -- region 2
  repeat' (first | (refine AGet.haveM (by assumption) ?_; (try simp only [go_sem])) | (refine AGet.have' (by assumption) ?_; (try simp only [go_sem])) | ((first | refine AGet.nth ?_ (fun b hb => ?_) | refine AGet.nth1 ?_ (fun b hb => ?_) | with_reducible refine And.intro ?_ ?_); (focus ((first | omega | exact List.length_pos_iff.2 (by assumption) | (simp only [List.length_append, List.length_cons, List.length_nil, List.length_map, List.length_take, List.length_drop] at *; omega) | (rw [wrap64_id (by omega) (by omega)]; omega) | (simp; done)))); (try simp only [hb, go_sem])))
  refine hK5 _ ?_; clear hK5 K5
  refine AWP.cond rfl (fun c7 => ?_) (fun c7 => ?_)
  · first | exact Bool.noConfusion c7 | (
      try simp only [dD] at c7
      refine AWP.skip ?_
      refine hK4 _ ?_; clear hK4 K4
      refine AWP.seqk fun K6 hK6 => ?_
      refine AWP.block ?_ -- 1
      refine AWP.seqk fun K7 hK7 => ?_
      refine AWP.region ?_
      simp only [go_sem] -- region 4
      repeat' (first | (refine ACall.one (begins_c _) (by kernel_rfl) rfl ?_; simp only [go_sem]) | (refine AGet.haveM (by assumption) ?_; (try simp only [go_sem])) | (refine AGet.have' (by assumption) ?_; (try simp only [go_sem])) | ((first | refine AGet.nth ?_ (fun b hb => ?_) | refine AGet.nth1 ?_ (fun b hb => ?_) | with_reducible refine And.intro ?_ ?_); (focus ((first | omega | exact List.length_pos_iff.2 (by assumption) | (simp only [List.length_append, List.length_cons, List.length_nil, List.length_map, List.length_take, List.length_drop] at *; omega) | (rw [wrap64_id (by omega) (by omega)]; omega) | (simp; done)))); (try simp only [hb, go_sem])))
      refine hK7 _ ?_; clear hK7 K7
      refine AWP.cond rfl (fun c13 => ?_) (fun c13 => ?_)
      · first | exact Bool.noConfusion c13 | (
          try simp only [dD] at c13
          refine AWP.seqk fun K8 hK8 => ?_
          refine AWP.region ?_
          simp only [go_sem] -- region 5
          repeat' (first | (refine AGet.haveM (by assumption) ?_; (try simp only [go_sem])) | (refine AGet.have' (by assumption) ?_; (try simp only [go_sem])) | ((first | refine AGet.nth ?_ (fun b hb => ?_) | refine AGet.nth1 ?_ (fun b hb => ?_) | with_reducible refine And.intro ?_ ?_); (focus ((first | omega | exact List.length_pos_iff.2 (by assumption) | (simp only [List.length_append, List.length_cons, List.length_nil, List.length_map, List.length_take, List.length_drop] at *; omega) | (rw [wrap64_id (by omega) (by omega)]; omega) | (simp; done)))); (try simp only [hb, go_sem])))
          refine hK8 _ ?_; clear hK8 K8
          refine AWP.ret ?_
          try simp only [go_sem]
          clear hK6 K6 hK2 K2
          first
          | exact ⟨[], .v _, rfl, rfl, by rw [junk_eq h1 (by omega) (by assumption) h3], rfl⟩
          | exact ⟨[], .v _, rfl, rfl, by rw [junk_end hne (fun k g1 g2 => h3 k g1 (by omega))], rfl⟩
          | skip)
      · first | exact Bool.noConfusion c13 | (
          try simp only [dD] at c13
          refine AWP.skip ?_
          refine hK6 _ ?_; clear hK6 K6
          refine AWP.region ?_
          simp only [go_sem] -- region 3
          repeat' (first | (refine AGet.haveM (by assumption) ?_; (try simp only [go_sem])) | (refine AGet.have' (by assumption) ?_; (try simp only [go_sem])) | ((first | refine AGet.nth ?_ (fun b hb => ?_) | refine AGet.nth1 ?_ (fun b hb => ?_) | with_reducible refine And.intro ?_ ?_); (focus ((first | omega | exact List.length_pos_iff.2 (by assumption) | (simp only [List.length_append, List.length_cons, List.length_nil, List.length_map, List.length_take, List.length_drop] at *; omega) | (rw [wrap64_id (by omega) (by omega)]; omega) | (simp; done)))); (try simp only [hb, go_sem])))
          clear hK2 K2
          refine ⟨i + 1, ?_, ?_, ?_⟩
          · (try simp only [go_sem]); (try rw [wrap64_id (by omega) (by omega)]); simp
          · exact ⟨by omega, by omega, fun k g1 g2 => by rcases Nat.lt_or_ge k i with h | h; exact h3 k g1 h; exact (by rw [show k = i by omega]; assumption)⟩
          · omega))
  · first | exact Bool.noConfusion c7 | (
      try simp only [dD] at c7
      refine AWP.exit ?_
      simp only [go_sem]
      clear hK4 K4
      refine hK2 _ ?_; clear hK2 K2
      refine AWP.seqk fun K9 hK9 => ?_
      refine AWP.region ?_
      simp only [go_sem] -- region 6
      repeat' (first | (refine AGet.haveM (by assumption) ?_; (try simp only [go_sem])) | (refine AGet.have' (by assumption) ?_; (try simp only [go_sem])) | ((first | refine AGet.nth ?_ (fun b hb => ?_) | refine AGet.nth1 ?_ (fun b hb => ?_) | with_reducible refine And.intro ?_ ?_); (focus ((first | omega | exact List.length_pos_iff.2 (by assumption) | (simp only [List.length_append, List.length_cons, List.length_nil, List.length_map, List.length_take, List.length_drop] at *; omega) | (rw [wrap64_id (by omega) (by omega)]; omega) | (simp; done)))); (try simp only [hb, go_sem])))
      refine hK9 _ ?_; clear hK9 K9
      refine AWP.ret ?_
      try simp only [go_sem]
      first
      | exact ⟨[], .v _, rfl, rfl, by rw [junk_eq h1 (by omega) (by assumption) h3], rfl⟩
      | exact ⟨[], .v _, rfl, rfl, by rw [junk_end hne (fun k g1 g2 => h3 k g1 (by omega))], rfl⟩
      | skip)


set_option maxHeartbeats 4000000 in
set_option maxRecDepth 8000 in
theorem head_c (bs : Bs) (hl : bs.length ≤ 1000000) : ACalls E 50 [bytesV bs] (fun r t => r = .tup [i64 (hd3 (headF bs)).1, i64 (hd3 (headF bs)).2.1, i64 (hd3 (headF bs)).2.2] ∧ t = []) := by -- checkroll/frame.head
  have hdl : (bs.drop 12).length = bs.length - 12 := List.length_drop
  refine ACalls.of_awp (n := 72) (rs := [.tmp 2, .tmp 3, .tmp 4]) Tryd.func50 rfl Tryd.ntmps50 rfl ?_
  refine AWP.seqk fun K1 hK1 => ?_
  refine AWP.region ?_
  simp only [go_sem] -- region 0
  repeat' (first | (refine AGet.haveM (by assumption) ?_; (try simp only [go_sem])) | (refine AGet.have' (by assumption) ?_; (try simp only [go_sem])) | ((first | refine AGet.nth ?_ (fun b hb => ?_) | refine AGet.nth1 ?_ (fun b hb => ?_) | with_reducible refine And.intro ?_ ?_); (focus ((first | omega | exact List.length_pos_iff.2 (by assumption) | (simp only [List.length_append, List.length_cons, List.length_nil, List.length_map, List.length_take, List.length_drop] at *; omega) | (rw [wrap64_id (by omega) (by omega)]; omega) | (simp; done)))); (try simp only [hb, go_sem])))
  refine hK1 _ ?_; clear hK1 K1
  refine AWP.seqk fun K2 hK2 => ?_
  refine AWP.seqk fun K3 hK3 => ?_
  refine AWP.region ?_
  simp only [go_sem] -- region 1
  repeat' (first | (refine ACall.one (begins_c _) (by kernel_rfl) rfl ?_; simp only [go_sem]) | (refine AGet.haveM (by assumption) ?_; (try simp only [go_sem])) | (refine AGet.have' (by assumption) ?_; (try simp only [go_sem])) | ((first | refine AGet.nth ?_ (fun b hb => ?_) | refine AGet.nth1 ?_ (fun b hb => ?_) | with_reducible refine And.intro ?_ ?_); (focus ((first | omega | exact List.length_pos_iff.2 (by assumption) | (simp only [List.length_append, List.length_cons, List.length_nil, List.length_map, List.length_take, List.length_drop] at *; omega) | (rw [wrap64_id (by omega) (by omega)]; omega) | (simp; done)))); (try simp only [hb, go_sem])))
  refine hK3 _ ?_; clear hK3 K3
  refine AWP.cond rfl (fun c9 => ?_) (fun c9 => ?_)
  · first | exact Bool.noConfusion c9 | (
      try simp only [dD] at c9
      refine AWP.seqk fun K4 hK4 => ?_
      refine AWP.region ?_
      simp only [go_sem] -- region 2
      repeat' (first | (refine AGet.haveM (by assumption) ?_; (try simp only [go_sem])) | (refine AGet.have' (by assumption) ?_; (try simp only [go_sem])) | ((first | refine AGet.nth ?_ (fun b hb => ?_) | refine AGet.nth1 ?_ (fun b hb => ?_) | with_reducible refine And.intro ?_ ?_); (focus ((first | omega | exact List.length_pos_iff.2 (by assumption) | (simp only [List.length_append, List.length_cons, List.length_nil, List.length_map, List.length_take, List.length_drop] at *; omega) | (rw [wrap64_id (by omega) (by omega)]; omega) | (simp; done)))); (try simp only [hb, go_sem])))
      refine hK4 _ ?_; clear hK4 K4
      refine AWP.ret ?_
      try simp only [go_sem]
      clear hK2 K2
      first
      | exact ⟨[], .tup [.v _, .v _, .v _], rfl, ⟨rfl, rfl, rfl, trivial⟩, by rw [hd3j (headF_nb (by assumption))], rfl⟩
      | exact ⟨[], .tup [.v _, .v _, .v _], rfl, ⟨rfl, rfl, rfl, trivial⟩, by rw [hd3n (headF_sh (by assumption) (by omega))], rfl⟩
      | (have hR := headF_r (b := bs) (by assumption) (by omega)
         first
         | exact ⟨[], .tup [.v _, .v _, .v _], rfl, ⟨rfl, rfl, rfl, trivial⟩, by rw [hd3j (hR.trans (hp.bad hbj (by assumption) c30 (.inl h)))], rfl⟩
         | exact ⟨[], .tup [.v _, .v _, .v _], rfl, ⟨rfl, rfl, rfl, trivial⟩, by rw [hd3j (hR.trans (hp.bad hbj (by assumption) c30 (.inr c45)))], rfl⟩
         | exact ⟨[], .tup [.v _, .v _, .v _], rfl, ⟨rfl, rfl, rfl, trivial⟩, by rw [hd3n (hR.trans (hp.atEnd (by omega)))], rfl⟩
         | exact ⟨[], .tup [.v _, .v _, .v _], rfl, ⟨rfl, rfl, rfl, trivial⟩, by rw [hd3j (hR.trans (head_no hp hb (.inl (by assumption)) hs))], rfl⟩
         | exact ⟨[], .tup [.v _, .v _, .v _], rfl, ⟨rfl, rfl, rfl, trivial⟩, by rw [hd3j (hR.trans (head_no hp hb (.inr (by omega)) hs))], rfl⟩
         | exact ⟨[], .tup [.v _, .v _, .v _], rfl, ⟨rfl, rfl, rfl, trivial⟩, by rw [hd3n (hR.trans (hp.less (head_one hb (by assumption)) (head_pos (by assumption)) (by omega)))], rfl⟩
         | exact ⟨[], .tup [.v _, .v _, .v _], rfl, ⟨rfl, rfl, rfl, trivial⟩, by rw [hd3f (hR.trans (hp.full (head_one hb (by assumption)) (head_pos (by assumption)) (by omega)))], rfl⟩
         | skip)
      | skip)
  · first | exact Bool.noConfusion c9 | (
      try simp only [dD] at c9
      refine AWP.skip ?_
      refine hK2 _ ?_; clear hK2 K2
      refine AWP.seqk fun K5 hK5 => ?_
      refine AWP.seqk fun K6 hK6 => ?_
      refine AWP.region ?_
      simp only [go_sem] -- region 3
      repeat' (first | (refine AGet.haveM (by assumption) ?_; (try simp only [go_sem])) | (refine AGet.have' (by assumption) ?_; (try simp only [go_sem])) | ((first | refine AGet.nth ?_ (fun b hb => ?_) | refine AGet.nth1 ?_ (fun b hb => ?_) | with_reducible refine And.intro ?_ ?_); (focus ((first | omega | exact List.length_pos_iff.2 (by assumption) | (simp only [List.length_append, List.length_cons, List.length_nil, List.length_map, List.length_take, List.length_drop] at *; omega) | (rw [wrap64_id (by omega) (by omega)]; omega) | (simp; done)))); (try simp only [hb, go_sem])))
      refine hK6 _ ?_; clear hK6 K6
      refine AWP.cond rfl (fun c12 => ?_) (fun c12 => ?_)
      · first | exact Bool.noConfusion c12 | (
          try simp only [dD] at c12
          refine AWP.seqk fun K7 hK7 => ?_
          refine AWP.region ?_
          simp only [go_sem] -- region 4
          repeat' (first | (refine AGet.haveM (by assumption) ?_; (try simp only [go_sem])) | (refine AGet.have' (by assumption) ?_; (try simp only [go_sem])) | ((first | refine AGet.nth ?_ (fun b hb => ?_) | refine AGet.nth1 ?_ (fun b hb => ?_) | with_reducible refine And.intro ?_ ?_); (focus ((first | omega | exact List.length_pos_iff.2 (by assumption) | (simp only [List.length_append, List.length_cons, List.length_nil, List.length_map, List.length_take, List.length_drop] at *; omega) | (rw [wrap64_id (by omega) (by omega)]; omega) | (simp; done)))); (try simp only [hb, go_sem])))
          refine hK7 _ ?_; clear hK7 K7
          refine AWP.ret ?_
          try simp only [go_sem]
          clear hK5 K5
          first
          | exact ⟨[], .tup [.v _, .v _, .v _], rfl, ⟨rfl, rfl, rfl, trivial⟩, by rw [hd3j (headF_nb (by assumption))], rfl⟩
          | exact ⟨[], .tup [.v _, .v _, .v _], rfl, ⟨rfl, rfl, rfl, trivial⟩, by rw [hd3n (headF_sh (by assumption) (by omega))], rfl⟩
          | (have hR := headF_r (b := bs) (by assumption) (by omega)
             first
             | exact ⟨[], .tup [.v _, .v _, .v _], rfl, ⟨rfl, rfl, rfl, trivial⟩, by rw [hd3j (hR.trans (hp.bad hbj (by assumption) c30 (.inl h)))], rfl⟩
             | exact ⟨[], .tup [.v _, .v _, .v _], rfl, ⟨rfl, rfl, rfl, trivial⟩, by rw [hd3j (hR.trans (hp.bad hbj (by assumption) c30 (.inr c45)))], rfl⟩
             | exact ⟨[], .tup [.v _, .v _, .v _], rfl, ⟨rfl, rfl, rfl, trivial⟩, by rw [hd3n (hR.trans (hp.atEnd (by omega)))], rfl⟩
             | exact ⟨[], .tup [.v _, .v _, .v _], rfl, ⟨rfl, rfl, rfl, trivial⟩, by rw [hd3j (hR.trans (head_no hp hb (.inl (by assumption)) hs))], rfl⟩
             | exact ⟨[], .tup [.v _, .v _, .v _], rfl, ⟨rfl, rfl, rfl, trivial⟩, by rw [hd3j (hR.trans (head_no hp hb (.inr (by omega)) hs))], rfl⟩
             | exact ⟨[], .tup [.v _, .v _, .v _], rfl, ⟨rfl, rfl, rfl, trivial⟩, by rw [hd3n (hR.trans (hp.less (head_one hb (by assumption)) (head_pos (by assumption)) (by omega)))], rfl⟩
             | exact ⟨[], .tup [.v _, .v _, .v _], rfl, ⟨rfl, rfl, rfl, trivial⟩, by rw [hd3f (hR.trans (hp.full (head_one hb (by assumption)) (head_pos (by assumption)) (by omega)))], rfl⟩
             | skip)
          | skip)
      · first | exact Bool.noConfusion c12 | (
          try simp only [dD] at c12
          refine AWP.skip ?_
          refine hK5 _ ?_; clear hK5 K5
          refine AWP.seqk fun K8 hK8 => ?_
          refine AWP.region ?_
          simp only [go_sem] -- region 5
          repeat' (first | (refine AGet.haveM (by assumption) ?_; (try simp only [go_sem])) | (refine AGet.have' (by assumption) ?_; (try simp only [go_sem])) | ((first | refine AGet.nth ?_ (fun b hb => ?_) | refine AGet.nth1 ?_ (fun b hb => ?_) | with_reducible refine And.intro ?_ ?_); (focus ((first | omega | exact List.length_pos_iff.2 (by assumption) | (simp only [List.length_append, List.length_cons, List.length_nil, List.length_map, List.length_take, List.length_drop] at *; omega) | (rw [wrap64_id (by omega) (by omega)]; omega) | (simp; done)))); (try simp only [hb, go_sem])))
          refine hK8 _ ?_; clear hK8 K8
          refine AWP.seqk fun K9 hK9 => ?_
          refine AWP.region ?_
          simp only [go_sem] -- region 6
          repeat' (first | (refine AGet.haveM (by assumption) ?_; (try simp only [go_sem])) | (refine AGet.have' (by assumption) ?_; (try simp only [go_sem])) | ((first | refine AGet.nth ?_ (fun b hb => ?_) | refine AGet.nth1 ?_ (fun b hb => ?_) | with_reducible refine And.intro ?_ ?_); (focus ((first | omega | exact List.length_pos_iff.2 (by assumption) | (simp only [List.length_append, List.length_cons, List.length_nil, List.length_map, List.length_take, List.length_drop] at *; omega) | (rw [wrap64_id (by omega) (by omega)]; omega) | (simp; done)))); (try simp only [hb, go_sem])))
          refine hK9 _ ?_; clear hK9 K9
          refine AWP.seqJ (ι := Nat) [2, 3, 4, 13, 14, 15, 16, 17, 18, 19, 20, 21, 22, 23, 24, 25, 26, 27, 28, 29, 30, 31, 32, 33, 34, 35, 36, 37, 38, 39, 40, 41, 42, 43, 44, 45, 46, 47] (fun (j : Nat) => [(5, i64 ((decVal 0 ((bs.drop 12).take j) : Nat) : Int)), (6, i64 ((12 + j : Nat) : Int))]) (fun (j : Nat) => []) (fun (j : Nat) => []) (fun (j : Nat) => HP (bs.drop 12) j ∧ (12 + j = bs.length ∨ ∃ c, bs[12 + j]? = some c ∧ isDig c = false)) ?_ ?_
          · refine AWP.block ?_ -- 0
            refine AWP.loopH (ι := Nat) [2, 3, 4, 13, 14, 15, 16, 17, 18, 19, 20, 21, 22, 23, 24, 25, 26, 27, 28, 29, 30, 31, 32, 33, 34, 35, 36, 37, 38, 39, 40, 41, 42, 43, 44, 45, 46, 47] (fun (j : Nat) => [(5, i64 ((decVal 0 ((bs.drop 12).take j) : Nat) : Int)), (6, i64 ((12 + j : Nat) : Int))]) (fun (j : Nat) => HP (bs.drop 12) j) (fun (j : Nat) => bs.length - (12 + j)) (0) ?_ ?_ ?_
            · (try simp only [go_sem]); simp [decVal_nil]
            · exact HP.zero
            rintro j hp
            simp only [go_sem]
            refine AWP.seqk fun K10 hK10 => ?_
            refine AWP.seqk fun K11 hK11 => ?_
            refine AWP.region ?_
            simp only [go_sem] -- region 7
            repeat' (first | (refine AGuard.splitN (fun h => ?_) (fun h => ?_) <;> simp only [h, go_sem] <;> try simp only [dD] at h) | (refine AGuard.split (fun h => ?_) (fun h => ?_) <;> simp only [h, go_sem] <;> try simp only [dD] at h) | (refine AGet.haveM (by assumption) ?_; (try simp only [go_sem])) | (refine AGet.have' (by assumption) ?_; (try simp only [go_sem])) | ((first | refine AGet.nth ?_ (fun b hb => ?_) | refine AGet.nth1 ?_ (fun b hb => ?_) | with_reducible refine And.intro ?_ ?_); (focus ((first | omega | exact List.length_pos_iff.2 (by assumption) | (simp only [List.length_append, List.length_cons, List.length_nil, List.length_map, List.length_take, List.length_drop] at *; omega) | (rw [wrap64_id (by omega) (by omega)]; omega) | (simp; done)))); (try simp only [hb, go_sem])))
            all_goals (
              refine hK11 _ ?_; clear hK11 K11
              refine AWP.cond rfl (fun c30 => ?_) (fun c30 => ?_)
              · first | exact Bool.noConfusion c30 | (
                  try simp only [dD] at c30
                  refine AWP.skip ?_
                  refine hK10 _ ?_; clear hK10 K10
                  refine AWP.block ?_ -- 1
                  refine AWP.seqk fun K12 hK12 => ?_
                  have hlt := get_lt hb
                  have hbj : (bs.drop 12)[j]? = some b := get12.trans hb
                  have hv := dv_wrap hbj (by assumption) c30 (by have := hp.le.1; omega)
                  refine AWP.region ?_
                  simp only [go_sem] -- region 8
                  repeat' (first | (refine AGet.haveM (by assumption) ?_; (try simp only [go_sem])) | (refine AGet.have' (by assumption) ?_; (try simp only [go_sem])) | ((first | refine AGet.nth ?_ (fun b hb => ?_) | refine AGet.nth1 ?_ (fun b hb => ?_) | with_reducible refine And.intro ?_ ?_); (focus ((first | omega | exact List.length_pos_iff.2 (by assumption) | (simp only [List.length_append, List.length_cons, List.length_nil, List.length_map, List.length_take, List.length_drop] at *; omega) | (rw [wrap64_id (by omega) (by omega)]; omega) | (simp; done)))); (try simp only [hb, go_sem])))
                  rw [hv]
                  refine hK12 _ ?_; clear hK12 K12
                  refine AWP.seqk fun K13 hK13 => ?_
                  refine AWP.seqk fun K14 hK14 => ?_
                  refine AWP.region ?_
                  simp only [go_sem] -- region 9
                  repeat' (first | (refine AGuard.splitN (fun h => ?_) (fun h => ?_) <;> simp only [h, go_sem] <;> try simp only [dD] at h) | (refine AGuard.split (fun h => ?_) (fun h => ?_) <;> simp only [h, go_sem] <;> try simp only [dD] at h) | (refine AGet.haveM (by assumption) ?_; (try simp only [go_sem])) | (refine AGet.have' (by assumption) ?_; (try simp only [go_sem])) | ((first | refine AGet.nth ?_ (fun b hb => ?_) | refine AGet.nth1 ?_ (fun b hb => ?_) | with_reducible refine And.intro ?_ ?_); (focus ((first | omega | exact List.length_pos_iff.2 (by assumption) | (simp only [List.length_append, List.length_cons, List.length_nil, List.length_map, List.length_take, List.length_drop] at *; omega) | (rw [wrap64_id (by omega) (by omega)]; omega) | (simp; done)))); (try simp only [hb, go_sem])))
                  all_goals (
                    refine hK14 _ ?_; clear hK14 K14
                    refine AWP.cond rfl (fun c45 => ?_) (fun c45 => ?_)
                    · first | exact Bool.noConfusion c45 | (
                        try simp only [dD] at c45
                        refine AWP.seqk fun K15 hK15 => ?_
                        refine AWP.region ?_
                        simp only [go_sem] -- region 10
                        repeat' (first | (refine AGet.haveM (by assumption) ?_; (try simp only [go_sem])) | (refine AGet.have' (by assumption) ?_; (try simp only [go_sem])) | ((first | refine AGet.nth ?_ (fun b hb => ?_) | refine AGet.nth1 ?_ (fun b hb => ?_) | with_reducible refine And.intro ?_ ?_); (focus ((first | omega | exact List.length_pos_iff.2 (by assumption) | (simp only [List.length_append, List.length_cons, List.length_nil, List.length_map, List.length_take, List.length_drop] at *; omega) | (rw [wrap64_id (by omega) (by omega)]; omega) | (simp; done)))); (try simp only [hb, go_sem])))
                        refine hK15 _ ?_; clear hK15 K15
                        refine AWP.ret ?_
                        try simp only [go_sem]
                        clear hK13 K13
                        first
                        | exact ⟨[], .tup [.v _, .v _, .v _], rfl, ⟨rfl, rfl, rfl, trivial⟩, by rw [hd3j (headF_nb (by assumption))], rfl⟩
                        | exact ⟨[], .tup [.v _, .v _, .v _], rfl, ⟨rfl, rfl, rfl, trivial⟩, by rw [hd3n (headF_sh (by assumption) (by omega))], rfl⟩
                        | (have hR := headF_r (b := bs) (by assumption) (by omega)
                           first
                           | exact ⟨[], .tup [.v _, .v _, .v _], rfl, ⟨rfl, rfl, rfl, trivial⟩, by rw [hd3j (hR.trans (hp.bad hbj (by assumption) c30 (.inl h)))], rfl⟩
                           | exact ⟨[], .tup [.v _, .v _, .v _], rfl, ⟨rfl, rfl, rfl, trivial⟩, by rw [hd3j (hR.trans (hp.bad hbj (by assumption) c30 (.inr c45)))], rfl⟩
                           | exact ⟨[], .tup [.v _, .v _, .v _], rfl, ⟨rfl, rfl, rfl, trivial⟩, by rw [hd3n (hR.trans (hp.atEnd (by omega)))], rfl⟩
                           | exact ⟨[], .tup [.v _, .v _, .v _], rfl, ⟨rfl, rfl, rfl, trivial⟩, by rw [hd3j (hR.trans (head_no hp hb (.inl (by assumption)) hs))], rfl⟩
                           | exact ⟨[], .tup [.v _, .v _, .v _], rfl, ⟨rfl, rfl, rfl, trivial⟩, by rw [hd3j (hR.trans (head_no hp hb (.inr (by omega)) hs))], rfl⟩
                           | exact ⟨[], .tup [.v _, .v _, .v _], rfl, ⟨rfl, rfl, rfl, trivial⟩, by rw [hd3n (hR.trans (hp.less (head_one hb (by assumption)) (head_pos (by assumption)) (by omega)))], rfl⟩
                           | exact ⟨[], .tup [.v _, .v _, .v _], rfl, ⟨rfl, rfl, rfl, trivial⟩, by rw [hd3f (hR.trans (hp.full (head_one hb (by assumption)) (head_pos (by assumption)) (by omega)))], rfl⟩
                           | skip)
                        | skip)
                    · first | exact Bool.noConfusion c45 | (
                        try simp only [dD] at c45
                        refine AWP.skip ?_
                        refine hK13 _ ?_; clear hK13 K13
                        refine AWP.region ?_
                        simp only [go_sem] -- region 11
                        repeat' (first | (refine AGet.haveM (by assumption) ?_; (try simp only [go_sem])) | (refine AGet.have' (by assumption) ?_; (try simp only [go_sem])) | ((first | refine AGet.nth ?_ (fun b hb => ?_) | refine AGet.nth1 ?_ (fun b hb => ?_) | with_reducible refine And.intro ?_ ?_); (focus ((first | omega | exact List.length_pos_iff.2 (by assumption) | (simp only [List.length_append, List.length_cons, List.length_nil, List.length_map, List.length_take, List.length_drop] at *; omega) | (rw [wrap64_id (by omega) (by omega)]; omega) | (simp; done)))); (try simp only [hb, go_sem])))
                        rw [wrap64_id (by omega) (by omega)]
                        refine ⟨j + 1, ?_, ?_, ?_⟩
                        · simp; omega
                        · exact hp.next hbj (by assumption) c30 (by assumption) c45
                        · omega)))
              · first | exact Bool.noConfusion c30 | (
                  try simp only [dD] at c30
                  refine AWP.exit ?_
                  simp only [go_sem]
                  clear hK10 K10
                  refine ⟨j, ?_, ?_⟩
                  · first | exact ⟨hp, .inl (by have := hp.1; omega)⟩ | exact ⟨hp, .inr ⟨_, hb, nodig_iff.2 (.inl (by assumption))⟩⟩ | exact ⟨hp, .inr ⟨_, hb, nodig_iff.2 (.inr (by assumption))⟩⟩
                  · (try simp only [go_sem]); (try simp); done))
          rintro j ⟨hp, hs⟩
          simp only [go_sem]
          refine AWP.seqk fun K16 hK16 => ?_
          refine AWP.seqk fun K17 hK17 => ?_
          refine AWP.region ?_
          simp only [go_sem] -- region 12
          repeat' (first | (refine AGet.haveM (by assumption) ?_; (try simp only [go_sem])) | (refine AGet.have' (by assumption) ?_; (try simp only [go_sem])) | ((first | refine AGet.nth ?_ (fun b hb => ?_) | refine AGet.nth1 ?_ (fun b hb => ?_) | with_reducible refine And.intro ?_ ?_); (focus ((first | omega | exact List.length_pos_iff.2 (by assumption) | (simp only [List.length_append, List.length_cons, List.length_nil, List.length_map, List.length_take, List.length_drop] at *; omega) | (rw [wrap64_id (by omega) (by omega)]; omega) | (simp; done)))); (try simp only [hb, go_sem])))
          refine hK17 _ ?_; clear hK17 K17
          refine AWP.cond rfl (fun c51 => ?_) (fun c51 => ?_)
          · first | exact Bool.noConfusion c51 | (
              try simp only [dD] at c51
              refine AWP.seqk fun K18 hK18 => ?_
              refine AWP.region ?_
              simp only [go_sem] -- region 13
              repeat' (first | (refine AGet.haveM (by assumption) ?_; (try simp only [go_sem])) | (refine AGet.have' (by assumption) ?_; (try simp only [go_sem])) | ((first | refine AGet.nth ?_ (fun b hb => ?_) | refine AGet.nth1 ?_ (fun b hb => ?_) | with_reducible refine And.intro ?_ ?_); (focus ((first | omega | exact List.length_pos_iff.2 (by assumption) | (simp only [List.length_append, List.length_cons, List.length_nil, List.length_map, List.length_take, List.length_drop] at *; omega) | (rw [wrap64_id (by omega) (by omega)]; omega) | (simp; done)))); (try simp only [hb, go_sem])))
              refine hK18 _ ?_; clear hK18 K18
              refine AWP.ret ?_
              try simp only [go_sem]
              clear hK16 K16
              first
              | exact ⟨[], .tup [.v _, .v _, .v _], rfl, ⟨rfl, rfl, rfl, trivial⟩, by rw [hd3j (headF_nb (by assumption))], rfl⟩
              | exact ⟨[], .tup [.v _, .v _, .v _], rfl, ⟨rfl, rfl, rfl, trivial⟩, by rw [hd3n (headF_sh (by assumption) (by omega))], rfl⟩
              | (have hR := headF_r (b := bs) (by assumption) (by omega)
                 first
                 | exact ⟨[], .tup [.v _, .v _, .v _], rfl, ⟨rfl, rfl, rfl, trivial⟩, by rw [hd3j (hR.trans (hp.bad hbj (by assumption) c30 (.inl h)))], rfl⟩
                 | exact ⟨[], .tup [.v _, .v _, .v _], rfl, ⟨rfl, rfl, rfl, trivial⟩, by rw [hd3j (hR.trans (hp.bad hbj (by assumption) c30 (.inr c45)))], rfl⟩
                 | exact ⟨[], .tup [.v _, .v _, .v _], rfl, ⟨rfl, rfl, rfl, trivial⟩, by rw [hd3n (hR.trans (hp.atEnd (by omega)))], rfl⟩
                 | exact ⟨[], .tup [.v _, .v _, .v _], rfl, ⟨rfl, rfl, rfl, trivial⟩, by rw [hd3j (hR.trans (head_no hp hb (.inl (by assumption)) hs))], rfl⟩
                 | exact ⟨[], .tup [.v _, .v _, .v _], rfl, ⟨rfl, rfl, rfl, trivial⟩, by rw [hd3j (hR.trans (head_no hp hb (.inr (by omega)) hs))], rfl⟩
                 | exact ⟨[], .tup [.v _, .v _, .v _], rfl, ⟨rfl, rfl, rfl, trivial⟩, by rw [hd3n (hR.trans (hp.less (head_one hb (by assumption)) (head_pos (by assumption)) (by omega)))], rfl⟩
                 | exact ⟨[], .tup [.v _, .v _, .v _], rfl, ⟨rfl, rfl, rfl, trivial⟩, by rw [hd3f (hR.trans (hp.full (head_one hb (by assumption)) (head_pos (by assumption)) (by omega)))], rfl⟩
                 | skip)
              | skip)
          · first | exact Bool.noConfusion c51 | (
              try simp only [dD] at c51
              refine AWP.skip ?_
              refine hK16 _ ?_; clear hK16 K16
              refine AWP.seqk fun K19 hK19 => ?_
              refine AWP.seqk fun K20 hK20 => ?_
              have hple := hp.le
              have hpj := hp.1
              rw [hdl] at hpj
              refine AWP.region ?_
              simp only [go_sem] -- region 14
              repeat' (first | (refine AGuard.splitN (fun h => ?_) (fun h => ?_) <;> simp only [h, go_sem] <;> try simp only [dD] at h) | (refine AGuard.split (fun h => ?_) (fun h => ?_) <;> simp only [h, go_sem] <;> try simp only [dD] at h) | (refine AGet.haveM (by assumption) ?_; (try simp only [go_sem])) | (refine AGet.have' (by assumption) ?_; (try simp only [go_sem])) | ((first | refine AGet.nth ?_ (fun b hb => ?_) | refine AGet.nth1 ?_ (fun b hb => ?_) | with_reducible refine And.intro ?_ ?_); (focus ((first | omega | exact List.length_pos_iff.2 (by assumption) | (simp only [List.length_append, List.length_cons, List.length_nil, List.length_map, List.length_take, List.length_drop] at *; omega) | (rw [wrap64_id (by omega) (by omega)]; omega) | (simp; done)))); (try simp only [hb, go_sem])))
              all_goals (
                refine hK20 _ ?_; clear hK20 K20
                refine AWP.cond rfl (fun c60 => ?_) (fun c60 => ?_)
                · first | exact Bool.noConfusion c60 | (
                    try simp only [dD] at c60
                    refine AWP.seqk fun K21 hK21 => ?_
                    refine AWP.region ?_
                    simp only [go_sem] -- region 15
                    repeat' (first | (refine AGet.haveM (by assumption) ?_; (try simp only [go_sem])) | (refine AGet.have' (by assumption) ?_; (try simp only [go_sem])) | ((first | refine AGet.nth ?_ (fun b hb => ?_) | refine AGet.nth1 ?_ (fun b hb => ?_) | with_reducible refine And.intro ?_ ?_); (focus ((first | omega | exact List.length_pos_iff.2 (by assumption) | (simp only [List.length_append, List.length_cons, List.length_nil, List.length_map, List.length_take, List.length_drop] at *; omega) | (rw [wrap64_id (by omega) (by omega)]; omega) | (simp; done)))); (try simp only [hb, go_sem])))
                    refine hK21 _ ?_; clear hK21 K21
                    refine AWP.ret ?_
                    try simp only [go_sem]
                    clear hK19 K19
                    first
                    | exact ⟨[], .tup [.v _, .v _, .v _], rfl, ⟨rfl, rfl, rfl, trivial⟩, by rw [hd3j (headF_nb (by assumption))], rfl⟩
                    | exact ⟨[], .tup [.v _, .v _, .v _], rfl, ⟨rfl, rfl, rfl, trivial⟩, by rw [hd3n (headF_sh (by assumption) (by omega))], rfl⟩
                    | (have hR := headF_r (b := bs) (by assumption) (by omega)
                       first
                       | exact ⟨[], .tup [.v _, .v _, .v _], rfl, ⟨rfl, rfl, rfl, trivial⟩, by rw [hd3j (hR.trans (hp.bad hbj (by assumption) c30 (.inl h)))], rfl⟩
                       | exact ⟨[], .tup [.v _, .v _, .v _], rfl, ⟨rfl, rfl, rfl, trivial⟩, by rw [hd3j (hR.trans (hp.bad hbj (by assumption) c30 (.inr c45)))], rfl⟩
                       | exact ⟨[], .tup [.v _, .v _, .v _], rfl, ⟨rfl, rfl, rfl, trivial⟩, by rw [hd3n (hR.trans (hp.atEnd (by omega)))], rfl⟩
                       | exact ⟨[], .tup [.v _, .v _, .v _], rfl, ⟨rfl, rfl, rfl, trivial⟩, by rw [hd3j (hR.trans (head_no hp hb (.inl (by assumption)) hs))], rfl⟩
                       | exact ⟨[], .tup [.v _, .v _, .v _], rfl, ⟨rfl, rfl, rfl, trivial⟩, by rw [hd3j (hR.trans (head_no hp hb (.inr (by omega)) hs))], rfl⟩
                       | exact ⟨[], .tup [.v _, .v _, .v _], rfl, ⟨rfl, rfl, rfl, trivial⟩, by rw [hd3n (hR.trans (hp.less (head_one hb (by assumption)) (head_pos (by assumption)) (by omega)))], rfl⟩
                       | exact ⟨[], .tup [.v _, .v _, .v _], rfl, ⟨rfl, rfl, rfl, trivial⟩, by rw [hd3f (hR.trans (hp.full (head_one hb (by assumption)) (head_pos (by assumption)) (by omega)))], rfl⟩
                       | skip)
                    | skip)
                · first | exact Bool.noConfusion c60 | (
                    try simp only [dD] at c60
                    refine AWP.skip ?_
                    refine hK19 _ ?_; clear hK19 K19
                    refine AWP.seqk fun K22 hK22 => ?_
                    have hlt := get_lt hb
                    have w1 : IntKind.i64.wrap (((12 + j : Nat) : Int) + 1) = ((13 + j : Nat) : Int) := by rw [wrap64_id (by omega) (by omega)]; omega
                    have w2 : IntKind.i64.wrap ((bs.length : Int) - ((13 + j : Nat) : Int)) = ((bs.length - (13 + j) : Nat) : Int) := by rw [wrap64_id (by omega) (by omega)]; omega
                    have w3 : IntKind.i64.wrap (((decVal 0 ((bs.drop 12).take j) : Nat) : Int) + 7) = ((decVal 0 ((bs.drop 12).take j) + 7 : Nat) : Int) := by rw [wrap64_id (by omega) (by omega)]; omega
                    refine AWP.region ?_
                    simp only [go_sem] -- region 16
                    repeat' (first | (refine AGet.haveM (by assumption) ?_; (try simp only [go_sem])) | (refine AGet.have' (by assumption) ?_; (try simp only [go_sem])) | ((first | refine AGet.nth ?_ (fun b hb => ?_) | refine AGet.nth1 ?_ (fun b hb => ?_) | with_reducible refine And.intro ?_ ?_); (focus ((first | omega | exact List.length_pos_iff.2 (by assumption) | (simp only [List.length_append, List.length_cons, List.length_nil, List.length_map, List.length_take, List.length_drop] at *; omega) | (rw [wrap64_id (by omega) (by omega)]; omega) | (simp; done)))); (try simp only [hb, go_sem])))
                    rw [w1]
                    refine hK22 _ ?_; clear hK22 K22
                    refine AWP.seqk fun K23 hK23 => ?_
                    refine AWP.seqk fun K24 hK24 => ?_
                    refine AWP.region ?_
                    simp only [go_sem] -- region 17
                    repeat' (first | (refine AGet.haveM (by assumption) ?_; (try simp only [go_sem])) | (refine AGet.have' (by assumption) ?_; (try simp only [go_sem])) | ((first | refine AGet.nth ?_ (fun b hb => ?_) | refine AGet.nth1 ?_ (fun b hb => ?_) | with_reducible refine And.intro ?_ ?_); (focus ((first | omega | exact List.length_pos_iff.2 (by assumption) | (simp only [List.length_append, List.length_cons, List.length_nil, List.length_map, List.length_take, List.length_drop] at *; omega) | (rw [wrap64_id (by omega) (by omega)]; omega) | (simp; done)))); (try simp only [hb, go_sem])))
                    rw [w2, w3]
                    refine hK24 _ ?_; clear hK24 K24
                    refine AWP.cond rfl (fun c69 => ?_) (fun c69 => ?_)
                    · first | exact Bool.noConfusion c69 | (
                        try simp only [dD] at c69
                        refine AWP.seqk fun K25 hK25 => ?_
                        refine AWP.region ?_
                        simp only [go_sem] -- region 18
                        repeat' (first | (refine AGet.haveM (by assumption) ?_; (try simp only [go_sem])) | (refine AGet.have' (by assumption) ?_; (try simp only [go_sem])) | ((first | refine AGet.nth ?_ (fun b hb => ?_) | refine AGet.nth1 ?_ (fun b hb => ?_) | with_reducible refine And.intro ?_ ?_); (focus ((first | omega | exact List.length_pos_iff.2 (by assumption) | (simp only [List.length_append, List.length_cons, List.length_nil, List.length_map, List.length_take, List.length_drop] at *; omega) | (rw [wrap64_id (by omega) (by omega)]; omega) | (simp; done)))); (try simp only [hb, go_sem])))
                        refine hK25 _ ?_; clear hK25 K25
                        refine AWP.ret ?_
                        try simp only [go_sem]
                        clear hK23 K23
                        first
                        | exact ⟨[], .tup [.v _, .v _, .v _], rfl, ⟨rfl, rfl, rfl, trivial⟩, by rw [hd3j (headF_nb (by assumption))], rfl⟩
                        | exact ⟨[], .tup [.v _, .v _, .v _], rfl, ⟨rfl, rfl, rfl, trivial⟩, by rw [hd3n (headF_sh (by assumption) (by omega))], rfl⟩
                        | (have hR := headF_r (b := bs) (by assumption) (by omega)
                           first
                           | exact ⟨[], .tup [.v _, .v _, .v _], rfl, ⟨rfl, rfl, rfl, trivial⟩, by rw [hd3j (hR.trans (hp.bad hbj (by assumption) c30 (.inl h)))], rfl⟩
                           | exact ⟨[], .tup [.v _, .v _, .v _], rfl, ⟨rfl, rfl, rfl, trivial⟩, by rw [hd3j (hR.trans (hp.bad hbj (by assumption) c30 (.inr c45)))], rfl⟩
                           | exact ⟨[], .tup [.v _, .v _, .v _], rfl, ⟨rfl, rfl, rfl, trivial⟩, by rw [hd3n (hR.trans (hp.atEnd (by omega)))], rfl⟩
                           | exact ⟨[], .tup [.v _, .v _, .v _], rfl, ⟨rfl, rfl, rfl, trivial⟩, by rw [hd3j (hR.trans (head_no hp hb (.inl (by assumption)) hs))], rfl⟩
                           | exact ⟨[], .tup [.v _, .v _, .v _], rfl, ⟨rfl, rfl, rfl, trivial⟩, by rw [hd3j (hR.trans (head_no hp hb (.inr (by omega)) hs))], rfl⟩
                           | exact ⟨[], .tup [.v _, .v _, .v _], rfl, ⟨rfl, rfl, rfl, trivial⟩, by rw [hd3n (hR.trans (hp.less (head_one hb (by assumption)) (head_pos (by assumption)) (by omega)))], rfl⟩
                           | exact ⟨[], .tup [.v _, .v _, .v _], rfl, ⟨rfl, rfl, rfl, trivial⟩, by rw [hd3f (hR.trans (hp.full (head_one hb (by assumption)) (head_pos (by assumption)) (by omega)))], rfl⟩
                           | skip)
                        | skip)
                    · first | exact Bool.noConfusion c69 | (
                        try simp only [dD] at c69
                        refine AWP.skip ?_
                        refine hK23 _ ?_; clear hK23 K23
                        refine AWP.seqk fun K26 hK26 => ?_
                        refine AWP.region ?_
                        simp only [go_sem] -- region 19
                        repeat' (first | (refine AGet.haveM (by assumption) ?_; (try simp only [go_sem])) | (refine AGet.have' (by assumption) ?_; (try simp only [go_sem])) | ((first | refine AGet.nth ?_ (fun b hb => ?_) | refine AGet.nth1 ?_ (fun b hb => ?_) | with_reducible refine And.intro ?_ ?_); (focus ((first | omega | exact List.length_pos_iff.2 (by assumption) | (simp only [List.length_append, List.length_cons, List.length_nil, List.length_map, List.length_take, List.length_drop] at *; omega) | (rw [wrap64_id (by omega) (by omega)]; omega) | (simp; done)))); (try simp only [hb, go_sem])))
                        refine hK26 _ ?_; clear hK26 K26
                        refine AWP.ret ?_
                        try simp only [go_sem]
                        first
                        | exact ⟨[], .tup [.v _, .v _, .v _], rfl, ⟨rfl, rfl, rfl, trivial⟩, by rw [hd3j (headF_nb (by assumption))], rfl⟩
                        | exact ⟨[], .tup [.v _, .v _, .v _], rfl, ⟨rfl, rfl, rfl, trivial⟩, by rw [hd3n (headF_sh (by assumption) (by omega))], rfl⟩
                        | (have hR := headF_r (b := bs) (by assumption) (by omega)
                           first
                           | exact ⟨[], .tup [.v _, .v _, .v _], rfl, ⟨rfl, rfl, rfl, trivial⟩, by rw [hd3j (hR.trans (hp.bad hbj (by assumption) c30 (.inl h)))], rfl⟩
                           | exact ⟨[], .tup [.v _, .v _, .v _], rfl, ⟨rfl, rfl, rfl, trivial⟩, by rw [hd3j (hR.trans (hp.bad hbj (by assumption) c30 (.inr c45)))], rfl⟩
                           | exact ⟨[], .tup [.v _, .v _, .v _], rfl, ⟨rfl, rfl, rfl, trivial⟩, by rw [hd3n (hR.trans (hp.atEnd (by omega)))], rfl⟩
                           | exact ⟨[], .tup [.v _, .v _, .v _], rfl, ⟨rfl, rfl, rfl, trivial⟩, by rw [hd3j (hR.trans (head_no hp hb (.inl (by assumption)) hs))], rfl⟩
                           | exact ⟨[], .tup [.v _, .v _, .v _], rfl, ⟨rfl, rfl, rfl, trivial⟩, by rw [hd3j (hR.trans (head_no hp hb (.inr (by omega)) hs))], rfl⟩
                           | exact ⟨[], .tup [.v _, .v _, .v _], rfl, ⟨rfl, rfl, rfl, trivial⟩, by rw [hd3n (hR.trans (hp.less (head_one hb (by assumption)) (head_pos (by assumption)) (by omega)))], rfl⟩
                           | exact ⟨[], .tup [.v _, .v _, .v _], rfl, ⟨rfl, rfl, rfl, trivial⟩, by rw [hd3f (hR.trans (hp.full (head_one hb (by assumption)) (head_pos (by assumption)) (by omega)))], rfl⟩
                           | skip)
                        | skip))))))


end Go.Proofs.YtgiomlgkccjhfaaDoor
