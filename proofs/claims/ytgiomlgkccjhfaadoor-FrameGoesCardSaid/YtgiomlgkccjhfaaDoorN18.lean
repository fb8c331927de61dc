/- Frames: Next; contracts. -/
import Derived.Test.YtgiomlgkccjhfaaDoorN17
set_option linter.unusedVariables false
set_option linter.unusedSimpArgs false
namespace Go.Proofs.YtgiomlgkccjhfaaDoor
open Go Go.Abs Go.RowKit Go.Fld Go.Shelf

theorem kF_cmp' {b : Bs} {s n : Nat} (h : headF b = .frame s n) : ((b.take (s + n + 7)).drop (s + n) = trailF (sumF (b.take (s + n))) → rightB ((b.drop s).take n) = true → kF b = .frame s n) ∧
    ((¬ (b.take (s + n + 7)).drop (s + n) = trailF (sumF (b.take (s + n))) ∨ rightB ((b.drop s).take n) = false) → kF b = .junk) := by
  have e : (b.take (s + n + 7)).drop (s + n) = (b.drop (s + n)).take 7 := by rw [List.drop_take, show s + n + 7 - (s + n) = 7 by omega]
  rw [e]
  have hc := kF_cmp h
  refine ⟨fun h1 h2 => hc.1 (decide_eq_true h1) h2, fun h1 => hc.2 ?_⟩
  rcases h1 with h1 | h1
  · exact .inl (decide_eq_false h1)
  · exact .inr h1
theorem piece {b : Bs} {s n : Nat} : (b.take (s + n)).drop s = (b.drop s).take n := by rw [List.drop_take, show s + n - s = n by omega]
theorem wrapN {n : Nat} (h : n ≤ 100000000) : IntKind.i64.wrap (n : Int) = n := by rw [IntKind.wrap_i64]; omega
theorem wrapA {a b : Nat} (h : a + b ≤ 100000000) : IntKind.i64.wrap ((a : Int) + (b : Int)) = ((a + b : Nat) : Int) := by rw [IntKind.wrap_i64]; omega
theorem wrapK {a k : Nat} (h : a + k ≤ 100000000) : IntKind.i64.wrap ((a : Int) + (k : Int)) = ((a + k : Nat) : Int) := wrapA h
theorem u8_eq' {b c : UInt8} (h : (b.toNat : Int) = (c.toNat : Int)) : b = c := UInt8.toNat_inj.1 (by omega)
set_option maxHeartbeats 4000000 in
set_option maxRecDepth 8000 in
theorem mnext_c (bs : Bs) (hl : bs.length ≤ 1000000) : ACalls E 36 [bytesV bs] (fun r t => r = .tup [i64 (nextB bs).1, .sl (some 0) 1 ((nextB bs).2.1.map u8), i64 (nextB bs).2.2] ∧ t = [(nextB bs).2.1.length]) := by -- checkroll/frame.Next
  refine ACalls.of_awp (n := 49) (rs := [.tmp 2, .tmp 3, .tmp 4]) Tryd.func36 rfl Tryd.ntmps36 rfl ?_
  refine AWP.seqk fun K1 hK1 => ?_
  refine AWP.region ?_
  simp only [go_sem] -- region 0
  repeat' (first | (refine AGet.haveM (by assumption) ?_; (try simp only [go_sem])) | (refine AGet.have' (by assumption) ?_; (try simp only [go_sem])) | ((first | refine AGet.nth ?_ (fun b hb => ?_) | refine AGet.nth1 ?_ (fun b hb => ?_) | with_reducible refine And.intro ?_ ?_); (focus ((first | omega | exact List.length_pos_iff.2 (by assumption) | (simp only [List.length_append, List.length_cons, List.length_nil, List.length_map, List.length_take, List.length_drop] at *; omega) | (rw [wrap64_id (by omega) (by omega)]; omega) | (simp; done)))); (try simp only [hb, go_sem])))
  refine hK1 _ ?_; clear hK1 K1
  refine AWP.seqk fun K2 hK2 => ?_
  refine AWP.region ?_
  simp only [go_sem] -- region 1
  repeat' (first | (refine ACall.one (head_c _ (by omega)) (by kernel_rfl) rfl ?_; simp only [go_sem]) | (refine AGet.haveM (by assumption) ?_; (try simp only [go_sem])) | (refine AGet.have' (by assumption) ?_; (try simp only [go_sem])) | ((first | refine AGet.nth ?_ (fun b hb => ?_) | refine AGet.nth1 ?_ (fun b hb => ?_) | with_reducible refine And.intro ?_ ?_); (focus ((first | omega | exact List.length_pos_iff.2 (by assumption) | (simp only [List.length_append, List.length_cons, List.length_nil, List.length_map, List.length_take, List.length_drop] at *; omega) | (rw [wrap64_id (by omega) (by omega)]; omega) | (simp; done)))); (try simp only [hb, go_sem])))
  refine hK2 _ ?_; clear hK2 K2
  refine AWP.seqk fun K3 hK3 => ?_
  refine AWP.seqk fun K4 hK4 => ?_
  rcases hh : headF bs with _ | _ | ⟨s, n⟩ <;> simp only [hd3]
  all_goals (
    refine AWP.region ?_
    simp only [go_sem] -- region 2
    repeat' (first | (refine AGet.haveM (by assumption) ?_; (try simp only [go_sem])) | (refine AGet.have' (by assumption) ?_; (try simp only [go_sem])) | ((first | refine AGet.nth ?_ (fun b hb => ?_) | refine AGet.nth1 ?_ (fun b hb => ?_) | with_reducible refine And.intro ?_ ?_); (focus ((first | omega | exact List.length_pos_iff.2 (by assumption) | (simp only [List.length_append, List.length_cons, List.length_nil, List.length_map, List.length_take, List.length_drop] at *; omega) | (rw [wrap64_id (by omega) (by omega)]; omega) | (simp; done)))); (try simp only [hb, go_sem])))
    refine hK4 _ ?_; clear hK4 K4
    refine AWP.block ?_ -- 0
    refine AWP.seqk fun K5 hK5 => ?_
    refine AWP.region ?_
    simp only [go_sem] -- region 3
    repeat' (first | (refine AGet.haveM (by assumption) ?_; (try simp only [go_sem])) | (refine AGet.have' (by assumption) ?_; (try simp only [go_sem])) | ((first | refine AGet.nth ?_ (fun b hb => ?_) | refine AGet.nth1 ?_ (fun b hb => ?_) | with_reducible refine And.intro ?_ ?_); (focus ((first | omega | exact List.length_pos_iff.2 (by assumption) | (simp only [List.length_append, List.length_cons, List.length_nil, List.length_map, List.length_take, List.length_drop] at *; omega) | (rw [wrap64_id (by omega) (by omega)]; omega) | (simp; done)))); (try simp only [hb, go_sem])))
    refine hK5 _ ?_; clear hK5 K5
    refine AWP.cond rfl (fun c17 => ?_) (fun c17 => ?_)
    · first | exact Bool.noConfusion c17 | (
        try simp only [dD] at c17
        refine AWP.seqk fun K6 hK6 => ?_
        refine AWP.region ?_
        simp only [go_sem] -- region 4
        repeat' (first | (refine AGet.haveM (by assumption) ?_; (try simp only [go_sem])) | (refine AGet.have' (by assumption) ?_; (try simp only [go_sem])) | ((first | refine AGet.nth ?_ (fun b hb => ?_) | refine AGet.nth1 ?_ (fun b hb => ?_) | with_reducible refine And.intro ?_ ?_); (focus ((first | omega | exact List.length_pos_iff.2 (by assumption) | (simp only [List.length_append, List.length_cons, List.length_nil, List.length_map, List.length_take, List.length_drop] at *; omega) | (rw [wrap64_id (by omega) (by omega)]; omega) | (simp; done)))); (try simp only [hb, go_sem])))
        refine hK6 _ ?_; clear hK6 K6
        refine AWP.ret ?_
        try simp only [go_sem]
        clear hK3 K3
        first
        | exact ⟨[(false, 1)], .tup [.v _, .sl (some 0) 1 [], .v _], rfl, ⟨rfl, rfl, rfl, trivial⟩, by rw [nextB_need (kF_hn hh)]; rfl, by rw [nextB_need (kF_hn hh)]; rfl⟩
        | exact ⟨[(false, 1)], .tup [.v _, .sl (some 0) 1 [], .v _], rfl, ⟨rfl, rfl, rfl, trivial⟩, by rw [nextB_junk hk]; rfl, by rw [nextB_junk hk]; rfl⟩
        | (have hk := (kF_cmp' hh).1 (by assumption) (by assumption)
           exact ⟨[(true, 1)], .tup [.v _, .sl (some 0) 1 _, .v _], rfl, ⟨rfl, ⟨rfl, rfl, rfl⟩, rfl, trivial⟩, by rw [nextB_frame hk], by rw [nextB_frame hk]; rfl⟩)
        | skip)
    · first | exact Bool.noConfusion c17 | (
        try simp only [dD] at c17
        refine AWP.seqk fun K7 hK7 => ?_
        refine AWP.region ?_
        simp only [go_sem] -- region 5
        repeat' (first | (refine AGet.haveM (by assumption) ?_; (try simp only [go_sem])) | (refine AGet.have' (by assumption) ?_; (try simp only [go_sem])) | ((first | refine AGet.nth ?_ (fun b hb => ?_) | refine AGet.nth1 ?_ (fun b hb => ?_) | with_reducible refine And.intro ?_ ?_); (focus ((first | omega | exact List.length_pos_iff.2 (by assumption) | (simp only [List.length_append, List.length_cons, List.length_nil, List.length_map, List.length_take, List.length_drop] at *; omega) | (rw [wrap64_id (by omega) (by omega)]; omega) | (simp; done)))); (try simp only [hb, go_sem])))
        refine hK7 _ ?_; clear hK7 K7
        refine AWP.cond rfl (fun c19 => ?_) (fun c19 => ?_)
        · first | exact Bool.noConfusion c19 | (
            try simp only [dD] at c19
            refine AWP.seqk fun K8 hK8 => ?_
            obtain ⟨hsl, hbl, hn8, _⟩ := kF_put hh
            have w1 := wrapA (a := s) (b := n) (by omega)
            have w2 : IntKind.i64.wrap (((s + n : Nat) : Int) + 7) = ((s + n + 7 : Nat) : Int) := by rw [wrap64_id (by omega) (by omega)]; omega
            refine AWP.region ?_
            simp only [go_sem, w1] -- region 6
            repeat' (first | (refine AGet.haveM (by assumption) ?_; (try simp only [go_sem, w1])) | (refine AGet.have' (by assumption) ?_; (try simp only [go_sem, w1])) | ((first | refine AGet.nth ?_ (fun b hb => ?_) | refine AGet.nth1 ?_ (fun b hb => ?_) | with_reducible refine And.intro ?_ ?_); (focus ((first | omega | exact List.length_pos_iff.2 (by assumption) | (simp only [List.length_append, List.length_cons, List.length_nil, List.length_map, List.length_take, List.length_drop] at *; omega) | (rw [wrap64_id (by omega) (by omega)]; omega) | (simp; done)))); (try simp only [hb, go_sem, w1])))
            refine hK8 _ ?_; clear hK8 K8
            refine AWP.seqk fun K9 hK9 => ?_
            refine AWP.region ?_
            simp only [go_sem, piece] -- region 7
            repeat' (first | (refine AGet.haveM (by assumption) ?_; (try simp only [go_sem, piece])) | (refine AGet.have' (by assumption) ?_; (try simp only [go_sem, piece])) | ((first | refine AGet.nth ?_ (fun b hb => ?_) | refine AGet.nth1 ?_ (fun b hb => ?_) | with_reducible refine And.intro ?_ ?_); (focus ((first | omega | exact List.length_pos_iff.2 (by assumption) | (simp only [List.length_append, List.length_cons, List.length_nil, List.length_map, List.length_take, List.length_drop] at *; omega) | (rw [wrap64_id (by omega) (by omega)]; omega) | (simp; done)))); (try simp only [hb, go_sem, piece])))
            refine hK9 _ ?_; clear hK9 K9
            refine AWP.seqk fun K10 hK10 => ?_
            refine AWP.regionAs [0, 1, 2, 3, 4, 5, 6, 7, 8, 9, 10, 11, 12, 13, 14] [[], [], [], [2], [0, 1, 2, 3], [], [], [5, 6], [5, 6, 7], [5, 6, 7, 8], [0, 1, 2, 3, 4, 5, 6, 7, 8, 9], [0, 1, 2, 3, 4, 5, 6, 7, 8, 9, 10], [0, 1, 2, 3, 4, 5, 6, 7, 8, 9, 10, 11], [0, 1, 2, 3, 4, 5, 6, 7, 8, 9, 10, 11, 12], [0, 1, 2, 3, 4, 5, 6, 7, 8, 9, 10, 11, 12, 13]] [] (by kernel_rfl) (by kernel_rfl) (by decide) rfl ?_
            simp only [go_sem, w2] -- region 8
            repeat' (first | (refine ACall.one (msum_c _ (by rw [List.length_take]; omega)) (by kernel_rfl) rfl ?_; simp only [go_sem, w2]) | (refine ACall.of (trail_c _ (sumF_lt _)) (by kernel_rfl) rfl ?_; rintro r t ⟨rfl, rfl⟩ <;> simp only [go_sem, w2]) | (refine ACall.one (bequal_c _ _) (by kernel_rfl) rfl ?_; simp only [go_sem, w2]) | (refine ACall.one (mright_c _) (by kernel_rfl) rfl ?_; simp only [go_sem, w2]) | (refine AGuard.splitN (fun h => ?_) (fun h => ?_) <;> simp only [h, go_sem, w2] <;> try simp only [dD] at h) | (refine AGuard.split (fun h => ?_) (fun h => ?_) <;> simp only [h, go_sem, w2] <;> try simp only [dD] at h) | (refine AGet.haveM (by assumption) ?_; (try simp only [go_sem, w2])) | (refine AGet.have' (by assumption) ?_; (try simp only [go_sem, w2])) | ((first | refine AGet.nth ?_ (fun b hb => ?_) | refine AGet.nth1 ?_ (fun b hb => ?_) | with_reducible refine And.intro ?_ ?_); (focus ((first | omega | exact List.length_pos_iff.2 (by assumption) | (simp only [List.length_append, List.length_cons, List.length_nil, List.length_map, List.length_take, List.length_drop] at *; omega) | (rw [wrap64_id (by omega) (by omega)]; omega) | (simp; done)))); (try simp only [hb, go_sem, w2])))
            all_goals (
              refine hK10 _ ?_; clear hK10 K10
              refine AWP.cond rfl (fun c42 => ?_) (fun c42 => ?_)
              · first | exact Bool.noConfusion c42 | (
                  try simp only [dD] at c42
                  refine AWP.seqk fun K11 hK11 => ?_
                  refine AWP.region ?_
                  simp only [go_sem, w2] -- region 9
                  repeat' (first | (refine ACall.of (bclone_c _ (by omega)) (by kernel_rfl) rfl ?_; rintro r t ⟨rfl, rfl⟩ <;> simp only [go_sem, w2]) | (refine AGet.haveM (by assumption) ?_; (try simp only [go_sem, w2])) | (refine AGet.have' (by assumption) ?_; (try simp only [go_sem, w2])) | ((first | refine AGet.nth ?_ (fun b hb => ?_) | refine AGet.nth1 ?_ (fun b hb => ?_) | with_reducible refine And.intro ?_ ?_); (focus ((first | omega | exact List.length_pos_iff.2 (by assumption) | (simp only [List.length_append, List.length_cons, List.length_nil, List.length_map, List.length_take, List.length_drop] at *; omega) | (rw [wrap64_id (by omega) (by omega)]; omega) | (simp; done)))); (try simp only [hb, go_sem, w2])))
                  refine hK11 _ ?_; clear hK11 K11
                  refine AWP.ret ?_
                  try simp only [go_sem]
                  clear hK3 K3
                  first
                  | exact ⟨[(false, 1)], .tup [.v _, .sl (some 0) 1 [], .v _], rfl, ⟨rfl, rfl, rfl, trivial⟩, by rw [nextB_need (kF_hn hh)]; rfl, by rw [nextB_need (kF_hn hh)]; rfl⟩
                  | exact ⟨[(false, 1)], .tup [.v _, .sl (some 0) 1 [], .v _], rfl, ⟨rfl, rfl, rfl, trivial⟩, by rw [nextB_junk hk]; rfl, by rw [nextB_junk hk]; rfl⟩
                  | (have hk := (kF_cmp' hh).1 (by assumption) (by assumption)
                     exact ⟨[(true, 1)], .tup [.v _, .sl (some 0) 1 _, .v _], rfl, ⟨rfl, ⟨rfl, rfl, rfl⟩, rfl, trivial⟩, by rw [nextB_frame hk], by rw [nextB_frame hk]; rfl⟩)
                  | skip)
              · first | exact Bool.noConfusion c42 | (
                  try simp only [dD] at c42
                  refine AWP.skip ?_
                  refine hK3 _ ?_; clear hK3 K3
                  refine AWP.seqk fun K12 hK12 => ?_
                  have hk : kF bs = .junk := by
                    first
                    | exact kF_hj hh
                    | exact (kF_cmp' hh).2 (.inl (by assumption))
                    | exact (kF_cmp' hh).2 (.inr (by assumption))
                  have hne : bs ≠ [] := kF_ne (by rw [hk]; simp)
                  refine AWP.region ?_
                  simp only [go_sem] -- region 10
                  repeat' (first | (refine ACall.one (junk_c _ (by omega) (by assumption)) (by kernel_rfl) rfl ?_; simp only [go_sem]) | (refine AGet.haveM (by assumption) ?_; (try simp only [go_sem])) | (refine AGet.have' (by assumption) ?_; (try simp only [go_sem])) | ((first | refine AGet.nth ?_ (fun b hb => ?_) | refine AGet.nth1 ?_ (fun b hb => ?_) | with_reducible refine And.intro ?_ ?_); (focus ((first | omega | exact List.length_pos_iff.2 (by assumption) | (simp only [List.length_append, List.length_cons, List.length_nil, List.length_map, List.length_take, List.length_drop] at *; omega) | (rw [wrap64_id (by omega) (by omega)]; omega) | (simp; done)))); (try simp only [hb, go_sem])))
                  refine hK12 _ ?_; clear hK12 K12
                  refine AWP.ret ?_
                  try simp only [go_sem]
                  first
                  | exact ⟨[(false, 1)], .tup [.v _, .sl (some 0) 1 [], .v _], rfl, ⟨rfl, rfl, rfl, trivial⟩, by rw [nextB_need (kF_hn hh)]; rfl, by rw [nextB_need (kF_hn hh)]; rfl⟩
                  | exact ⟨[(false, 1)], .tup [.v _, .sl (some 0) 1 [], .v _], rfl, ⟨rfl, rfl, rfl, trivial⟩, by rw [nextB_junk hk]; rfl, by rw [nextB_junk hk]; rfl⟩
                  | (have hk := (kF_cmp' hh).1 (by assumption) (by assumption)
                     exact ⟨[(true, 1)], .tup [.v _, .sl (some 0) 1 _, .v _], rfl, ⟨rfl, ⟨rfl, rfl, rfl⟩, rfl, trivial⟩, by rw [nextB_frame hk], by rw [nextB_frame hk]; rfl⟩)
                  | skip)))
        · first | exact Bool.noConfusion c19 | (
            try simp only [dD] at c19
            refine AWP.skip ?_
            refine hK3 _ ?_; clear hK3 K3
            refine AWP.seqk fun K13 hK13 => ?_
            have hk : kF bs = .junk := by
              first
              | exact kF_hj hh
              | exact (kF_cmp' hh).2 (.inl (by assumption))
              | exact (kF_cmp' hh).2 (.inr (by assumption))
            have hne : bs ≠ [] := kF_ne (by rw [hk]; simp)
            refine AWP.region ?_
            simp only [go_sem] -- region 10
            repeat' (first | (refine ACall.one (junk_c _ (by omega) (by assumption)) (by kernel_rfl) rfl ?_; simp only [go_sem]) | (refine AGet.haveM (by assumption) ?_; (try simp only [go_sem])) | (refine AGet.have' (by assumption) ?_; (try simp only [go_sem])) | ((first | refine AGet.nth ?_ (fun b hb => ?_) | refine AGet.nth1 ?_ (fun b hb => ?_) | with_reducible refine And.intro ?_ ?_); (focus ((first | omega | exact List.length_pos_iff.2 (by assumption) | (simp only [List.length_append, List.length_cons, List.length_nil, List.length_map, List.length_take, List.length_drop] at *; omega) | (rw [wrap64_id (by omega) (by omega)]; omega) | (simp; done)))); (try simp only [hb, go_sem])))
            refine hK13 _ ?_; clear hK13 K13
            refine AWP.ret ?_
            try simp only [go_sem]
            first
            | exact ⟨[(false, 1)], .tup [.v _, .sl (some 0) 1 [], .v _], rfl, ⟨rfl, rfl, rfl, trivial⟩, by rw [nextB_need (kF_hn hh)]; rfl, by rw [nextB_need (kF_hn hh)]; rfl⟩
            | exact ⟨[(false, 1)], .tup [.v _, .sl (some 0) 1 [], .v _], rfl, ⟨rfl, rfl, rfl, trivial⟩, by rw [nextB_junk hk]; rfl, by rw [nextB_junk hk]; rfl⟩
            | (have hk := (kF_cmp' hh).1 (by assumption) (by assumption)
               exact ⟨[(true, 1)], .tup [.v _, .sl (some 0) 1 _, .v _], rfl, ⟨rfl, ⟨rfl, rfl, rfl⟩, rfl, trivial⟩, by rw [nextB_frame hk], by rw [nextB_frame hk]; rfl⟩)
            | skip)))


theorem r3begins_c (bs : Bs) (a : Nat) (hl : bs.length ≤ 1000000) (ha : a ≤ 1000000) : ACalls E 54 [bytesV bs, i64 a] (fun r t => r = bl (begins (bs.drop a)) ∧ t = []) := by -- checkroll/checkrollref03.begins
  have hbl := beg_len
  have hdl : (bs.drop a).length = bs.length - a := List.length_drop
  refine ACalls.of_awp (n := 31) (rs := [.tmp 4]) Tryd.func54 rfl Tryd.ntmps54 rfl ?_
  refine AWP.seqk fun K1 hK1 => ?_
  refine AWP.region ?_
  simp only [go_sem, begS, beg_len] -- region 0
  repeat' (first | (refine AGet.haveM (by assumption) ?_; (try simp only [go_sem, begS, beg_len])) | (refine AGet.have' (by assumption) ?_; (try simp only [go_sem, begS, beg_len])) | ((first | refine AGet.nth ?_ (fun b hb => ?_) | refine AGet.nth1 ?_ (fun b hb => ?_) | with_reducible refine And.intro ?_ ?_); (focus ((first | omega | exact List.length_pos_iff.2 (by assumption) | (simp only [List.length_append, List.length_cons, List.length_nil, List.length_map, List.length_take, List.length_drop] at *; omega) | (rw [wrap64_id (by omega) (by omega)]; omega) | (simp; done)))); (try simp only [hb, go_sem, begS, beg_len])))
  refine hK1 _ ?_; clear hK1 K1
  refine AWP.seqk fun K2 hK2 => ?_
  refine AWP.region ?_
  simp only [go_sem, begS, beg_len] -- region 1
  repeat' (first | (refine AGet.haveM (by assumption) ?_; (try simp only [go_sem, begS, beg_len])) | (refine AGet.have' (by assumption) ?_; (try simp only [go_sem, begS, beg_len])) | ((first | refine AGet.nth ?_ (fun b hb => ?_) | refine AGet.nth1 ?_ (fun b hb => ?_) | with_reducible refine And.intro ?_ ?_); (focus ((first | omega | exact List.length_pos_iff.2 (by assumption) | (simp only [List.length_append, List.length_cons, List.length_nil, List.length_map, List.length_take, List.length_drop] at *; omega) | (rw [wrap64_id (by omega) (by omega)]; omega) | (simp; done)))); (try simp only [hb, go_sem, begS, beg_len])))
  refine hK2 _ ?_; clear hK2 K2
  refine AWP.seqk fun K3 hK3 => ?_
  refine AWP.seqk fun K4 hK4 => ?_
  refine AWP.region ?_
  simp only [go_sem, begS, beg_len] -- region 2
  repeat' (first | (refine AGet.haveM (by assumption) ?_; (try simp only [go_sem, begS, beg_len])) | (refine AGet.have' (by assumption) ?_; (try simp only [go_sem, begS, beg_len])) | ((first | refine AGet.nth ?_ (fun b hb => ?_) | refine AGet.nth1 ?_ (fun b hb => ?_) | with_reducible refine And.intro ?_ ?_); (focus ((first | omega | exact List.length_pos_iff.2 (by assumption) | (simp only [List.length_append, List.length_cons, List.length_nil, List.length_map, List.length_take, List.length_drop] at *; omega) | (rw [wrap64_id (by omega) (by omega)]; omega) | (simp; done)))); (try simp only [hb, go_sem, begS, beg_len])))
  refine hK4 _ ?_; clear hK4 K4
  refine AWP.block ?_ -- 0
  refine AWP.loopH (ι := Nat) [4, 7, 8, 9, 10, 11, 12, 13, 14, 15, 16, 17, 18, 19, 20, 21, 22, 23, 24, 25, 26, 27, 28, 29, 30] (fun (i : Nat) => [(6, i64 i)]) (fun (i : Nat) => BP bs a i) (fun (i : Nat) => 12 - i) (0) ?_ ?_ ?_
  · (try simp only [go_sem]); try (simp; done)
  · exact ⟨by omega, rfl, by omega⟩
  rintro i hI
  simp only [go_sem]
  refine AWP.seqk fun K5 hK5 => ?_
  refine AWP.seqk fun K6 hK6 => ?_
  have h12 := hI.1
  have w := wrapA (a := a) (b := i) (by omega)
  refine AWP.region ?_
  simp only [go_sem, begS, beg_len, w] -- region 3
  repeat' (first | (refine AGuard.splitN (fun h => ?_) (fun h => ?_) <;> simp only [h, go_sem, begS, beg_len, w] <;> try simp only [dD] at h) | (refine AGuard.split (fun h => ?_) (fun h => ?_) <;> simp only [h, go_sem, begS, beg_len, w] <;> try simp only [dD] at h) | (refine AGet.haveM (by assumption) ?_; (try simp only [go_sem, begS, beg_len, w])) | (refine AGet.have' (by assumption) ?_; (try simp only [go_sem, begS, beg_len, w])) | ((first | refine AGet.nth ?_ (fun b hb => ?_) | refine AGet.nth1 ?_ (fun b hb => ?_) | with_reducible refine And.intro ?_ ?_); (focus ((first | omega | exact List.length_pos_iff.2 (by assumption) | (simp only [List.length_append, List.length_cons, List.length_nil, List.length_map, List.length_take, List.length_drop] at *; omega) | (rw [wrap64_id (by omega) (by omega)]; omega) | (simp; done)))); (try simp only [hb, go_sem, begS, beg_len, w])))
  all_goals (
    refine hK6 _ ?_; clear hK6 K6
    refine AWP.cond rfl (fun c18 => ?_) (fun c18 => ?_)
    · first | exact Bool.noConfusion c18 | (
        try simp only [dD] at c18
        refine AWP.skip ?_
        refine hK5 _ ?_; clear hK5 K5
        refine AWP.seqk fun K7 hK7 => ?_
        refine AWP.block ?_ -- 1
        refine AWP.seqk fun K8 hK8 => ?_
        refine AWP.regionAs [0, 1, 2, 3, 4, 5, 6, 7, 8, 9] [[], [], [], [1, 2], [0, 1, 2, 3], [0, 1, 2, 3, 4], [], [], [6, 7], [0, 1, 2, 3, 4, 5, 6, 7, 8]] [] (by kernel_rfl) (by kernel_rfl) (by decide) rfl ?_
        simp only [go_sem, begS, beg_len, w] -- region 5
        repeat' (first | (refine AGet.haveM (by assumption) ?_; (try simp only [go_sem, begS, beg_len, w])) | (refine AGet.have' (by assumption) ?_; (try simp only [go_sem, begS, beg_len, w])) | ((first | refine AGet.nth ?_ (fun b hb => ?_) | refine AGet.nth1 ?_ (fun b hb => ?_) | with_reducible refine And.intro ?_ ?_); (focus ((first | omega | exact List.length_pos_iff.2 (by assumption) | (simp only [List.length_append, List.length_cons, List.length_nil, List.length_map, List.length_take, List.length_drop] at *; omega) | (rw [wrap64_id (by omega) (by omega)]; omega) | (simp; done)))); (try simp only [hb, go_sem, begS, beg_len, w])))
        refine hK8 _ ?_; clear hK8 K8
        refine AWP.cond rfl (fun c30 => ?_) (fun c30 => ?_)
        · first | exact Bool.noConfusion c30 | (
            try simp only [dD] at c30
            refine AWP.seqk fun K9 hK9 => ?_
            refine AWP.region ?_
            simp only [go_sem, begS, beg_len] -- region 6
            repeat' (first | (refine AGet.haveM (by assumption) ?_; (try simp only [go_sem, begS, beg_len])) | (refine AGet.have' (by assumption) ?_; (try simp only [go_sem, begS, beg_len])) | ((first | refine AGet.nth ?_ (fun b hb => ?_) | refine AGet.nth1 ?_ (fun b hb => ?_) | with_reducible refine And.intro ?_ ?_); (focus ((first | omega | exact List.length_pos_iff.2 (by assumption) | (simp only [List.length_append, List.length_cons, List.length_nil, List.length_map, List.length_take, List.length_drop] at *; omega) | (rw [wrap64_id (by omega) (by omega)]; omega) | (simp; done)))); (try simp only [hb, go_sem, begS, beg_len])))
            refine hK9 _ ?_; clear hK9 K9
            refine AWP.ret ?_
            try simp only [go_sem]
            clear hK7 K7 hK3 K3
            first
            | exact ⟨[], .v _, rfl, rfl, by rw [hI.no (by assumption) (by assumption) (fun e => absurd (congrArg (fun c : UInt8 => (c.toNat : Int)) e) (by assumption))], rfl⟩
            | exact ⟨[], .v _, rfl, rfl, by rw [hI.yes (by have := hI.2.2; omega)], rfl⟩
            | skip)
        · first | exact Bool.noConfusion c30 | (
            try simp only [dD] at c30
            refine AWP.skip ?_
            refine hK7 _ ?_; clear hK7 K7
            refine AWP.region ?_
            simp only [go_sem, begS, beg_len] -- region 4
            repeat' (first | (refine AGet.haveM (by assumption) ?_; (try simp only [go_sem, begS, beg_len])) | (refine AGet.have' (by assumption) ?_; (try simp only [go_sem, begS, beg_len])) | ((first | refine AGet.nth ?_ (fun b hb => ?_) | refine AGet.nth1 ?_ (fun b hb => ?_) | with_reducible refine And.intro ?_ ?_); (focus ((first | omega | exact List.length_pos_iff.2 (by assumption) | (simp only [List.length_append, List.length_cons, List.length_nil, List.length_map, List.length_take, List.length_drop] at *; omega) | (rw [wrap64_id (by omega) (by omega)]; omega) | (simp; done)))); (try simp only [hb, go_sem, begS, beg_len])))
            clear hK3 K3
            refine ⟨i + 1, ?_, ?_, ?_⟩
            · (try simp only [go_sem]); rw [wrap64_id (by have := hI.1; omega) (by have := hI.1; omega)]; simp
            · have e := u8_eq' c30; subst e; exact hI.next (by assumption) (by assumption)
            · have := hI.1; have := get_lt hb; omega))
    · first | exact Bool.noConfusion c18 | (
        try simp only [dD] at c18
        refine AWP.exit ?_
        simp only [go_sem]
        clear hK5 K5
        refine hK3 _ ?_; clear hK3 K3
        refine AWP.seqk fun K10 hK10 => ?_
        refine AWP.region ?_
        simp only [go_sem, begS, beg_len] -- region 7
        repeat' (first | (refine AGet.haveM (by assumption) ?_; (try simp only [go_sem, begS, beg_len])) | (refine AGet.have' (by assumption) ?_; (try simp only [go_sem, begS, beg_len])) | ((first | refine AGet.nth ?_ (fun b hb => ?_) | refine AGet.nth1 ?_ (fun b hb => ?_) | with_reducible refine And.intro ?_ ?_); (focus ((first | omega | exact List.length_pos_iff.2 (by assumption) | (simp only [List.length_append, List.length_cons, List.length_nil, List.length_map, List.length_take, List.length_drop] at *; omega) | (rw [wrap64_id (by omega) (by omega)]; omega) | (simp; done)))); (try simp only [hb, go_sem, begS, beg_len])))
        refine hK10 _ ?_; clear hK10 K10
        refine AWP.ret ?_
        try simp only [go_sem]
        first
        | exact ⟨[], .v _, rfl, rfl, by rw [hI.no (by assumption) (by assumption) (fun e => absurd (congrArg (fun c : UInt8 => (c.toNat : Int)) e) (by assumption))], rfl⟩
        | exact ⟨[], .v _, rfl, rfl, by rw [hI.yes (by have := hI.2.2; omega)], rfl⟩
        | skip))


end Go.Proofs.YtgiomlgkccjhfaaDoor
