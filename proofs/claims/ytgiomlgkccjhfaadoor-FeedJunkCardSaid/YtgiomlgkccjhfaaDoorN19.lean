/- Frames: the reference's Next; contract. -/
import Derived.Test.YtgiomlgkccjhfaaDoorN18
set_option linter.unusedVariables false
set_option linter.unusedSimpArgs false
namespace Go.Proofs.YtgiomlgkccjhfaaDoor
open Go Go.Abs Go.RowKit Go.Fld Go.Shelf

theorem dv_le4 {r : Bs} {j : Nat} (h : (r.take j).all isDig = true) (hj : j ≤ 4) : decVal 0 (r.take j) ≤ 9999 := by
  have h1 := decVal_lt _ h
  have h2 : 10 ^ (r.take j).length ≤ 10 ^ 4 := Nat.pow_le_pow_right (by decide) (by rw [List.length_take]; omega)
  omega
theorem hd48 {bs : Bs} {c : UInt8} (hb : bs[12]? = some c) : (bs.drop 12).head? = some c := by
  rw [List.head?_eq_getElem?, List.getElem?_drop]; exact hb
theorem is48 {c : UInt8} (h : (c.toNat : Int) = 48) : c = 48 := UInt8.toNat_inj.1 (by show c.toNat = 48; omega)
theorem no48 {c : UInt8} (h : ¬ (c.toNat : Int) = 48) : c ≠ 48 := fun e => h (by rw [e]; rfl)
theorem is1 {c : UInt8} (h : (c.toNat : Int) = 1) : c = 1 := UInt8.toNat_inj.1 (by show c.toNat = 1; omega)
theorem no1 {c : UInt8} (h : ¬ (c.toNat : Int) = 1) : c ≠ 1 := fun e => h (by rw [e]; rfl)
/-- The reference's digits end here. -/
structure RE (bs : Bs) (j : Nat) : Prop where
  le : j ≤ 4
  len : 12 + j ≤ bs.length
  dig : ((bs.drop 12).take j).all isDig = true
  stop : 12 + j = bs.length ∨ j = 4 ∨ ∃ c, bs[12 + j]? = some c ∧ isDig c = false
theorem RE.bad {bs : Bs} {j : Nat} (h : RE bs j) (h0 : (12 : Int) < ((12 + j : Nat) : Int)) {c : UInt8} (hb : bs[12]? = some c) (g : (c.toNat : Int) = 48 ∨ (8000 : Int) < ((decVal 0 ((bs.drop 12).take j) : Nat) : Int)) : headR (bs.drop 12) = .junk :=
  headR_bad (by omega) h.dig (by
    rcases g with g | g
    · left; rw [hd48 hb, is48 g]
    · right; omega)
theorem RE.hp0 {bs : Bs} {j : Nat} (h : RE bs j) (h0 : ¬ (12 : Int) < ((12 + j : Nat) : Int)) : HP (bs.drop 12) j := HP.of (by rw [List.length_drop]; have := h.len; omega) h.dig (.inl (by omega))
theorem RE.hp1 {bs : Bs} {j : Nat} (h : RE bs j) {c : UInt8} (hb : bs[12]? = some c) (g1 : ¬ (c.toNat : Int) = 48) (g2 : ¬ (8000 : Int) < ((decVal 0 ((bs.drop 12).take j) : Nat) : Int)) : HP (bs.drop 12) j :=
  HP.of (by rw [List.length_drop]; have := h.len; omega) h.dig (.inr ⟨by rw [hd48 hb]; intro e; exact no48 g1 (Option.some.inj e), by omega⟩)
theorem RE.no {bs : Bs} {j : Nat} (h : RE bs j) (hp : HP (bs.drop 12) j) (he : ¬ ((12 + j : Nat) : Int) = (bs.length : Int)) {c : UInt8} (hb : bs[12 + j]? = some c) (g : ¬ (c.toNat : Int) = 1) : headR (bs.drop 12) = .junk := by
  refine hp.no' (get12.trans hb) ?_ (no1 g)
  rcases h.stop with hs | hs | ⟨d, hd, hn⟩
  · omega
  · exact .inl hs
  · rw [hb, Option.some.injEq] at hd; subst hd; exact .inr hn
theorem RE.no0 {bs : Bs} {j : Nat} (h : RE bs j) (hp : HP (bs.drop 12) j) (he : ¬ ((12 + j : Nat) : Int) = (bs.length : Int)) (g : ((12 + j : Nat) : Int) = 12) : headR (bs.drop 12) = .junk := by
  rcases h.stop with hs | hs | ⟨d, hd, hn⟩
  · omega
  · omega
  · exact hp.no (get12.trans hd) hn (.inr (by omega))
theorem wOne : (1 : Int) = ((1 : Nat) : Int) := rfl
theorem wSeven : (7 : Int) = ((7 : Nat) : Int) := rfl
theorem piece2 {b : Bs} {s n : Nat} : (b.take (s + n)).drop s = (b.drop s).take n := piece
theorem cs_no {bs x y : Bs} {s n : Nat} (hc : (kF bs = .frame s n ∧ putB x = (y, 0)) ∨ (kF bs = .junk ∧ ((putB x).2 = 0 → ¬ (putB x).1 = y))) (h : ¬ (putB x).2 = 0 ∨ ¬ (putB x).1 = y) : kF bs = .junk := by
  rcases hc with ⟨_, hc⟩ | ⟨hc, _⟩
  · rw [hc] at h; simp at h
  · exact hc
theorem cs_yes {bs x y : Bs} {s n : Nat} (hc : (kF bs = .frame s n ∧ putB x = (y, 0)) ∨ (kF bs = .junk ∧ ((putB x).2 = 0 → ¬ (putB x).1 = y))) (h : (putB x).2 = 0) (h2 : (putB x).1 = y) : kF bs = .frame s n := by
  rcases hc with ⟨hc, _⟩ | ⟨_, hc⟩
  · exact hc
  · exact absurd h2 (hc h)
set_option maxHeartbeats 8000000 in
set_option maxRecDepth 8000 in
theorem r3next_c (bs : Bs) (hl : bs.length ≤ 1000000) : ACalls E 37 [bytesV bs] (fun r t => r = .tup [i64 (nextB bs).1, bytesV (nextB bs).2.1, i64 (nextB bs).2.2] ∧ t = []) := by -- checkroll/checkrollref03.Next
  have hdl : (bs.drop 12).length = bs.length - 12 := List.length_drop
  refine ACalls.of_awp (n := 135) (rs := [.tmp 2, .tmp 3, .tmp 4]) Tryd.func37 rfl Tryd.ntmps37 rfl ?_
  refine AWP.seqk fun K1 hK1 => ?_
  refine AWP.region ?_
  simp only [go_sem, List.drop_zero] -- region 0
  repeat' (first | (refine AGet.haveM (by assumption) ?_; (try simp only [go_sem, List.drop_zero])) | (refine AGet.have' (by assumption) ?_; (try simp only [go_sem, List.drop_zero])) | ((first | refine AGet.nth ?_ (fun b hb => ?_) | refine AGet.nth1 ?_ (fun b hb => ?_) | with_reducible refine And.intro ?_ ?_); (focus ((first | omega | exact List.length_pos_iff.2 (by assumption) | (simp only [List.length_append, List.length_cons, List.length_nil, List.length_map, List.length_take, List.length_drop] at *; omega) | (rw [wrap64_id (by omega) (by omega)]; omega) | (simp; done)))); (try simp only [hb, go_sem, List.drop_zero])))
  refine hK1 _ ?_; clear hK1 K1
  refine AWP.seqk fun K2 hK2 => ?_
  refine AWP.seqk fun K3 hK3 => ?_
  refine AWP.region ?_
  simp only [go_sem, List.drop_zero] -- region 1
  repeat' (first | (refine AGet.haveM (by assumption) ?_; (try simp only [go_sem, List.drop_zero])) | (refine AGet.have' (by assumption) ?_; (try simp only [go_sem, List.drop_zero])) | ((first | refine AGet.nth ?_ (fun b hb => ?_) | refine AGet.nth1 ?_ (fun b hb => ?_) | with_reducible refine And.intro ?_ ?_); (focus ((first | omega | exact List.length_pos_iff.2 (by assumption) | (simp only [List.length_append, List.length_cons, List.length_nil, List.length_map, List.length_take, List.length_drop] at *; omega) | (rw [wrap64_id (by omega) (by omega)]; omega) | (simp; done)))); (try simp only [hb, go_sem, List.drop_zero])))
  refine hK3 _ ?_; clear hK3 K3
  refine AWP.cond rfl (fun c13 => ?_) (fun c13 => ?_)
  · first | exact Bool.noConfusion c13 | (
      try simp only [dD] at c13
      refine AWP.seqk fun K4 hK4 => ?_
      refine AWP.region ?_
      simp only [go_sem, List.drop_zero] -- region 2
      repeat' (first | (refine AGet.haveM (by assumption) ?_; (try simp only [go_sem, List.drop_zero])) | (refine AGet.have' (by assumption) ?_; (try simp only [go_sem, List.drop_zero])) | ((first | refine AGet.nth ?_ (fun b hb => ?_) | refine AGet.nth1 ?_ (fun b hb => ?_) | with_reducible refine And.intro ?_ ?_); (focus ((first | omega | exact List.length_pos_iff.2 (by assumption) | (simp only [List.length_append, List.length_cons, List.length_nil, List.length_map, List.length_take, List.length_drop] at *; omega) | (rw [wrap64_id (by omega) (by omega)]; omega) | (simp; done)))); (try simp only [hb, go_sem, List.drop_zero])))
      refine hK4 _ ?_; clear hK4 K4
      refine AWP.ret ?_
      try simp only [go_sem]
      clear hK2 K2
      first
      | exact ⟨[], .tup [.v _, .sl none 1 [], .v _], rfl, ⟨rfl, trivial, rfl, trivial⟩, by rw [(by exact List.eq_nil_of_length_eq_zero (by omega) : bs = []), nextB_need kF_nil]; rfl, rfl⟩
      | exact ⟨[], .tup [.v _, .sl none 1 [], .v _], rfl, ⟨rfl, trivial, rfl, trivial⟩, by rw [nextB_junk (kF_nob (by assumption))]; rfl, rfl⟩
      | exact ⟨[], .tup [.v _, .sl none 1 [], .v _], rfl, ⟨rfl, trivial, rfl, trivial⟩, by rw [nextB_need (kF_hn (headF_sh (by assumption) (by omega)))]; rfl, rfl⟩
      | exact ⟨[], .tup [.v _, .sl none 1 [], .v _], rfl, ⟨rfl, trivial, rfl, trivial⟩, by rw [nextB_junk (kF_hj (hR.trans (hr.bad (by assumption) hb (.inl (by assumption)))))]; rfl, rfl⟩
      | exact ⟨[], .tup [.v _, .sl none 1 [], .v _], rfl, ⟨rfl, trivial, rfl, trivial⟩, by rw [nextB_junk (kF_hj (hR.trans (hr.bad (by assumption) hb (.inr (by assumption)))))]; rfl, rfl⟩
      | exact ⟨[], .tup [.v _, .sl none 1 [], .v _], rfl, ⟨rfl, trivial, rfl, trivial⟩, by rw [nextB_need (kF_hn (hR.trans (hp.atEnd (by omega))))]; rfl, rfl⟩
      | exact ⟨[], .tup [.v _, .sl none 1 [], .v _], rfl, ⟨rfl, trivial, rfl, trivial⟩, by rw [nextB_junk (kF_hj (hR.trans (hr.no0 hp (by assumption) (by assumption))))]; rfl, rfl⟩
      | exact ⟨[], .tup [.v _, .sl none 1 [], .v _], rfl, ⟨rfl, trivial, rfl, trivial⟩, by rw [nextB_junk (kF_hj (hR.trans (hr.no hp (by assumption) hb (by assumption))))]; rfl, rfl⟩
      | exact ⟨[], .tup [.v _, .sl none 1 [], .v _], rfl, ⟨rfl, trivial, rfl, trivial⟩, by rw [nextB_need (kF_hn (hR.trans (hp.less (get12.trans hf1) (by omega) (by omega))))]; rfl, rfl⟩
      | exact ⟨[], .tup [.v _, .sl none 1 [], .v _], rfl, ⟨rfl, trivial, rfl, trivial⟩, by rw [nextB_junk (cs_no hcase (.inl (by assumption)))]; rfl, rfl⟩
      | exact ⟨[], .tup [.v _, .sl none 1 [], .v _], rfl, ⟨rfl, trivial, rfl, trivial⟩, by rw [nextB_junk (cs_no hcase (.inr (by assumption)))]; rfl, rfl⟩
      | exact ⟨[], .tup [.v _, .sl none 1 _, .v _], rfl, ⟨rfl, ⟨rfl, rfl⟩, rfl, trivial⟩, by rw [nextB_frame (cs_yes hcase (by assumption) (by assumption))], rfl⟩
      | skip)
  · first | exact Bool.noConfusion c13 | (
      try simp only [dD] at c13
      refine AWP.skip ?_
      refine hK2 _ ?_; clear hK2 K2
      refine AWP.seqk fun K5 hK5 => ?_
      have hne : bs ≠ [] := by rintro rfl; exact c13 rfl
      refine AWP.region ?_
      simp only [go_sem, List.drop_zero] -- region 3
      repeat' (first | (refine AGet.haveM (by assumption) ?_; (try simp only [go_sem, List.drop_zero])) | (refine AGet.have' (by assumption) ?_; (try simp only [go_sem, List.drop_zero])) | ((first | refine AGet.nth ?_ (fun b hb => ?_) | refine AGet.nth1 ?_ (fun b hb => ?_) | with_reducible refine And.intro ?_ ?_); (focus ((first | omega | exact List.length_pos_iff.2 (by assumption) | (simp only [List.length_append, List.length_cons, List.length_nil, List.length_map, List.length_take, List.length_drop] at *; omega) | (rw [wrap64_id (by omega) (by omega)]; omega) | (simp; done)))); (try simp only [hb, go_sem, List.drop_zero])))
      refine hK5 _ ?_; clear hK5 K5
      refine AWP.seqJ (ι := Nat) [14, 15, 16, 17, 18, 19, 20, 21, 22, 23, 24, 25] (fun (jj : Nat) => [(5, i64 (jj : Nat))]) (fun (jj : Nat) => []) (fun (jj : Nat) => []) (fun (jj : Nat) => jj = junkF bs) ?_ ?_
      · refine AWP.block ?_ -- 0
        refine AWP.loopH (ι := Nat) [14, 15, 16, 17, 18, 19, 20, 21, 22, 23, 24, 25] (fun (i : Nat) => [(5, i64 i)]) (fun (i : Nat) => 1 ≤ i ∧ i ≤ bs.length ∧ ∀ k, 1 ≤ k → k < i → begins (bs.drop k) = false) (fun (i : Nat) => bs.length - i) (1) ?_ ?_ ?_
        · (try simp only [go_sem]); try (simp; done)
        · exact ⟨by omega, List.length_pos_iff.2 hne, fun k h1 h2 => by omega⟩
        rintro i ⟨h1, h2, h3⟩
        simp only [go_sem]
        refine AWP.seqk fun K6 hK6 => ?_
        refine AWP.seqk fun K7 hK7 => ?_
        refine AWP.region ?_
        simp only [go_sem, List.drop_zero] -- region 4
        repeat' (first | (refine ACall.one (r3begins_c bs i (by omega) (by omega)) (by kernel_rfl) rfl ?_; simp only [go_sem, List.drop_zero]) | (refine ACall.one (r3begins_c bs 0 (by omega) (by omega)) (by kernel_rfl) rfl ?_; simp only [go_sem, List.drop_zero]) | (refine AGuard.splitN (fun h => ?_) (fun h => ?_) <;> simp only [h, go_sem, List.drop_zero] <;> try simp only [dD] at h) | (refine AGuard.split (fun h => ?_) (fun h => ?_) <;> simp only [h, go_sem, List.drop_zero] <;> try simp only [dD] at h) | (refine AGet.haveM (by assumption) ?_; (try simp only [go_sem, List.drop_zero])) | (refine AGet.have' (by assumption) ?_; (try simp only [go_sem, List.drop_zero])) | ((first | refine AGet.nth ?_ (fun b hb => ?_) | refine AGet.nth1 ?_ (fun b hb => ?_) | with_reducible refine And.intro ?_ ?_); (focus ((first | omega | exact List.length_pos_iff.2 (by assumption) | (simp only [List.length_append, List.length_cons, List.length_nil, List.length_map, List.length_take, List.length_drop] at *; omega) | (rw [wrap64_id (by omega) (by omega)]; omega) | (simp; done)))); (try simp only [hb, go_sem, List.drop_zero])))
        all_goals (
          refine hK7 _ ?_; clear hK7 K7
          refine AWP.cond rfl (fun c23 => ?_) (fun c23 => ?_)
          · first | exact Bool.noConfusion c23 | (
              try simp only [dD] at c23
              refine AWP.skip ?_
              refine hK6 _ ?_; clear hK6 K6
              refine AWP.block ?_ -- 1
              refine AWP.region ?_
              simp only [go_sem, List.drop_zero] -- region 5
              repeat' (first | (refine AGet.haveM (by assumption) ?_; (try simp only [go_sem, List.drop_zero])) | (refine AGet.have' (by assumption) ?_; (try simp only [go_sem, List.drop_zero])) | ((first | refine AGet.nth ?_ (fun b hb => ?_) | refine AGet.nth1 ?_ (fun b hb => ?_) | with_reducible refine And.intro ?_ ?_); (focus ((first | omega | exact List.length_pos_iff.2 (by assumption) | (simp only [List.length_append, List.length_cons, List.length_nil, List.length_map, List.length_take, List.length_drop] at *; omega) | (rw [wrap64_id (by omega) (by omega)]; omega) | (simp; done)))); (try simp only [hb, go_sem, List.drop_zero])))
              refine ⟨i + 1, ?_, ?_, ?_⟩
              · (try simp only [go_sem]); (try rw [wrap64_id (by omega) (by omega)]); simp
              · exact ⟨by omega, by omega, fun k g1 g2 => by rcases Nat.lt_or_ge k i with h | h; exact h3 k g1 h; exact (by rw [show k = i by omega]; first | assumption | (simp_all; done))⟩
              · omega)
          · first | exact Bool.noConfusion c23 | (
              try simp only [dD] at c23
              refine AWP.exit ?_
              simp only [go_sem]
              clear hK6 K6
              have e : junkF bs = i := by
                first
                | exact junk_eq h1 h2 (by assumption) h3
                | (have hi : i = bs.length := by omega
                   subst hi; exact junk_end hne h3)
              refine ⟨i, e.symm, ?_⟩
              (try simp only [go_sem]); (try simp); done))
      rintro jj rfl
      simp only [go_sem]
      refine AWP.seqk fun K8 hK8 => ?_
      refine AWP.seqk fun K9 hK9 => ?_
      have _ := hl
      refine AWP.region ?_
      simp only [go_sem, List.drop_zero] -- region 6
      repeat' (first | (refine ACall.one (r3begins_c bs i (by omega) (by omega)) (by kernel_rfl) rfl ?_; simp only [go_sem, List.drop_zero]) | (refine ACall.one (r3begins_c bs 0 (by omega) (by omega)) (by kernel_rfl) rfl ?_; simp only [go_sem, List.drop_zero]) | (refine AGet.haveM (by assumption) ?_; (try simp only [go_sem, List.drop_zero])) | (refine AGet.have' (by assumption) ?_; (try simp only [go_sem, List.drop_zero])) | ((first | refine AGet.nth ?_ (fun b hb => ?_) | refine AGet.nth1 ?_ (fun b hb => ?_) | with_reducible refine And.intro ?_ ?_); (focus ((first | omega | exact List.length_pos_iff.2 (by assumption) | (simp only [List.length_append, List.length_cons, List.length_nil, List.length_map, List.length_take, List.length_drop] at *; omega) | (rw [wrap64_id (by omega) (by omega)]; omega) | (simp; done)))); (try simp only [hb, go_sem, List.drop_zero])))
      refine hK9 _ ?_; clear hK9 K9
      refine AWP.cond rfl (fun c28 => ?_) (fun c28 => ?_)
      · first | exact Bool.noConfusion c28 | (
          try simp only [dD] at c28
          refine AWP.seqk fun K10 hK10 => ?_
          refine AWP.region ?_
          simp only [go_sem, List.drop_zero] -- region 7
          repeat' (first | (refine AGet.haveM (by assumption) ?_; (try simp only [go_sem, List.drop_zero])) | (refine AGet.have' (by assumption) ?_; (try simp only [go_sem, List.drop_zero])) | ((first | refine AGet.nth ?_ (fun b hb => ?_) | refine AGet.nth1 ?_ (fun b hb => ?_) | with_reducible refine And.intro ?_ ?_); (focus ((first | omega | exact List.length_pos_iff.2 (by assumption) | (simp only [List.length_append, List.length_cons, List.length_nil, List.length_map, List.length_take, List.length_drop] at *; omega) | (rw [wrap64_id (by omega) (by omega)]; omega) | (simp; done)))); (try simp only [hb, go_sem, List.drop_zero])))
          refine hK10 _ ?_; clear hK10 K10
          refine AWP.ret ?_
          try simp only [go_sem]
          clear hK8 K8
          first
          | exact ⟨[], .tup [.v _, .sl none 1 [], .v _], rfl, ⟨rfl, trivial, rfl, trivial⟩, by rw [(by exact List.eq_nil_of_length_eq_zero (by omega) : bs = []), nextB_need kF_nil]; rfl, rfl⟩
          | exact ⟨[], .tup [.v _, .sl none 1 [], .v _], rfl, ⟨rfl, trivial, rfl, trivial⟩, by rw [nextB_junk (kF_nob (by assumption))]; rfl, rfl⟩
          | exact ⟨[], .tup [.v _, .sl none 1 [], .v _], rfl, ⟨rfl, trivial, rfl, trivial⟩, by rw [nextB_need (kF_hn (headF_sh (by assumption) (by omega)))]; rfl, rfl⟩
          | exact ⟨[], .tup [.v _, .sl none 1 [], .v _], rfl, ⟨rfl, trivial, rfl, trivial⟩, by rw [nextB_junk (kF_hj (hR.trans (hr.bad (by assumption) hb (.inl (by assumption)))))]; rfl, rfl⟩
          | exact ⟨[], .tup [.v _, .sl none 1 [], .v _], rfl, ⟨rfl, trivial, rfl, trivial⟩, by rw [nextB_junk (kF_hj (hR.trans (hr.bad (by assumption) hb (.inr (by assumption)))))]; rfl, rfl⟩
          | exact ⟨[], .tup [.v _, .sl none 1 [], .v _], rfl, ⟨rfl, trivial, rfl, trivial⟩, by rw [nextB_need (kF_hn (hR.trans (hp.atEnd (by omega))))]; rfl, rfl⟩
          | exact ⟨[], .tup [.v _, .sl none 1 [], .v _], rfl, ⟨rfl, trivial, rfl, trivial⟩, by rw [nextB_junk (kF_hj (hR.trans (hr.no0 hp (by assumption) (by assumption))))]; rfl, rfl⟩
          | exact ⟨[], .tup [.v _, .sl none 1 [], .v _], rfl, ⟨rfl, trivial, rfl, trivial⟩, by rw [nextB_junk (kF_hj (hR.trans (hr.no hp (by assumption) hb (by assumption))))]; rfl, rfl⟩
          | exact ⟨[], .tup [.v _, .sl none 1 [], .v _], rfl, ⟨rfl, trivial, rfl, trivial⟩, by rw [nextB_need (kF_hn (hR.trans (hp.less (get12.trans hf1) (by omega) (by omega))))]; rfl, rfl⟩
          | exact ⟨[], .tup [.v _, .sl none 1 [], .v _], rfl, ⟨rfl, trivial, rfl, trivial⟩, by rw [nextB_junk (cs_no hcase (.inl (by assumption)))]; rfl, rfl⟩
          | exact ⟨[], .tup [.v _, .sl none 1 [], .v _], rfl, ⟨rfl, trivial, rfl, trivial⟩, by rw [nextB_junk (cs_no hcase (.inr (by assumption)))]; rfl, rfl⟩
          | exact ⟨[], .tup [.v _, .sl none 1 _, .v _], rfl, ⟨rfl, ⟨rfl, rfl⟩, rfl, trivial⟩, by rw [nextB_frame (cs_yes hcase (by assumption) (by assumption))], rfl⟩
          | skip)
      · first | exact Bool.noConfusion c28 | (
          try simp only [dD] at c28
          refine AWP.skip ?_
          refine hK8 _ ?_; clear hK8 K8
          refine AWP.seqk fun K11 hK11 => ?_
          refine AWP.seqk fun K12 hK12 => ?_
          refine AWP.region ?_
          simp only [go_sem, List.drop_zero] -- region 8
          repeat' (first | (refine AGet.haveM (by assumption) ?_; (try simp only [go_sem, List.drop_zero])) | (refine AGet.have' (by assumption) ?_; (try simp only [go_sem, List.drop_zero])) | ((first | refine AGet.nth ?_ (fun b hb => ?_) | refine AGet.nth1 ?_ (fun b hb => ?_) | with_reducible refine And.intro ?_ ?_); (focus ((first | omega | exact List.length_pos_iff.2 (by assumption) | (simp only [List.length_append, List.length_cons, List.length_nil, List.length_map, List.length_take, List.length_drop] at *; omega) | (rw [wrap64_id (by omega) (by omega)]; omega) | (simp; done)))); (try simp only [hb, go_sem, List.drop_zero])))
          refine hK12 _ ?_; clear hK12 K12
          refine AWP.cond rfl (fun c32 => ?_) (fun c32 => ?_)
          · first | exact Bool.noConfusion c32 | (
              try simp only [dD] at c32
              refine AWP.seqk fun K13 hK13 => ?_
              refine AWP.region ?_
              simp only [go_sem, List.drop_zero] -- region 9
              repeat' (first | (refine AGet.haveM (by assumption) ?_; (try simp only [go_sem, List.drop_zero])) | (refine AGet.have' (by assumption) ?_; (try simp only [go_sem, List.drop_zero])) | ((first | refine AGet.nth ?_ (fun b hb => ?_) | refine AGet.nth1 ?_ (fun b hb => ?_) | with_reducible refine And.intro ?_ ?_); (focus ((first | omega | exact List.length_pos_iff.2 (by assumption) | (simp only [List.length_append, List.length_cons, List.length_nil, List.length_map, List.length_take, List.length_drop] at *; omega) | (rw [wrap64_id (by omega) (by omega)]; omega) | (simp; done)))); (try simp only [hb, go_sem, List.drop_zero])))
              refine hK13 _ ?_; clear hK13 K13
              refine AWP.ret ?_
              try simp only [go_sem]
              clear hK11 K11
              first
              | exact ⟨[], .tup [.v _, .sl none 1 [], .v _], rfl, ⟨rfl, trivial, rfl, trivial⟩, by rw [(by exact List.eq_nil_of_length_eq_zero (by omega) : bs = []), nextB_need kF_nil]; rfl, rfl⟩
              | exact ⟨[], .tup [.v _, .sl none 1 [], .v _], rfl, ⟨rfl, trivial, rfl, trivial⟩, by rw [nextB_junk (kF_nob (by assumption))]; rfl, rfl⟩
              | exact ⟨[], .tup [.v _, .sl none 1 [], .v _], rfl, ⟨rfl, trivial, rfl, trivial⟩, by rw [nextB_need (kF_hn (headF_sh (by assumption) (by omega)))]; rfl, rfl⟩
              | exact ⟨[], .tup [.v _, .sl none 1 [], .v _], rfl, ⟨rfl, trivial, rfl, trivial⟩, by rw [nextB_junk (kF_hj (hR.trans (hr.bad (by assumption) hb (.inl (by assumption)))))]; rfl, rfl⟩
              | exact ⟨[], .tup [.v _, .sl none 1 [], .v _], rfl, ⟨rfl, trivial, rfl, trivial⟩, by rw [nextB_junk (kF_hj (hR.trans (hr.bad (by assumption) hb (.inr (by assumption)))))]; rfl, rfl⟩
              | exact ⟨[], .tup [.v _, .sl none 1 [], .v _], rfl, ⟨rfl, trivial, rfl, trivial⟩, by rw [nextB_need (kF_hn (hR.trans (hp.atEnd (by omega))))]; rfl, rfl⟩
              | exact ⟨[], .tup [.v _, .sl none 1 [], .v _], rfl, ⟨rfl, trivial, rfl, trivial⟩, by rw [nextB_junk (kF_hj (hR.trans (hr.no0 hp (by assumption) (by assumption))))]; rfl, rfl⟩
              | exact ⟨[], .tup [.v _, .sl none 1 [], .v _], rfl, ⟨rfl, trivial, rfl, trivial⟩, by rw [nextB_junk (kF_hj (hR.trans (hr.no hp (by assumption) hb (by assumption))))]; rfl, rfl⟩
              | exact ⟨[], .tup [.v _, .sl none 1 [], .v _], rfl, ⟨rfl, trivial, rfl, trivial⟩, by rw [nextB_need (kF_hn (hR.trans (hp.less (get12.trans hf1) (by omega) (by omega))))]; rfl, rfl⟩
              | exact ⟨[], .tup [.v _, .sl none 1 [], .v _], rfl, ⟨rfl, trivial, rfl, trivial⟩, by rw [nextB_junk (cs_no hcase (.inl (by assumption)))]; rfl, rfl⟩
              | exact ⟨[], .tup [.v _, .sl none 1 [], .v _], rfl, ⟨rfl, trivial, rfl, trivial⟩, by rw [nextB_junk (cs_no hcase (.inr (by assumption)))]; rfl, rfl⟩
              | exact ⟨[], .tup [.v _, .sl none 1 _, .v _], rfl, ⟨rfl, ⟨rfl, rfl⟩, rfl, trivial⟩, by rw [nextB_frame (cs_yes hcase (by assumption) (by assumption))], rfl⟩
              | skip)
          · first | exact Bool.noConfusion c32 | (
              try simp only [dD] at c32
              refine AWP.skip ?_
              refine hK11 _ ?_; clear hK11 K11
              refine AWP.seqk fun K14 hK14 => ?_
              refine AWP.region ?_
              simp only [go_sem, List.drop_zero] -- region 10
              repeat' (first | (refine AGet.haveM (by assumption) ?_; (try simp only [go_sem, List.drop_zero])) | (refine AGet.have' (by assumption) ?_; (try simp only [go_sem, List.drop_zero])) | ((first | refine AGet.nth ?_ (fun b hb => ?_) | refine AGet.nth1 ?_ (fun b hb => ?_) | with_reducible refine And.intro ?_ ?_); (focus ((first | omega | exact List.length_pos_iff.2 (by assumption) | (simp only [List.length_append, List.length_cons, List.length_nil, List.length_map, List.length_take, List.length_drop] at *; omega) | (rw [wrap64_id (by omega) (by omega)]; omega) | (simp; done)))); (try simp only [hb, go_sem, List.drop_zero])))
              refine hK14 _ ?_; clear hK14 K14
              refine AWP.seqk fun K15 hK15 => ?_
              refine AWP.region ?_
              simp only [go_sem, List.drop_zero] -- region 11
              repeat' (first | (refine AGet.haveM (by assumption) ?_; (try simp only [go_sem, List.drop_zero])) | (refine AGet.have' (by assumption) ?_; (try simp only [go_sem, List.drop_zero])) | ((first | refine AGet.nth ?_ (fun b hb => ?_) | refine AGet.nth1 ?_ (fun b hb => ?_) | with_reducible refine And.intro ?_ ?_); (focus ((first | omega | exact List.length_pos_iff.2 (by assumption) | (simp only [List.length_append, List.length_cons, List.length_nil, List.length_map, List.length_take, List.length_drop] at *; omega) | (rw [wrap64_id (by omega) (by omega)]; omega) | (simp; done)))); (try simp only [hb, go_sem, List.drop_zero])))
              refine hK15 _ ?_; clear hK15 K15
              refine AWP.seqJ (ι := Nat) [33, 34, 35, 36, 37, 38, 39, 40, 41, 42, 43, 44, 45, 46, 47, 48, 49, 50, 51, 52, 53, 54, 55, 56, 57, 58, 59, 60, 61, 62, 63, 64, 65] (fun (j : Nat) => [(6, i64 ((decVal 0 ((bs.drop 12).take j) : Nat) : Int)), (7, i64 ((12 + j : Nat) : Int))]) (fun (j : Nat) => []) (fun (j : Nat) => []) (fun (j : Nat) => RE bs j) ?_ ?_
              · refine AWP.block ?_ -- 2
                refine AWP.loopH (ι := Nat) [33, 34, 35, 36, 37, 38, 39, 40, 41, 42, 43, 44, 45, 46, 47, 48, 49, 50, 51, 52, 53, 54, 55, 56, 57, 58, 59, 60, 61, 62, 63, 64, 65] (fun (j : Nat) => [(6, i64 ((decVal 0 ((bs.drop 12).take j) : Nat) : Int)), (7, i64 ((12 + j : Nat) : Int))]) (fun (j : Nat) => j ≤ 4 ∧ 12 + j ≤ bs.length ∧ ((bs.drop 12).take j).all isDig = true) (fun (j : Nat) => 4 - j) (0) ?_ ?_ ?_
                · (try simp only [go_sem]); simp [decVal_nil]
                · exact ⟨by omega, by omega, rfl⟩
                rintro j ⟨g1, g2, g3⟩
                simp only [go_sem]
                refine AWP.seqk fun K16 hK16 => ?_
                refine AWP.seqk fun K17 hK17 => ?_
                refine AWP.region ?_
                simp only [go_sem, List.drop_zero] -- region 12
                repeat' (first | (refine AGuard.splitN (fun h => ?_) (fun h => ?_) <;> simp only [h, go_sem, List.drop_zero] <;> try simp only [dD] at h) | (refine AGuard.split (fun h => ?_) (fun h => ?_) <;> simp only [h, go_sem, List.drop_zero] <;> try simp only [dD] at h) | (refine AGet.haveM (by assumption) ?_; (try simp only [go_sem, List.drop_zero])) | (refine AGet.have' (by assumption) ?_; (try simp only [go_sem, List.drop_zero])) | ((first | refine AGet.nth ?_ (fun b hb => ?_) | refine AGet.nth1 ?_ (fun b hb => ?_) | with_reducible refine And.intro ?_ ?_); (focus ((first | omega | exact List.length_pos_iff.2 (by assumption) | (simp only [List.length_append, List.length_cons, List.length_nil, List.length_map, List.length_take, List.length_drop] at *; omega) | (rw [wrap64_id (by omega) (by omega)]; omega) | (simp; done)))); (try simp only [hb, go_sem, List.drop_zero])))
                all_goals (
                  refine hK17 _ ?_; clear hK17 K17
                  refine AWP.cond rfl (fun c54 => ?_) (fun c54 => ?_)
                  · first | exact Bool.noConfusion c54 | (
                      try simp only [dD] at c54
                      refine AWP.skip ?_
                      refine hK16 _ ?_; clear hK16 K16
                      refine AWP.block ?_ -- 3
                      refine AWP.seqk fun K18 hK18 => ?_
                      have hlt := get_lt hb
                      have hbj : (bs.drop 12)[j]? = some b := get12.trans hb
                      have hv := dv_wrap hbj (by assumption) c54 (by have := dv_le4 g3 g1; omega)
                      refine AWP.region ?_
                      simp only [go_sem, List.drop_zero] -- region 13
                      repeat' (first | (refine AGet.haveM (by assumption) ?_; (try simp only [go_sem, List.drop_zero])) | (refine AGet.have' (by assumption) ?_; (try simp only [go_sem, List.drop_zero])) | ((first | refine AGet.nth ?_ (fun b hb => ?_) | refine AGet.nth1 ?_ (fun b hb => ?_) | with_reducible refine And.intro ?_ ?_); (focus ((first | omega | exact List.length_pos_iff.2 (by assumption) | (simp only [List.length_append, List.length_cons, List.length_nil, List.length_map, List.length_take, List.length_drop] at *; omega) | (rw [wrap64_id (by omega) (by omega)]; omega) | (simp; done)))); (try simp only [hb, go_sem, List.drop_zero])))
                      rw [hv]
                      refine hK18 _ ?_; clear hK18 K18
                      refine AWP.region ?_
                      simp only [go_sem, List.drop_zero] -- region 14
                      repeat' (first | (refine AGet.haveM (by assumption) ?_; (try simp only [go_sem, List.drop_zero])) | (refine AGet.have' (by assumption) ?_; (try simp only [go_sem, List.drop_zero])) | ((first | refine AGet.nth ?_ (fun b hb => ?_) | refine AGet.nth1 ?_ (fun b hb => ?_) | with_reducible refine And.intro ?_ ?_); (focus ((first | omega | exact List.length_pos_iff.2 (by assumption) | (simp only [List.length_append, List.length_cons, List.length_nil, List.length_map, List.length_take, List.length_drop] at *; omega) | (rw [wrap64_id (by omega) (by omega)]; omega) | (simp; done)))); (try simp only [hb, go_sem, List.drop_zero])))
                      rw [wrap64_id (by omega) (by omega)]
                      refine ⟨j + 1, ?_, ?_, ?_⟩
                      · simp; omega
                      · exact ⟨by omega, by omega, all_snoc hbj g3 (by assumption) c54⟩
                      · omega)
                  · first | exact Bool.noConfusion c54 | (
                      try simp only [dD] at c54
                      refine AWP.exit ?_
                      simp only [go_sem]
                      clear hK16 K16
                      refine ⟨j, ?_, ?_⟩
                      · first | exact ⟨g1, g2, g3, .inl (by omega)⟩ | exact ⟨g1, g2, g3, .inr (.inl (by omega))⟩ | exact ⟨g1, g2, g3, .inr (.inr ⟨_, hb, nodig_iff.2 (.inl (by assumption))⟩)⟩ | exact ⟨g1, g2, g3, .inr (.inr ⟨_, hb, nodig_iff.2 (.inr (by assumption))⟩)⟩
                      · (try simp only [go_sem]); (try simp); done))
              rintro j hr
              simp only [go_sem]
              refine AWP.seqk fun K19 hK19 => ?_
              refine AWP.seqk fun K20 hK20 => ?_
              have hR := headF_r (b := bs) (by assumption) (by omega)
              have hrl := hr.len
              have hr4 := hr.le
              refine AWP.region ?_
              simp only [go_sem, List.drop_zero] -- region 15
              repeat' (first | (refine AGuard.splitN (fun h => ?_) (fun h => ?_) <;> simp only [h, go_sem, List.drop_zero] <;> try simp only [dD] at h) | (refine AGuard.split (fun h => ?_) (fun h => ?_) <;> simp only [h, go_sem, List.drop_zero] <;> try simp only [dD] at h) | (refine AGet.haveM (by assumption) ?_; (try simp only [go_sem, List.drop_zero])) | (refine AGet.have' (by assumption) ?_; (try simp only [go_sem, List.drop_zero])) | ((first | refine AGet.nth ?_ (fun b hb => ?_) | refine AGet.nth1 ?_ (fun b hb => ?_) | with_reducible refine And.intro ?_ ?_); (focus ((first | omega | exact List.length_pos_iff.2 (by assumption) | (simp only [List.length_append, List.length_cons, List.length_nil, List.length_map, List.length_take, List.length_drop] at *; omega) | (rw [wrap64_id (by omega) (by omega)]; omega) | (simp; done)))); (try simp only [hb, go_sem, List.drop_zero])))
              all_goals (
                refine hK20 _ ?_; clear hK20 K20
                refine AWP.cond rfl (fun c77 => ?_) (fun c77 => ?_)
                · first | exact Bool.noConfusion c77 | (
                    try simp only [dD] at c77
                    refine AWP.seqk fun K21 hK21 => ?_
                    refine AWP.region ?_
                    simp only [go_sem, List.drop_zero] -- region 16
                    repeat' (first | (refine AGet.haveM (by assumption) ?_; (try simp only [go_sem, List.drop_zero])) | (refine AGet.have' (by assumption) ?_; (try simp only [go_sem, List.drop_zero])) | ((first | refine AGet.nth ?_ (fun b hb => ?_) | refine AGet.nth1 ?_ (fun b hb => ?_) | with_reducible refine And.intro ?_ ?_); (focus ((first | omega | exact List.length_pos_iff.2 (by assumption) | (simp only [List.length_append, List.length_cons, List.length_nil, List.length_map, List.length_take, List.length_drop] at *; omega) | (rw [wrap64_id (by omega) (by omega)]; omega) | (simp; done)))); (try simp only [hb, go_sem, List.drop_zero])))
                    refine hK21 _ ?_; clear hK21 K21
                    refine AWP.ret ?_
                    try simp only [go_sem]
                    clear hK19 K19
                    first
                    | exact ⟨[], .tup [.v _, .sl none 1 [], .v _], rfl, ⟨rfl, trivial, rfl, trivial⟩, by rw [(by exact List.eq_nil_of_length_eq_zero (by omega) : bs = []), nextB_need kF_nil]; rfl, rfl⟩
                    | exact ⟨[], .tup [.v _, .sl none 1 [], .v _], rfl, ⟨rfl, trivial, rfl, trivial⟩, by rw [nextB_junk (kF_nob (by assumption))]; rfl, rfl⟩
                    | exact ⟨[], .tup [.v _, .sl none 1 [], .v _], rfl, ⟨rfl, trivial, rfl, trivial⟩, by rw [nextB_need (kF_hn (headF_sh (by assumption) (by omega)))]; rfl, rfl⟩
                    | exact ⟨[], .tup [.v _, .sl none 1 [], .v _], rfl, ⟨rfl, trivial, rfl, trivial⟩, by rw [nextB_junk (kF_hj (hR.trans (hr.bad (by assumption) hb (.inl (by assumption)))))]; rfl, rfl⟩
                    | exact ⟨[], .tup [.v _, .sl none 1 [], .v _], rfl, ⟨rfl, trivial, rfl, trivial⟩, by rw [nextB_junk (kF_hj (hR.trans (hr.bad (by assumption) hb (.inr (by assumption)))))]; rfl, rfl⟩
                    | exact ⟨[], .tup [.v _, .sl none 1 [], .v _], rfl, ⟨rfl, trivial, rfl, trivial⟩, by rw [nextB_need (kF_hn (hR.trans (hp.atEnd (by omega))))]; rfl, rfl⟩
                    | exact ⟨[], .tup [.v _, .sl none 1 [], .v _], rfl, ⟨rfl, trivial, rfl, trivial⟩, by rw [nextB_junk (kF_hj (hR.trans (hr.no0 hp (by assumption) (by assumption))))]; rfl, rfl⟩
                    | exact ⟨[], .tup [.v _, .sl none 1 [], .v _], rfl, ⟨rfl, trivial, rfl, trivial⟩, by rw [nextB_junk (kF_hj (hR.trans (hr.no hp (by assumption) hb (by assumption))))]; rfl, rfl⟩
                    | exact ⟨[], .tup [.v _, .sl none 1 [], .v _], rfl, ⟨rfl, trivial, rfl, trivial⟩, by rw [nextB_need (kF_hn (hR.trans (hp.less (get12.trans hf1) (by omega) (by omega))))]; rfl, rfl⟩
                    | exact ⟨[], .tup [.v _, .sl none 1 [], .v _], rfl, ⟨rfl, trivial, rfl, trivial⟩, by rw [nextB_junk (cs_no hcase (.inl (by assumption)))]; rfl, rfl⟩
                    | exact ⟨[], .tup [.v _, .sl none 1 [], .v _], rfl, ⟨rfl, trivial, rfl, trivial⟩, by rw [nextB_junk (cs_no hcase (.inr (by assumption)))]; rfl, rfl⟩
                    | exact ⟨[], .tup [.v _, .sl none 1 _, .v _], rfl, ⟨rfl, ⟨rfl, rfl⟩, rfl, trivial⟩, by rw [nextB_frame (cs_yes hcase (by assumption) (by assumption))], rfl⟩
                    | skip)
                · first | exact Bool.noConfusion c77 | (
                    try simp only [dD] at c77
                    refine AWP.skip ?_
                    refine hK19 _ ?_; clear hK19 K19
                    refine AWP.seqk fun K22 hK22 => ?_
                    refine AWP.seqk fun K23 hK23 => ?_
                    have hp : HP (bs.drop 12) j := by first | exact hr.hp0 (by assumption) | exact hr.hp1 hb (by assumption) (by assumption)
                    have hple := hp.le
                    try clear hb
                    refine AWP.region ?_
                    simp only [go_sem, List.drop_zero] -- region 17
                    repeat' (first | (refine AGet.haveM (by assumption) ?_; (try simp only [go_sem, List.drop_zero])) | (refine AGet.have' (by assumption) ?_; (try simp only [go_sem, List.drop_zero])) | ((first | refine AGet.nth ?_ (fun b hb => ?_) | refine AGet.nth1 ?_ (fun b hb => ?_) | with_reducible refine And.intro ?_ ?_); (focus ((first | omega | exact List.length_pos_iff.2 (by assumption) | (simp only [List.length_append, List.length_cons, List.length_nil, List.length_map, List.length_take, List.length_drop] at *; omega) | (rw [wrap64_id (by omega) (by omega)]; omega) | (simp; done)))); (try simp only [hb, go_sem, List.drop_zero])))
                    refine hK23 _ ?_; clear hK23 K23
                    refine AWP.cond rfl (fun c82 => ?_) (fun c82 => ?_)
                    · first | exact Bool.noConfusion c82 | (
                        try simp only [dD] at c82
                        refine AWP.seqk fun K24 hK24 => ?_
                        refine AWP.region ?_
                        simp only [go_sem, List.drop_zero] -- region 18
                        repeat' (first | (refine AGet.haveM (by assumption) ?_; (try simp only [go_sem, List.drop_zero])) | (refine AGet.have' (by assumption) ?_; (try simp only [go_sem, List.drop_zero])) | ((first | refine AGet.nth ?_ (fun b hb => ?_) | refine AGet.nth1 ?_ (fun b hb => ?_) | with_reducible refine And.intro ?_ ?_); (focus ((first | omega | exact List.length_pos_iff.2 (by assumption) | (simp only [List.length_append, List.length_cons, List.length_nil, List.length_map, List.length_take, List.length_drop] at *; omega) | (rw [wrap64_id (by omega) (by omega)]; omega) | (simp; done)))); (try simp only [hb, go_sem, List.drop_zero])))
                        refine hK24 _ ?_; clear hK24 K24
                        refine AWP.ret ?_
                        try simp only [go_sem]
                        clear hK22 K22
                        first
                        | exact ⟨[], .tup [.v _, .sl none 1 [], .v _], rfl, ⟨rfl, trivial, rfl, trivial⟩, by rw [(by exact List.eq_nil_of_length_eq_zero (by omega) : bs = []), nextB_need kF_nil]; rfl, rfl⟩
                        | exact ⟨[], .tup [.v _, .sl none 1 [], .v _], rfl, ⟨rfl, trivial, rfl, trivial⟩, by rw [nextB_junk (kF_nob (by assumption))]; rfl, rfl⟩
                        | exact ⟨[], .tup [.v _, .sl none 1 [], .v _], rfl, ⟨rfl, trivial, rfl, trivial⟩, by rw [nextB_need (kF_hn (headF_sh (by assumption) (by omega)))]; rfl, rfl⟩
                        | exact ⟨[], .tup [.v _, .sl none 1 [], .v _], rfl, ⟨rfl, trivial, rfl, trivial⟩, by rw [nextB_junk (kF_hj (hR.trans (hr.bad (by assumption) hb (.inl (by assumption)))))]; rfl, rfl⟩
                        | exact ⟨[], .tup [.v _, .sl none 1 [], .v _], rfl, ⟨rfl, trivial, rfl, trivial⟩, by rw [nextB_junk (kF_hj (hR.trans (hr.bad (by assumption) hb (.inr (by assumption)))))]; rfl, rfl⟩
                        | exact ⟨[], .tup [.v _, .sl none 1 [], .v _], rfl, ⟨rfl, trivial, rfl, trivial⟩, by rw [nextB_need (kF_hn (hR.trans (hp.atEnd (by omega))))]; rfl, rfl⟩
                        | exact ⟨[], .tup [.v _, .sl none 1 [], .v _], rfl, ⟨rfl, trivial, rfl, trivial⟩, by rw [nextB_junk (kF_hj (hR.trans (hr.no0 hp (by assumption) (by assumption))))]; rfl, rfl⟩
                        | exact ⟨[], .tup [.v _, .sl none 1 [], .v _], rfl, ⟨rfl, trivial, rfl, trivial⟩, by rw [nextB_junk (kF_hj (hR.trans (hr.no hp (by assumption) hb (by assumption))))]; rfl, rfl⟩
                        | exact ⟨[], .tup [.v _, .sl none 1 [], .v _], rfl, ⟨rfl, trivial, rfl, trivial⟩, by rw [nextB_need (kF_hn (hR.trans (hp.less (get12.trans hf1) (by omega) (by omega))))]; rfl, rfl⟩
                        | exact ⟨[], .tup [.v _, .sl none 1 [], .v _], rfl, ⟨rfl, trivial, rfl, trivial⟩, by rw [nextB_junk (cs_no hcase (.inl (by assumption)))]; rfl, rfl⟩
                        | exact ⟨[], .tup [.v _, .sl none 1 [], .v _], rfl, ⟨rfl, trivial, rfl, trivial⟩, by rw [nextB_junk (cs_no hcase (.inr (by assumption)))]; rfl, rfl⟩
                        | exact ⟨[], .tup [.v _, .sl none 1 _, .v _], rfl, ⟨rfl, ⟨rfl, rfl⟩, rfl, trivial⟩, by rw [nextB_frame (cs_yes hcase (by assumption) (by assumption))], rfl⟩
                        | skip)
                    · first | exact Bool.noConfusion c82 | (
                        try simp only [dD] at c82
                        refine AWP.skip ?_
                        refine hK22 _ ?_; clear hK22 K22
                        refine AWP.seqk fun K25 hK25 => ?_
                        refine AWP.seqk fun K26 hK26 => ?_
                        refine AWP.region ?_
                        simp only [go_sem, List.drop_zero] -- region 19
                        repeat' (first | (refine AGuard.splitN (fun h => ?_) (fun h => ?_) <;> simp only [h, go_sem, List.drop_zero] <;> try simp only [dD] at h) | (refine AGuard.split (fun h => ?_) (fun h => ?_) <;> simp only [h, go_sem, List.drop_zero] <;> try simp only [dD] at h) | (refine AGet.haveM (by assumption) ?_; (try simp only [go_sem, List.drop_zero])) | (refine AGet.have' (by assumption) ?_; (try simp only [go_sem, List.drop_zero])) | ((first | refine AGet.nth ?_ (fun b hb => ?_) | refine AGet.nth1 ?_ (fun b hb => ?_) | with_reducible refine And.intro ?_ ?_); (focus ((first | omega | exact List.length_pos_iff.2 (by assumption) | (simp only [List.length_append, List.length_cons, List.length_nil, List.length_map, List.length_take, List.length_drop] at *; omega) | (rw [wrap64_id (by omega) (by omega)]; omega) | (simp; done)))); (try simp only [hb, go_sem, List.drop_zero])))
                        all_goals (
                          refine hK26 _ ?_; clear hK26 K26
                          refine AWP.cond rfl (fun c91 => ?_) (fun c91 => ?_)
                          · first | exact Bool.noConfusion c91 | (
                              try simp only [dD] at c91
                              refine AWP.seqk fun K27 hK27 => ?_
                              refine AWP.region ?_
                              simp only [go_sem, List.drop_zero] -- region 20
                              repeat' (first | (refine AGet.haveM (by assumption) ?_; (try simp only [go_sem, List.drop_zero])) | (refine AGet.have' (by assumption) ?_; (try simp only [go_sem, List.drop_zero])) | ((first | refine AGet.nth ?_ (fun b hb => ?_) | refine AGet.nth1 ?_ (fun b hb => ?_) | with_reducible refine And.intro ?_ ?_); (focus ((first | omega | exact List.length_pos_iff.2 (by assumption) | (simp only [List.length_append, List.length_cons, List.length_nil, List.length_map, List.length_take, List.length_drop] at *; omega) | (rw [wrap64_id (by omega) (by omega)]; omega) | (simp; done)))); (try simp only [hb, go_sem, List.drop_zero])))
                              refine hK27 _ ?_; clear hK27 K27
                              refine AWP.ret ?_
                              try simp only [go_sem]
                              clear hK25 K25
                              first
                              | exact ⟨[], .tup [.v _, .sl none 1 [], .v _], rfl, ⟨rfl, trivial, rfl, trivial⟩, by rw [(by exact List.eq_nil_of_length_eq_zero (by omega) : bs = []), nextB_need kF_nil]; rfl, rfl⟩
                              | exact ⟨[], .tup [.v _, .sl none 1 [], .v _], rfl, ⟨rfl, trivial, rfl, trivial⟩, by rw [nextB_junk (kF_nob (by assumption))]; rfl, rfl⟩
                              | exact ⟨[], .tup [.v _, .sl none 1 [], .v _], rfl, ⟨rfl, trivial, rfl, trivial⟩, by rw [nextB_need (kF_hn (headF_sh (by assumption) (by omega)))]; rfl, rfl⟩
                              | exact ⟨[], .tup [.v _, .sl none 1 [], .v _], rfl, ⟨rfl, trivial, rfl, trivial⟩, by rw [nextB_junk (kF_hj (hR.trans (hr.bad (by assumption) hb (.inl (by assumption)))))]; rfl, rfl⟩
                              | exact ⟨[], .tup [.v _, .sl none 1 [], .v _], rfl, ⟨rfl, trivial, rfl, trivial⟩, by rw [nextB_junk (kF_hj (hR.trans (hr.bad (by assumption) hb (.inr (by assumption)))))]; rfl, rfl⟩
                              | exact ⟨[], .tup [.v _, .sl none 1 [], .v _], rfl, ⟨rfl, trivial, rfl, trivial⟩, by rw [nextB_need (kF_hn (hR.trans (hp.atEnd (by omega))))]; rfl, rfl⟩
                              | exact ⟨[], .tup [.v _, .sl none 1 [], .v _], rfl, ⟨rfl, trivial, rfl, trivial⟩, by rw [nextB_junk (kF_hj (hR.trans (hr.no0 hp (by assumption) (by assumption))))]; rfl, rfl⟩
                              | exact ⟨[], .tup [.v _, .sl none 1 [], .v _], rfl, ⟨rfl, trivial, rfl, trivial⟩, by rw [nextB_junk (kF_hj (hR.trans (hr.no hp (by assumption) hb (by assumption))))]; rfl, rfl⟩
                              | exact ⟨[], .tup [.v _, .sl none 1 [], .v _], rfl, ⟨rfl, trivial, rfl, trivial⟩, by rw [nextB_need (kF_hn (hR.trans (hp.less (get12.trans hf1) (by omega) (by omega))))]; rfl, rfl⟩
                              | exact ⟨[], .tup [.v _, .sl none 1 [], .v _], rfl, ⟨rfl, trivial, rfl, trivial⟩, by rw [nextB_junk (cs_no hcase (.inl (by assumption)))]; rfl, rfl⟩
                              | exact ⟨[], .tup [.v _, .sl none 1 [], .v _], rfl, ⟨rfl, trivial, rfl, trivial⟩, by rw [nextB_junk (cs_no hcase (.inr (by assumption)))]; rfl, rfl⟩
                              | exact ⟨[], .tup [.v _, .sl none 1 _, .v _], rfl, ⟨rfl, ⟨rfl, rfl⟩, rfl, trivial⟩, by rw [nextB_frame (cs_yes hcase (by assumption) (by assumption))], rfl⟩
                              | skip)
                          · first | exact Bool.noConfusion c91 | (
                              try simp only [dD] at c91
                              refine AWP.skip ?_
                              refine hK25 _ ?_; clear hK25 K25
                              refine AWP.seqk fun K28 hK28 => ?_
                              have hf1 : bs[12 + j]? = some 1 := by rw [hb]; exact congrArg some (is1 c91)
                              have hlt := get_lt hf1
                              have w1 : IntKind.i64.wrap (((12 + j : Nat) : Int) + 1) = ((12 + j + 1 : Nat) : Int) := wrapA (a := 12 + j) (b := 1) (by omega)
                              have w2 := wrapA (a := 12 + j + 1) (b := decVal 0 ((bs.drop 12).take j)) (by omega)
                              have w3 : IntKind.i64.wrap (((12 + j + 1 + decVal 0 ((bs.drop 12).take j) : Nat) : Int) + 7) = ((12 + j + 1 + decVal 0 ((bs.drop 12).take j) + 7 : Nat) : Int) := wrapA (a := 12 + j + 1 + decVal 0 ((bs.drop 12).take j)) (b := 7) (by omega)
                              refine AWP.region ?_
                              simp only [go_sem, List.drop_zero, w1, w2, w3] -- region 21
                              repeat' (first | (refine AGet.haveM (by assumption) ?_; (try simp only [go_sem, List.drop_zero, w1, w2, w3])) | (refine AGet.have' (by assumption) ?_; (try simp only [go_sem, List.drop_zero, w1, w2, w3])) | ((first | refine AGet.nth ?_ (fun b hb => ?_) | refine AGet.nth1 ?_ (fun b hb => ?_) | with_reducible refine And.intro ?_ ?_); (focus ((first | omega | exact List.length_pos_iff.2 (by assumption) | (simp only [List.length_append, List.length_cons, List.length_nil, List.length_map, List.length_take, List.length_drop] at *; omega) | (rw [wrap64_id (by omega) (by omega)]; omega) | (simp; done)))); (try simp only [hb, go_sem, List.drop_zero, w1, w2, w3])))
                              refine hK28 _ ?_; clear hK28 K28
                              refine AWP.seqk fun K29 hK29 => ?_
                              refine AWP.seqk fun K30 hK30 => ?_
                              refine AWP.region ?_
                              simp only [go_sem, List.drop_zero] -- region 22
                              repeat' (first | (refine AGet.haveM (by assumption) ?_; (try simp only [go_sem, List.drop_zero])) | (refine AGet.have' (by assumption) ?_; (try simp only [go_sem, List.drop_zero])) | ((first | refine AGet.nth ?_ (fun b hb => ?_) | refine AGet.nth1 ?_ (fun b hb => ?_) | with_reducible refine And.intro ?_ ?_); (focus ((first | omega | exact List.length_pos_iff.2 (by assumption) | (simp only [List.length_append, List.length_cons, List.length_nil, List.length_map, List.length_take, List.length_drop] at *; omega) | (rw [wrap64_id (by omega) (by omega)]; omega) | (simp; done)))); (try simp only [hb, go_sem, List.drop_zero])))
                              refine hK30 _ ?_; clear hK30 K30
                              refine AWP.cond rfl (fun c101 => ?_) (fun c101 => ?_)
                              · first | exact Bool.noConfusion c101 | (
                                  try simp only [dD] at c101
                                  refine AWP.seqk fun K31 hK31 => ?_
                                  refine AWP.region ?_
                                  simp only [go_sem, List.drop_zero] -- region 23
                                  repeat' (first | (refine AGet.haveM (by assumption) ?_; (try simp only [go_sem, List.drop_zero])) | (refine AGet.have' (by assumption) ?_; (try simp only [go_sem, List.drop_zero])) | ((first | refine AGet.nth ?_ (fun b hb => ?_) | refine AGet.nth1 ?_ (fun b hb => ?_) | with_reducible refine And.intro ?_ ?_); (focus ((first | omega | exact List.length_pos_iff.2 (by assumption) | (simp only [List.length_append, List.length_cons, List.length_nil, List.length_map, List.length_take, List.length_drop] at *; omega) | (rw [wrap64_id (by omega) (by omega)]; omega) | (simp; done)))); (try simp only [hb, go_sem, List.drop_zero])))
                                  refine hK31 _ ?_; clear hK31 K31
                                  refine AWP.ret ?_
                                  try simp only [go_sem]
                                  clear hK29 K29
                                  first
                                  | exact ⟨[], .tup [.v _, .sl none 1 [], .v _], rfl, ⟨rfl, trivial, rfl, trivial⟩, by rw [(by exact List.eq_nil_of_length_eq_zero (by omega) : bs = []), nextB_need kF_nil]; rfl, rfl⟩
                                  | exact ⟨[], .tup [.v _, .sl none 1 [], .v _], rfl, ⟨rfl, trivial, rfl, trivial⟩, by rw [nextB_junk (kF_nob (by assumption))]; rfl, rfl⟩
                                  | exact ⟨[], .tup [.v _, .sl none 1 [], .v _], rfl, ⟨rfl, trivial, rfl, trivial⟩, by rw [nextB_need (kF_hn (headF_sh (by assumption) (by omega)))]; rfl, rfl⟩
                                  | exact ⟨[], .tup [.v _, .sl none 1 [], .v _], rfl, ⟨rfl, trivial, rfl, trivial⟩, by rw [nextB_junk (kF_hj (hR.trans (hr.bad (by assumption) hb (.inl (by assumption)))))]; rfl, rfl⟩
                                  | exact ⟨[], .tup [.v _, .sl none 1 [], .v _], rfl, ⟨rfl, trivial, rfl, trivial⟩, by rw [nextB_junk (kF_hj (hR.trans (hr.bad (by assumption) hb (.inr (by assumption)))))]; rfl, rfl⟩
                                  | exact ⟨[], .tup [.v _, .sl none 1 [], .v _], rfl, ⟨rfl, trivial, rfl, trivial⟩, by rw [nextB_need (kF_hn (hR.trans (hp.atEnd (by omega))))]; rfl, rfl⟩
                                  | exact ⟨[], .tup [.v _, .sl none 1 [], .v _], rfl, ⟨rfl, trivial, rfl, trivial⟩, by rw [nextB_junk (kF_hj (hR.trans (hr.no0 hp (by assumption) (by assumption))))]; rfl, rfl⟩
                                  | exact ⟨[], .tup [.v _, .sl none 1 [], .v _], rfl, ⟨rfl, trivial, rfl, trivial⟩, by rw [nextB_junk (kF_hj (hR.trans (hr.no hp (by assumption) hb (by assumption))))]; rfl, rfl⟩
                                  | exact ⟨[], .tup [.v _, .sl none 1 [], .v _], rfl, ⟨rfl, trivial, rfl, trivial⟩, by rw [nextB_need (kF_hn (hR.trans (hp.less (get12.trans hf1) (by omega) (by omega))))]; rfl, rfl⟩
                                  | exact ⟨[], .tup [.v _, .sl none 1 [], .v _], rfl, ⟨rfl, trivial, rfl, trivial⟩, by rw [nextB_junk (cs_no hcase (.inl (by assumption)))]; rfl, rfl⟩
                                  | exact ⟨[], .tup [.v _, .sl none 1 [], .v _], rfl, ⟨rfl, trivial, rfl, trivial⟩, by rw [nextB_junk (cs_no hcase (.inr (by assumption)))]; rfl, rfl⟩
                                  | exact ⟨[], .tup [.v _, .sl none 1 _, .v _], rfl, ⟨rfl, ⟨rfl, rfl⟩, rfl, trivial⟩, by rw [nextB_frame (cs_yes hcase (by assumption) (by assumption))], rfl⟩
                                  | skip)
                              · first | exact Bool.noConfusion c101 | (
                                  try simp only [dD] at c101
                                  refine AWP.skip ?_
                                  refine hK29 _ ?_; clear hK29 K29
                                  refine AWP.seqk fun K32 hK32 => ?_
                                  have hf := hR.trans (hp.full (get12.trans hf1) (by omega) (by omega))
                                  obtain ⟨hsl, hbl, hn8, hcase⟩ := kF_put hf
                                  rw [show 13 + j = 12 + j + 1 by omega] at hsl hbl hcase
                                  refine AWP.region ?_
                                  simp only [go_sem, List.drop_zero, w1, w2, piece2] -- region 24
                                  repeat' (first | (refine ACall.of (r3put_c _) (by kernel_rfl) rfl ?_; rintro r t ⟨rfl, rfl⟩ <;> simp only [go_sem, List.drop_zero, w1, w2, piece2]) | (refine AGet.haveM (by assumption) ?_; (try simp only [go_sem, List.drop_zero, w1, w2, piece2])) | (refine AGet.have' (by assumption) ?_; (try simp only [go_sem, List.drop_zero, w1, w2, piece2])) | ((first | refine AGet.nth ?_ (fun b hb => ?_) | refine AGet.nth1 ?_ (fun b hb => ?_) | with_reducible refine And.intro ?_ ?_); (focus ((first | omega | exact List.length_pos_iff.2 (by assumption) | (simp only [List.length_append, List.length_cons, List.length_nil, List.length_map, List.length_take, List.length_drop] at *; omega) | (rw [wrap64_id (by omega) (by omega)]; omega) | (simp; done)))); (try simp only [hb, go_sem, List.drop_zero, w1, w2, piece2])))
                                  refine hK32 _ ?_; clear hK32 K32
                                  refine AWP.seqk fun K33 hK33 => ?_
                                  refine AWP.seqk fun K34 hK34 => ?_
                                  refine AWP.regionAs [0, 1, 2, 3, 4, 5, 6, 7, 8, 9, 10] [[], [0], [0, 1], [0, 1, 2], [0, 1, 2, 3], [0, 1, 2], [0, 1, 2], [0, 1, 2, 5, 6], [0, 1, 2, 5, 6, 7], [0, 1, 2, 3, 4, 5, 6, 7, 8], [0, 1, 2, 3, 4, 5, 6, 7, 8, 9]] [] (by kernel_rfl) (by kernel_rfl) (by decide) rfl ?_
                                  simp only [go_sem, List.drop_zero] -- region 25
                                  repeat' (first | (refine AGuard.splitN (fun h => ?_) (fun h => ?_) <;> simp only [h, go_sem, List.drop_zero] <;> try simp only [dD] at h) | (refine AGuard.split (fun h => ?_) (fun h => ?_) <;> simp only [h, go_sem, List.drop_zero] <;> try simp only [dD] at h) | (refine AGet.haveM (by assumption) ?_; (try simp only [go_sem, List.drop_zero])) | (refine AGet.have' (by assumption) ?_; (try simp only [go_sem, List.drop_zero])) | ((first | refine AGet.nth ?_ (fun b hb => ?_) | refine AGet.nth1 ?_ (fun b hb => ?_) | with_reducible refine And.intro ?_ ?_); (focus ((first | omega | exact List.length_pos_iff.2 (by assumption) | (simp only [List.length_append, List.length_cons, List.length_nil, List.length_map, List.length_take, List.length_drop] at *; omega) | (rw [wrap64_id (by omega) (by omega)]; omega) | (simp; done)))); (try simp only [hb, go_sem, List.drop_zero])))
                                  all_goals (
                                    refine hK34 _ ?_; clear hK34 K34
                                    refine AWP.cond rfl (fun c124 => ?_) (fun c124 => ?_)
                                    · first | exact Bool.noConfusion c124 | (
                                        try simp only [dD] at c124
                                        refine AWP.seqk fun K35 hK35 => ?_
                                        refine AWP.region ?_
                                        simp only [go_sem, List.drop_zero] -- region 26
                                        repeat' (first | (refine AGet.haveM (by assumption) ?_; (try simp only [go_sem, List.drop_zero])) | (refine AGet.have' (by assumption) ?_; (try simp only [go_sem, List.drop_zero])) | ((first | refine AGet.nth ?_ (fun b hb => ?_) | refine AGet.nth1 ?_ (fun b hb => ?_) | with_reducible refine And.intro ?_ ?_); (focus ((first | omega | exact List.length_pos_iff.2 (by assumption) | (simp only [List.length_append, List.length_cons, List.length_nil, List.length_map, List.length_take, List.length_drop] at *; omega) | (rw [wrap64_id (by omega) (by omega)]; omega) | (simp; done)))); (try simp only [hb, go_sem, List.drop_zero])))
                                        refine hK35 _ ?_; clear hK35 K35
                                        refine AWP.ret ?_
                                        try simp only [go_sem]
                                        clear hK33 K33
                                        first
                                        | exact ⟨[], .tup [.v _, .sl none 1 [], .v _], rfl, ⟨rfl, trivial, rfl, trivial⟩, by rw [(by exact List.eq_nil_of_length_eq_zero (by omega) : bs = []), nextB_need kF_nil]; rfl, rfl⟩
                                        | exact ⟨[], .tup [.v _, .sl none 1 [], .v _], rfl, ⟨rfl, trivial, rfl, trivial⟩, by rw [nextB_junk (kF_nob (by assumption))]; rfl, rfl⟩
                                        | exact ⟨[], .tup [.v _, .sl none 1 [], .v _], rfl, ⟨rfl, trivial, rfl, trivial⟩, by rw [nextB_need (kF_hn (headF_sh (by assumption) (by omega)))]; rfl, rfl⟩
                                        | exact ⟨[], .tup [.v _, .sl none 1 [], .v _], rfl, ⟨rfl, trivial, rfl, trivial⟩, by rw [nextB_junk (kF_hj (hR.trans (hr.bad (by assumption) hb (.inl (by assumption)))))]; rfl, rfl⟩
                                        | exact ⟨[], .tup [.v _, .sl none 1 [], .v _], rfl, ⟨rfl, trivial, rfl, trivial⟩, by rw [nextB_junk (kF_hj (hR.trans (hr.bad (by assumption) hb (.inr (by assumption)))))]; rfl, rfl⟩
                                        | exact ⟨[], .tup [.v _, .sl none 1 [], .v _], rfl, ⟨rfl, trivial, rfl, trivial⟩, by rw [nextB_need (kF_hn (hR.trans (hp.atEnd (by omega))))]; rfl, rfl⟩
                                        | exact ⟨[], .tup [.v _, .sl none 1 [], .v _], rfl, ⟨rfl, trivial, rfl, trivial⟩, by rw [nextB_junk (kF_hj (hR.trans (hr.no0 hp (by assumption) (by assumption))))]; rfl, rfl⟩
                                        | exact ⟨[], .tup [.v _, .sl none 1 [], .v _], rfl, ⟨rfl, trivial, rfl, trivial⟩, by rw [nextB_junk (kF_hj (hR.trans (hr.no hp (by assumption) hb (by assumption))))]; rfl, rfl⟩
                                        | exact ⟨[], .tup [.v _, .sl none 1 [], .v _], rfl, ⟨rfl, trivial, rfl, trivial⟩, by rw [nextB_need (kF_hn (hR.trans (hp.less (get12.trans hf1) (by omega) (by omega))))]; rfl, rfl⟩
                                        | exact ⟨[], .tup [.v _, .sl none 1 [], .v _], rfl, ⟨rfl, trivial, rfl, trivial⟩, by rw [nextB_junk (cs_no hcase (.inl (by assumption)))]; rfl, rfl⟩
                                        | exact ⟨[], .tup [.v _, .sl none 1 [], .v _], rfl, ⟨rfl, trivial, rfl, trivial⟩, by rw [nextB_junk (cs_no hcase (.inr (by assumption)))]; rfl, rfl⟩
                                        | exact ⟨[], .tup [.v _, .sl none 1 _, .v _], rfl, ⟨rfl, ⟨rfl, rfl⟩, rfl, trivial⟩, by rw [nextB_frame (cs_yes hcase (by assumption) (by assumption))], rfl⟩
                                        | skip)
                                    · first | exact Bool.noConfusion c124 | (
                                        try simp only [dD] at c124
                                        refine AWP.skip ?_
                                        refine hK33 _ ?_; clear hK33 K33
                                        refine AWP.seqk fun K36 hK36 => ?_
                                        refine AWP.regionAs [0, 1, 2, 3, 4, 5, 6, 7, 8, 9, 10, 11] [[], [], [1], [], [3], [], [3, 4, 5], [0, 1, 2, 3, 4, 5, 6], [], [], [0, 1, 2, 3, 4, 5, 6, 7, 9], [0, 1, 2, 3, 4, 5, 6, 7, 8, 9, 10]] [] (by kernel_rfl) (by kernel_rfl) (by decide) rfl ?_
                                        simp only [go_sem, List.drop_zero, w1, w2, piece2] -- region 27
                                        repeat' (first | (refine AGet.haveM (by assumption) ?_; (try simp only [go_sem, List.drop_zero, w1, w2, piece2])) | (refine AGet.have' (by assumption) ?_; (try simp only [go_sem, List.drop_zero, w1, w2, piece2])) | ((first | refine AGet.nth ?_ (fun b hb => ?_) | refine AGet.nth1 ?_ (fun b hb => ?_) | with_reducible refine And.intro ?_ ?_); (focus ((first | omega | exact List.length_pos_iff.2 (by assumption) | (simp only [List.length_append, List.length_cons, List.length_nil, List.length_map, List.length_take, List.length_drop] at *; omega) | (rw [wrap64_id (by omega) (by omega)]; omega) | (simp; done)))); (try simp only [hb, go_sem, List.drop_zero, w1, w2, piece2])))
                                        refine hK36 _ ?_; clear hK36 K36
                                        refine AWP.ret ?_
                                        try simp only [go_sem]
                                        first
                                        | exact ⟨[], .tup [.v _, .sl none 1 [], .v _], rfl, ⟨rfl, trivial, rfl, trivial⟩, by rw [(by exact List.eq_nil_of_length_eq_zero (by omega) : bs = []), nextB_need kF_nil]; rfl, rfl⟩
                                        | exact ⟨[], .tup [.v _, .sl none 1 [], .v _], rfl, ⟨rfl, trivial, rfl, trivial⟩, by rw [nextB_junk (kF_nob (by assumption))]; rfl, rfl⟩
                                        | exact ⟨[], .tup [.v _, .sl none 1 [], .v _], rfl, ⟨rfl, trivial, rfl, trivial⟩, by rw [nextB_need (kF_hn (headF_sh (by assumption) (by omega)))]; rfl, rfl⟩
                                        | exact ⟨[], .tup [.v _, .sl none 1 [], .v _], rfl, ⟨rfl, trivial, rfl, trivial⟩, by rw [nextB_junk (kF_hj (hR.trans (hr.bad (by assumption) hb (.inl (by assumption)))))]; rfl, rfl⟩
                                        | exact ⟨[], .tup [.v _, .sl none 1 [], .v _], rfl, ⟨rfl, trivial, rfl, trivial⟩, by rw [nextB_junk (kF_hj (hR.trans (hr.bad (by assumption) hb (.inr (by assumption)))))]; rfl, rfl⟩
                                        | exact ⟨[], .tup [.v _, .sl none 1 [], .v _], rfl, ⟨rfl, trivial, rfl, trivial⟩, by rw [nextB_need (kF_hn (hR.trans (hp.atEnd (by omega))))]; rfl, rfl⟩
                                        | exact ⟨[], .tup [.v _, .sl none 1 [], .v _], rfl, ⟨rfl, trivial, rfl, trivial⟩, by rw [nextB_junk (kF_hj (hR.trans (hr.no0 hp (by assumption) (by assumption))))]; rfl, rfl⟩
                                        | exact ⟨[], .tup [.v _, .sl none 1 [], .v _], rfl, ⟨rfl, trivial, rfl, trivial⟩, by rw [nextB_junk (kF_hj (hR.trans (hr.no hp (by assumption) hb (by assumption))))]; rfl, rfl⟩
                                        | exact ⟨[], .tup [.v _, .sl none 1 [], .v _], rfl, ⟨rfl, trivial, rfl, trivial⟩, by rw [nextB_need (kF_hn (hR.trans (hp.less (get12.trans hf1) (by omega) (by omega))))]; rfl, rfl⟩
                                        | exact ⟨[], .tup [.v _, .sl none 1 [], .v _], rfl, ⟨rfl, trivial, rfl, trivial⟩, by rw [nextB_junk (cs_no hcase (.inl (by assumption)))]; rfl, rfl⟩
                                        | exact ⟨[], .tup [.v _, .sl none 1 [], .v _], rfl, ⟨rfl, trivial, rfl, trivial⟩, by rw [nextB_junk (cs_no hcase (.inr (by assumption)))]; rfl, rfl⟩
                                        | exact ⟨[], .tup [.v _, .sl none 1 _, .v _], rfl, ⟨rfl, ⟨rfl, rfl⟩, rfl, trivial⟩, by rw [nextB_frame (cs_yes hcase (by assumption) (by assumption))], rfl⟩
                                        | skip)))))))))))


end Go.Proofs.YtgiomlgkccjhfaaDoor
