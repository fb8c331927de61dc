import Derived.Test.YtlhdnenlgceeeaaN10
import Derived.Test.YtlhdnenlgceeeaaN1b
import Derived.Test.YtlhdnenlgceeeaaPl
set_option linter.unusedVariables false
set_option linter.unusedSimpArgs false
namespace Go.Proofs.Ytlhdnenlgceeeaa
open Go Go.Abs Go.RowKit Go.Bk

abbrev bkV (b : Bk) : AV := .agg [odsV b.orders, dnsV b.fills, .sl none 1 (b.ids.map str), i64 b.clock, i64 b.bad]
abbrev exsV (l : List Ex) : AV := .sl none 10 (l.map exV)
def Inv (l : List Ex) (i : Nat) (b : Bk) : Prop := i ≤ l.length ∧ b = (l.take i).foldl stepF emptyB ∧ Timed b ∧ b.orders.length ≤ i ∧ b.fills.length ≤ i ∧ b.ids.length ≤ i
theorem inv_zero (l : List Ex) : Inv l 0 emptyB := ⟨Nat.zero_le _, rfl, fun f hf => by simp [emptyB] at hf, Nat.le_refl _, Nat.le_refl _, Nat.le_refl _⟩
theorem stepF_yes {b : Bk} {x : Ex} (h : execB x = true) : stepF b x = (takeF b x).1 := if_pos h
theorem stepF_no {b : Bk} {x : Ex} (h : execB x = false) : stepF b x = b := if_neg (by simp [h])
theorem inv_yes {l : List Ex} {i : Nat} {b b2 : Bk} {x : Ex} {e : Int} (h : Inv l i b) (hb : l[i]? = some x) (hx : execB x = true) (h2 : takeF b x = (b2, e)) : Inv l (i + 1) b2 := by
  obtain ⟨h1, rfl, h3, h4, h5, h6⟩ := h
  have hg := takeF_grows ((l.take i).foldl stepF emptyB) x
  have ht := takeF_timed h3 (exec_qty hx).2
  rw [h2] at hg ht
  dsimp only at hg ht
  refine ⟨get_lt hb, ?_, ht, by omega, by omega, by omega⟩
  rw [fold_next hb, stepF_yes hx, h2]
theorem inv_no {l : List Ex} {i : Nat} {b : Bk} {x : Ex} (h : Inv l i b) (hb : l[i]? = some x) (hx : execB x = false) : Inv l (i + 1) b := by
  obtain ⟨h1, rfl, h3, h4, h5, h6⟩ := h
  refine ⟨get_lt hb, ?_, h3, by omega, by omega, by omega⟩
  rw [fold_next hb, stepF_no hx]
theorem inv_end {l : List Ex} {i : Nat} {b : Bk} (h : Inv l i b) (hi : l.length ≤ i) : allF l = b := by
  obtain ⟨h1, rfl, _⟩ := h
  rw [List.take_of_length_le hi]; rfl
theorem own_bel0 {b : Bk} {m : Nat} : belO 3 1 [Z0, some [bookV b m], some (rowV b m)] = true := own_bel 3 (by decide) rfl
theorem obl {X : List AV} {no nt : Nat} (h : (X.all fun e => e.leaves.all (AV.bel no nt)) = true) : ∀ es, some X = some es → ∀ e ∈ es, ∀ z ∈ e.leaves, z.bel no nt = true := by
  intro es he e h1 z hz
  rw [Option.some.injEq] at he; subst he
  exact List.all_eq_true.1 (List.all_eq_true.1 h e h1) z hz
theorem row_take (b : Bk) (m : Nat) : (rowV b m).take b.fills.length = b.fills.map dnV := dn_take _

set_option maxHeartbeats 8000000 in
set_option maxRecDepth 8000 in
theorem ball_c (l : List Ex) (hl : l.length ≤ 100000) : ACalls E 17 [exsV l] (fun r t => r = bkV (allF l) ∧ t = []) := by -- checkroll/book.All
  refine ACalls.of_awp (n := 18) (rs := [.cell 2 32]) Try.func17 rfl Try.ntmps17 rfl ?_
  refine AWP.seqk fun K1 hK1 => ?_
  refine AWP.region ?_
  simp only [go_sem] -- region 0
  repeat' (first | (refine AGet.haveM (by assumption) ?_; (try simp only [go_sem])) | (refine AGet.have' (by assumption) ?_; (try simp only [go_sem])) | ((first | refine AGet.nth ?_ (fun b hb => ?_) | refine AGet.nth1 ?_ (fun b hb => ?_) | with_reducible refine And.intro ?_ ?_); (focus ((first | omega | exact List.length_pos_iff.2 (by assumption) | (simp only [List.length_append, List.length_cons, List.length_nil, List.length_map, List.length_take, List.length_drop] at *; omega) | (rw [wrap64_id (by omega) (by omega)]; omega) | (simp; done)))); (try simp only [hb, go_sem])))
  refine hK1 _ ?_; clear hK1 K1
  refine AWP.seqk fun K2 hK2 => ?_
  refine AWP.region ?_
  simp only [go_sem] -- region 1
  repeat' (first | (refine AGet.haveM (by assumption) ?_; (try simp only [go_sem])) | (refine AGet.have' (by assumption) ?_; (try simp only [go_sem])) | ((first | refine AGet.nth ?_ (fun b hb => ?_) | refine AGet.nth1 ?_ (fun b hb => ?_) | with_reducible refine And.intro ?_ ?_); (focus ((first | omega | exact List.length_pos_iff.2 (by assumption) | (simp only [List.length_append, List.length_cons, List.length_nil, List.length_map, List.length_take, List.length_drop] at *; omega) | (rw [wrap64_id (by omega) (by omega)]; omega) | (simp; done)))); (try simp only [hb, go_sem])))
  refine hK2 _ ?_; clear hK2 K2
  refine AWP.seqk fun K3 hK3 => ?_
  refine AWP.seqk fun K4 hK4 => ?_
  refine AWP.region ?_
  simp only [go_sem] -- region 2
  repeat' (first | (refine AGet.haveM (by assumption) ?_; (try simp only [go_sem])) | (refine AGet.have' (by assumption) ?_; (try simp only [go_sem])) | ((first | refine AGet.nth ?_ (fun b hb => ?_) | refine AGet.nth1 ?_ (fun b hb => ?_) | with_reducible refine And.intro ?_ ?_); (focus ((first | omega | exact List.length_pos_iff.2 (by assumption) | (simp only [List.length_append, List.length_cons, List.length_nil, List.length_map, List.length_take, List.length_drop] at *; omega) | (rw [wrap64_id (by omega) (by omega)]; omega) | (simp; done)))); (try simp only [hb, go_sem])))
  refine hK4 _ ?_; clear hK4 K4
  refine AWP.block ?_ -- 0
  refine AWP.nilPlainLeaf 1 0 8 _ rfl rfl ?_
  refine AWP.nilOwn 1 1 9 _ rfl rfl ?_
  refine AWP.nilTokLeaf 1 2 1 _ rfl rfl ?_
  simp only [go_sem]
  refine AWP.loopO (ι := Nat × Bk × Nat) [5, 9, 10, 11, 12, 13, 14, 15, 16] (fun ⟨i, k, m⟩ => [(8, i64 i)]) (fun ⟨i, k, m⟩ => [Z0, some [bookV k m], some (rowV k m)]) (fun ⟨i, k, m⟩ => [k.ids.length]) (fun ⟨i, k, m⟩ => Inv l i k) (fun ⟨i, k, m⟩ => l.length - i) ((0, emptyB, 0)) ?_ ?_ ?_
  · (try simp only [go_sem]); (repeat' (first | refine And.intro ?_ ?_ | exact .inr (obl rfl) | exact .inr ⟨rfl, obl rfl⟩ | exact .inr ⟨rfl, obl (row_bel _ _ _ _)⟩ | exact .inr (obl (row_bel _ _ _ _)) | exact .inr rfl | trivial | rfl | (simp; done)))
  · exact inv_zero l
  rintro ⟨i, k, m⟩ hI
  simp only [go_sem]
  refine AWP.seqk fun K5 hK5 => ?_
  have hI : Inv l i k := hI
  have hib := hI.1
  refine AWP.region ?_
  simp only [go_sem] -- region 3
  repeat' (first | (refine AGet.haveM (by assumption) ?_; (try simp only [go_sem])) | (refine AGet.have' (by assumption) ?_; (try simp only [go_sem])) | ((first | refine AGet.nth ?_ (fun b hb => ?_) | refine AGet.nth1 ?_ (fun b hb => ?_) | with_reducible refine And.intro ?_ ?_); (focus ((first | omega | exact List.length_pos_iff.2 (by assumption) | (simp only [List.length_append, List.length_cons, List.length_nil, List.length_map, List.length_take, List.length_drop] at *; omega) | (rw [wrap64_id (by omega) (by omega)]; omega) | (simp; done)))); (try simp only [hb, go_sem])))
  refine hK5 _ ?_; clear hK5 K5
  refine AWP.seqk fun K6 hK6 => ?_
  refine AWP.cond rfl (fun c9 => ?_) (fun c9 => ?_)
  · first | exact Bool.noConfusion c9 | (
      try simp only [dD] at c9
      refine AWP.skip ?_
      refine hK6 _ ?_; clear hK6 K6
      refine AWP.seqk fun K7 hK7 => ?_
      refine AWP.block ?_ -- 1
      refine AWP.seqk fun K8 hK8 => ?_
      refine AWP.region ?_
      simp only [go_sem] -- region 4
      repeat' (first | (refine AGet.haveM (by assumption) ?_; (try simp only [go_sem])) | (refine AGet.have' (by assumption) ?_; (try simp only [go_sem])) | ((first | refine AGet.nth ?_ (fun b hb => ?_) | refine AGet.nth1 ?_ (fun b hb => ?_) | with_reducible refine And.intro ?_ ?_); (focus ((first | omega | exact List.length_pos_iff.2 (by assumption) | (simp only [List.length_append, List.length_cons, List.length_nil, List.length_map, List.length_take, List.length_drop] at *; omega) | (rw [wrap64_id (by omega) (by omega)]; omega) | (simp; done)))); (try simp only [hb, go_sem])))
      refine hK8 _ ?_; clear hK8 K8
      refine AWP.seqk fun K9 hK9 => ?_
      refine AWP.region ?_
      simp only [go_sem] -- region 5
      repeat' (first | (refine ACall.one (mexec_c _) (by kernel_rfl) rfl ?_; simp only [go_sem]) | (refine AGet.haveM (by assumption) ?_; (try simp only [go_sem])) | (refine AGet.have' (by assumption) ?_; (try simp only [go_sem])) | ((first | refine AGet.nth ?_ (fun b hb => ?_) | refine AGet.nth1 ?_ (fun b hb => ?_) | with_reducible refine And.intro ?_ ?_); (focus ((first | omega | exact List.length_pos_iff.2 (by assumption) | (simp only [List.length_append, List.length_cons, List.length_nil, List.length_map, List.length_take, List.length_drop] at *; omega) | (rw [wrap64_id (by omega) (by omega)]; omega) | (simp; done)))); (try simp only [hb, go_sem])))
      refine hK9 _ ?_; clear hK9 K9
      refine AWP.cond rfl (fun c13 => ?_) (fun c13 => ?_)
      · first | exact Bool.noConfusion c13 | (
          try simp only [dD] at c13
          refine AWP.regionL ?_
          refine AWPL.app (l1 := [_]) (l2 := _ :: _) ?_
          simp only [go_sem]
          refine take_call (b := k) (x := b) (m := m) rfl rfl (by assumption) hI.2.2.1 (by have := hI.2.2.2.2.2; omega) (by have := hI.2.2.2.1; omega) (by have := hI.2.2.2.2.1; omega) (kpL_app (n := 0) (by decide) rfl rfl) ?_
          intro b2 e2 m2 hb2
          refine AWPL.of ?_
          simp only [go_sem]
          refine hK7 _ ?_; clear hK7 K7
          refine AWP.region ?_
          simp only [go_sem] -- region 7
          repeat' (first | (refine AGet.haveM (by assumption) ?_; (try simp only [go_sem])) | (refine AGet.have' (by assumption) ?_; (try simp only [go_sem])) | ((first | refine AGet.nth ?_ (fun b hb => ?_) | refine AGet.nth1 ?_ (fun b hb => ?_) | with_reducible refine And.intro ?_ ?_); (focus ((first | omega | exact List.length_pos_iff.2 (by assumption) | (simp only [List.length_append, List.length_cons, List.length_nil, List.length_map, List.length_take, List.length_drop] at *; omega) | (rw [wrap64_id (by omega) (by omega)]; omega) | (simp; done)))); (try simp only [hb, go_sem])))
          clear hK3 K3
          first
          | (refine ⟨(i + 1, b2, m2), ?_, inv_yes hI hb (by assumption) hb2, (by have := get_lt hb; show l.length - (i + 1) < l.length - i; omega)⟩
             rw [wrap64_id (by omega) (by omega)]
             (repeat' (first | refine And.intro ?_ ?_ | exact .inr (obl rfl) | exact .inr ⟨rfl, obl rfl⟩ | exact .inr ⟨rfl, obl (row_bel _ _ _ _)⟩ | exact .inr (obl (row_bel _ _ _ _)) | exact .inr rfl | trivial | rfl | (simp; done))))
          | (refine ⟨(i + 1, k, m), ?_, inv_no hI hb (by assumption), (by have := get_lt hb; show l.length - (i + 1) < l.length - i; omega)⟩
             rw [wrap64_id (by omega) (by omega)]
             (repeat' (first | refine And.intro ?_ ?_ | exact .inr (obl rfl) | exact .inr ⟨rfl, obl rfl⟩ | exact .inr ⟨rfl, obl (row_bel _ _ _ _)⟩ | exact .inr (obl (row_bel _ _ _ _)) | exact .inr rfl | trivial | rfl | (simp; done))))
          | skip)
      · first | exact Bool.noConfusion c13 | (
          try simp only [dD] at c13
          refine AWP.skip ?_
          refine hK7 _ ?_; clear hK7 K7
          refine AWP.region ?_
          simp only [go_sem] -- region 7
          repeat' (first | (refine AGet.haveM (by assumption) ?_; (try simp only [go_sem])) | (refine AGet.have' (by assumption) ?_; (try simp only [go_sem])) | ((first | refine AGet.nth ?_ (fun b hb => ?_) | refine AGet.nth1 ?_ (fun b hb => ?_) | with_reducible refine And.intro ?_ ?_); (focus ((first | omega | exact List.length_pos_iff.2 (by assumption) | (simp only [List.length_append, List.length_cons, List.length_nil, List.length_map, List.length_take, List.length_drop] at *; omega) | (rw [wrap64_id (by omega) (by omega)]; omega) | (simp; done)))); (try simp only [hb, go_sem])))
          clear hK3 K3
          first
          | (refine ⟨(i + 1, b2, m2), ?_, inv_yes hI hb (by assumption) hb2, (by have := get_lt hb; show l.length - (i + 1) < l.length - i; omega)⟩
             rw [wrap64_id (by omega) (by omega)]
             (repeat' (first | refine And.intro ?_ ?_ | exact .inr (obl rfl) | exact .inr ⟨rfl, obl rfl⟩ | exact .inr ⟨rfl, obl (row_bel _ _ _ _)⟩ | exact .inr (obl (row_bel _ _ _ _)) | exact .inr rfl | trivial | rfl | (simp; done))))
          | (refine ⟨(i + 1, k, m), ?_, inv_no hI hb (by assumption), (by have := get_lt hb; show l.length - (i + 1) < l.length - i; omega)⟩
             rw [wrap64_id (by omega) (by omega)]
             (repeat' (first | refine And.intro ?_ ?_ | exact .inr (obl rfl) | exact .inr ⟨rfl, obl rfl⟩ | exact .inr ⟨rfl, obl (row_bel _ _ _ _)⟩ | exact .inr (obl (row_bel _ _ _ _)) | exact .inr rfl | trivial | rfl | (simp; done))))
          | skip))
  · first | exact Bool.noConfusion c9 | (
      try simp only [dD] at c9
      refine AWP.exit ?_
      simp only [go_sem]
      clear hK6 K6
      refine hK3 _ ?_; clear hK3 K3
      refine AWP.seqk fun K10 hK10 => ?_
      have hI : Inv l i k := hI
      refine AWP.publishLeaf 1 1 (jd := 2) (k := 9) (n := k.fills.length) (cap := k.fills.length + m) _ (rowV k m) (by decide) rfl rfl rfl (by simp [rowV]) (by rw [row_take]; exact cl_dn _) ?_
      rw [row_take]
      simp only [go_sem]
      refine AWP.region ?_
      simp only [go_sem] -- region 8
      repeat' (first | (refine AGet.haveM (by assumption) ?_; (try simp only [go_sem])) | (refine AGet.have' (by assumption) ?_; (try simp only [go_sem])) | ((first | refine AGet.nth ?_ (fun b hb => ?_) | refine AGet.nth1 ?_ (fun b hb => ?_) | with_reducible refine And.intro ?_ ?_); (focus ((first | omega | exact List.length_pos_iff.2 (by assumption) | (simp only [List.length_append, List.length_cons, List.length_nil, List.length_map, List.length_take, List.length_drop] at *; omega) | (rw [wrap64_id (by omega) (by omega)]; omega) | (simp; done)))); (try simp only [hb, go_sem])))
      refine hK10 _ ?_; clear hK10 K10
      refine AWP.ret ?_
      try simp only [go_sem]
      exact ⟨[], bkV k, rfl, ⟨⟨rfl, rfl⟩, ⟨rfl, rfl⟩, ⟨rfl, rfl⟩, rfl, rfl, trivial⟩, by rw [inv_end hI (by omega)], rfl⟩)


end Go.Proofs.Ytlhdnenlgceeeaa
