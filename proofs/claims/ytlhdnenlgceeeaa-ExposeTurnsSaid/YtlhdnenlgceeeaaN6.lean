import Derived.Test.YtlhdnenlgceeeaaN5
import Derived.Test.YtlhdnenlgceeeaaPl
set_option linter.unusedVariables false
set_option linter.unusedSimpArgs false
namespace Go.Proofs.Ytlhdnenlgceeeaa
open Go Go.Abs Go.RowKit Go.Bk

theorem cl_exb (x : Ex) : ∀ y ∈ (exV x).leaves, y.clean1 = some y := cl_ex x
/-- Names no own block but such as stay where they are. -/
def kp1 (n : Nat) : AV → Bool
  | .mu id _ _ _ _ => id != 2 && decide (id < n)
  | .ptr id _ _ => id != 2 && decide (id < n)
  | .any | .v _ | .nilS | .sl none _ _ | .rptr _ | .fn _ [] => true
  | .sl (some t) _ _ => t == 0
  | _ => false
def kp (n : Nat) : AV → Bool
  | .agg cs => cs.all (kp1 n)
  | x => kp1 n x
theorem kp1_ren {n : Nat} {σ : Nat → Option Nat} (hσ : ∀ i, i ≠ 2 → i < n → σ i = some i) {x : AV} (h : kp1 n x = true) : x.ren1 σ = x := by
  cases x <;> simp only [kp1, AV.ren1, Bool.and_eq_true, bne_iff_ne, decide_eq_true_eq] at h ⊢ <;> first | rfl | (rw [hσ _ h.1 h.2]) | (simp at h; done) | skip
  case fn f cs => cases cs <;> simp [kp1] at h ⊢
theorem kp_ren {n : Nat} {σ : Nat → Option Nat} (hσ : ∀ i, i ≠ 2 → i < n → σ i = some i) {x : AV} (h : kp n x = true) : x.ren σ = x := by
  cases x with
  | agg cs =>
    simp only [kp] at h
    simp only [AV.ren, AV.ren2]
    congr 1
    have : ∀ y ∈ cs, y.ren1 σ = y := fun y hy => kp1_ren hσ (List.all_eq_true.1 h y hy)
    exact (List.map_congr_left this).trans (List.map_id _)
  | tup cs => simp [kp, kp1] at h
  | fn f cs =>
    cases cs with
    | nil => rfl
    | cons => simp [kp, kp1] at h
  | mu id k o l c => simp only [AV.ren, AV.ren2]; exact kp1_ren hσ h
  | ptr id i o => simp only [AV.ren, AV.ren2]; exact kp1_ren hσ h
  | _ => rfl
theorem kpL_ren {n : Nat} {σ : Nat → Option Nat} (hσ : ∀ i, i ≠ 2 → i < n → σ i = some i) {l : List AV} (h : l.all (kp n) = true) : l.map (AV.ren σ) = l :=
  (List.map_congr_left (fun y hy => kp_ren hσ (List.all_eq_true.1 h y hy))).trans (List.map_id _)
theorem kp1_bel {n no nt : Nat} (h1 : n ≤ no) (h2 : 1 ≤ nt) {x : AV} (h : kp1 n x = true) : x.bel1 no nt = true := by
  cases x <;> simp only [kp1, AV.bel1, Bool.and_eq_true, bne_iff_ne, decide_eq_true_eq] at h ⊢ <;> first | omega | (simp at h; done) | skip
  case sl t k es => cases t <;> simp [kp1, AV.bel1] at h ⊢; omega
  case fn f cs => cases cs <;> simp [kp1, AV.bel1] at h ⊢
theorem kp_bel {n no nt : Nat} (h1 : n ≤ no) (h2 : 1 ≤ nt) {x : AV} (h : kp n x = true) : x.bel no nt = true := by
  cases x with
  | agg cs =>
    simp only [kp] at h
    simp only [AV.bel, AV.bel2]
    exact List.all_eq_true.2 fun y hy => kp1_bel h1 h2 (List.all_eq_true.1 h y hy)
  | tup cs => simp [kp, kp1] at h
  | fn f cs =>
    cases cs with
    | nil => rfl
    | cons => simp [kp, kp1] at h
  | sl t k es => exact kp1_bel (x := .sl t k es) h1 h2 h
  | mu id k o l c => exact kp1_bel (x := .mu id k o l c) h1 h2 h
  | ptr id i o => exact kp1_bel (x := .ptr id i o) h1 h2 h
  | _ => rfl
def cutT (no nt : Nat) (x : AV) : AV := if x.bel no nt then x else .any
theorem wkT_cut {no nt : Nat} : ∀ l : List AV, WkT no nt l (l.map (cutT no nt))
  | [] => trivial
  | x :: l => by
    refine ⟨?_, wkT_cut l⟩
    unfold cutT
    by_cases h : x.bel no nt = true
    · rw [if_pos h]; exact .inr ⟨rfl, h⟩
    · rw [if_neg h]; exact .inl rfl
def belO (no nt : Nat) (own : List (Option (List AV))) : Bool := own.all fun o => match o with | none => true | some es => es.all fun e => e.leaves.all (AV.bel no nt)
theorem wkO_bel {no nt : Nat} : ∀ {l : List (Option (List AV))}, belO no nt l = true → WkO no nt l l
  | [], _ => trivial
  | x :: l, h => by
    simp only [belO, List.all_cons, Bool.and_eq_true] at h
    refine ⟨.inr ⟨rfl, fun es hes e he z hz => ?_⟩, wkO_bel h.2⟩
    have h1 := h.1
    rw [hes] at h1
    exact List.all_eq_true.1 (List.all_eq_true.1 h1 e he) z hz
/-- Before a return: own blocks numbered anew, younger tokens forgotten. -/
theorem AWP.normW {E : Env} {c : Code} {Q : Exit → St → Prop} {tmps up : List AV} {own : List (Option (List AV))} {tk : List Nat} {gl : Nat → Option (List AV)} (sel : List Nat) (own' : List (Option (List AV))) (tk' : List Nat) (n : Nat) (hnd : sel.Nodup) (hσ : ∀ i, i ≠ 2 → i < n → selAt sel i = some i)
    (hup : up.all (kp n) = true) (hn : n ≤ own'.length) (hown : selOwn own sel = own') (hb : belO own'.length tk'.length own' = true) (htk : WkK tk tk') (h0 : 1 ≤ tk'.length)
    (hw : AWP E c Q ⟨(tmps.map (AV.ren (selAt sel))).map (cutT own'.length tk'.length), own', tk', gl, none, up⟩) : AWP E c Q ⟨tmps, own, tk, gl, none, up⟩ := by
  refine AWP.norm sel hnd rfl (kpL_ren hσ hup) ?_
  refine AWP.weaken (t := ⟨(tmps.map (AV.ren (selAt sel))).map (cutT own'.length tk'.length), own', tk', gl, none, up⟩) ⟨wkT_cut _, ?_, htk, rfl, rfl, rfl, List.all_eq_true.2 fun x hx => kp_bel hn h0 (List.all_eq_true.1 hup x hx)⟩ hw
  show WkO _ _ (selOwn own sel) own'
  rw [hown]; exact wkO_bel hb
abbrev bookV (b : Bk) (m : Nat) : AV := .agg [odsV b.orders, .mu 2 9 0 b.fills.length (b.fills.length + m), .sl (some 0) 1 (b.ids.map str), i64 b.clock, i64 b.bad]
abbrev rowV (b : Bk) (m : Nat) : List AV := b.fills.map dnV ++ spare 9 m
theorem dn_get {l : List Dn} {n : Nat} {o : Dn} (h : l[n]? = some o) (sp : List AV) : (l.map dnV ++ sp)[n]? = some (dnV o) := by
  rw [List.getElem?_append_left (by simpa using get_lt h), List.getElem?_map, h]; rfl
theorem dn_set {l : List Dn} {n : Nat} {o o' : Dn} (h : l[n]? = some o) (sp : List AV) : (l.map dnV ++ sp).set n (dnV o') = (l.set n o').map dnV ++ sp := by
  rw [List.set_append_left _ _ (by simpa using get_lt h), List.map_set]
theorem dn_ren (σ : Nat → Option Nat) (l : List Dn) (m : Nat) : (l.map dnV ++ spare 9 m).map (AV.ren σ) = l.map dnV ++ spare 9 m := by
  rw [List.map_append, List.map_map]
  congr 1
  simp [spare, AV.ren, AV.ren2, AV.ren1]
theorem row_bel (no nt : Nat) (l : List Dn) (m : Nat) : ((l.map dnV ++ spare 9 m).all fun e => e.leaves.all (AV.bel no nt)) = true := by
  rw [List.all_eq_true]
  intro e he
  rcases List.mem_append.1 he with he | he
  · obtain ⟨f, _, rfl⟩ := List.mem_map.1 he; rfl
  · simp only [spare, List.mem_replicate] at he
    rw [he.2]
    simp [AV.leaves, AV.bel, AV.bel2, AV.bel1]

set_option maxHeartbeats 4000000 in
set_option maxRecDepth 8000 in
theorem amend1_c (f : Dn) (x : Ex) : ACalls E 128 [dnV f, .rptr [str x.id, str x.ref, str x.ord, str x.acc, str x.sym, i64 x.kind, bl x.buy, i64 x.qty, i64 x.price, i64 x.time]] (fun r t => r = bl (decide (f.id = x.ref)) ∧ t = []) := by -- checkroll/book.amend$1
  refine ACalls.of_awp (n := 9) (rs := [.tmp 3]) Try.func128 rfl Try.ntmps128 rfl ?_
  refine AWP.seqk fun K1 hK1 => ?_
  refine AWP.region ?_
  simp only [go_sem] -- region 0
  repeat' (first | (refine AGet.haveM (by assumption) ?_; (try simp only [go_sem])) | (refine AGet.have' (by assumption) ?_; (try simp only [go_sem])) | ((first | refine AGet.nth ?_ (fun b hb => ?_) | refine AGet.nth1 ?_ (fun b hb => ?_) | with_reducible refine And.intro ?_ ?_); (focus ((first | omega | exact List.length_pos_iff.2 (by assumption) | (simp only [List.length_append, List.length_cons, List.length_nil, List.length_map, List.length_take, List.length_drop] at *; omega) | (rw [wrap64_id (by omega) (by omega)]; omega) | (simp; done)))); (try simp only [hb, go_sem])))
  refine hK1 _ ?_; clear hK1 K1
  refine AWP.seqk fun K2 hK2 => ?_
  refine AWP.region ?_
  simp only [go_sem] -- region 1
  repeat' (first | (refine AGet.haveM (by assumption) ?_; (try simp only [go_sem])) | (refine AGet.have' (by assumption) ?_; (try simp only [go_sem])) | ((first | refine AGet.nth ?_ (fun b hb => ?_) | refine AGet.nth1 ?_ (fun b hb => ?_) | with_reducible refine And.intro ?_ ?_); (focus ((first | omega | exact List.length_pos_iff.2 (by assumption) | (simp only [List.length_append, List.length_cons, List.length_nil, List.length_map, List.length_take, List.length_drop] at *; omega) | (rw [wrap64_id (by omega) (by omega)]; omega) | (simp; done)))); (try simp only [hb, go_sem])))
  refine hK2 _ ?_; clear hK2 K2
  refine AWP.ret ?_
  try simp only [go_sem]
  exact ⟨[], .v _, rfl, rfl, by simp_all, rfl⟩


set_option maxHeartbeats 4000000 in
set_option maxRecDepth 8000 in
theorem dindex_c (l : List Dn) (x : Ex) (hl : l.length ≤ 9223372036854775807) : ACalls E 127 [dnsV l, .fn 128 [.rptr [str x.id, str x.ref, str x.ord, str x.acc, str x.sym, i64 x.kind, bl x.buy, i64 x.qty, i64 x.price, i64 x.time]]] (fun r t => r = i64 (atI l x.ref) ∧ t = []) := by -- slices.IndexFunc[[]checkroll/api.Done,checkroll/api.Done]
  refine ACalls.of_awp (n := 19) (rs := [.tmp 4]) Try.func127 rfl Try.ntmps127 rfl ?_
  refine AWP.seqk fun K1 hK1 => ?_
  refine AWP.region ?_
  simp only [go_sem] -- region 0
  repeat' (first | (refine AGet.haveM (by assumption) ?_; (try simp only [go_sem])) | (refine AGet.have' (by assumption) ?_; (try simp only [go_sem])) | ((first | refine AGet.nth ?_ (fun b hb => ?_) | refine AGet.nth1 ?_ (fun b hb => ?_) | with_reducible refine And.intro ?_ ?_); (focus ((first | omega | exact List.length_pos_iff.2 (by assumption) | (simp only [List.length_append, List.length_cons, List.length_nil, List.length_map, List.length_take, List.length_drop] at *; omega) | (rw [wrap64_id (by omega) (by omega)]; omega) | (simp; done)))); (try simp only [hb, go_sem])))
  refine hK1 _ ?_; clear hK1 K1
  refine AWP.seqk fun K2 hK2 => ?_
  refine AWP.seqk fun K3 hK3 => ?_
  refine AWP.region ?_
  simp only [go_sem] -- region 1
  repeat' (first | (refine AGet.haveM (by assumption) ?_; (try simp only [go_sem])) | (refine AGet.have' (by assumption) ?_; (try simp only [go_sem])) | ((first | refine AGet.nth ?_ (fun b hb => ?_) | refine AGet.nth1 ?_ (fun b hb => ?_) | with_reducible refine And.intro ?_ ?_); (focus ((first | omega | exact List.length_pos_iff.2 (by assumption) | (simp only [List.length_append, List.length_cons, List.length_nil, List.length_map, List.length_take, List.length_drop] at *; omega) | (rw [wrap64_id (by omega) (by omega)]; omega) | (simp; done)))); (try simp only [hb, go_sem])))
  refine hK3 _ ?_; clear hK3 K3
  refine AWP.block ?_ -- 0
  refine AWP.loopH (ι := Nat) [4, 5, 9, 10, 11, 12, 13, 14, 15, 16, 17, 18] (fun (i : Nat) => [(8, i64 i)]) (fun (i : Nat) => i ≤ l.length ∧ (l.take i).all (fun o => !decide (o.id = x.ref)) = true) (fun (i : Nat) => l.length - i) (0) ?_ ?_ ?_
  · (try simp only [go_sem]); try (simp; done)
  · exact ⟨by omega, by simp⟩
  rintro i ⟨h1, h2⟩
  simp only [go_sem]
  refine AWP.seqk fun K4 hK4 => ?_
  refine AWP.region ?_
  simp only [go_sem] -- region 2
  repeat' (first | (refine AGet.haveM (by assumption) ?_; (try simp only [go_sem])) | (refine AGet.have' (by assumption) ?_; (try simp only [go_sem])) | ((first | refine AGet.nth ?_ (fun b hb => ?_) | refine AGet.nth1 ?_ (fun b hb => ?_) | with_reducible refine And.intro ?_ ?_); (focus ((first | omega | exact List.length_pos_iff.2 (by assumption) | (simp only [List.length_append, List.length_cons, List.length_nil, List.length_map, List.length_take, List.length_drop] at *; omega) | (rw [wrap64_id (by omega) (by omega)]; omega) | (simp; done)))); (try simp only [hb, go_sem])))
  refine hK4 _ ?_; clear hK4 K4
  refine AWP.seqk fun K5 hK5 => ?_
  refine AWP.cond rfl (fun c9 => ?_) (fun c9 => ?_)
  · first | exact Bool.noConfusion c9 | (
      try simp only [dD] at c9
      refine AWP.skip ?_
      refine hK5 _ ?_; clear hK5 K5
      refine AWP.seqk fun K6 hK6 => ?_
      refine AWP.block ?_ -- 1
      refine AWP.seqk fun K7 hK7 => ?_
      refine AWP.region ?_
      simp only [go_sem] -- region 3
      repeat' (first | (refine AGet.haveM (by assumption) ?_; (try simp only [go_sem])) | (refine AGet.have' (by assumption) ?_; (try simp only [go_sem])) | ((first | refine AGet.nth ?_ (fun b hb => ?_) | refine AGet.nth1 ?_ (fun b hb => ?_) | with_reducible refine And.intro ?_ ?_); (focus ((first | omega | exact List.length_pos_iff.2 (by assumption) | (simp only [List.length_append, List.length_cons, List.length_nil, List.length_map, List.length_take, List.length_drop] at *; omega) | (rw [wrap64_id (by omega) (by omega)]; omega) | (simp; done)))); (try simp only [hb, go_sem])))
      refine hK7 _ ?_; clear hK7 K7
      refine AWP.seqk fun K8 hK8 => ?_
      refine AWP.region ?_
      simp only [go_sem] -- region 4
      repeat' (first | (refine ACall.one (amend1_c _ _) (by kernel_rfl) rfl ?_; simp only [go_sem]) | (refine AGet.haveM (by assumption) ?_; (try simp only [go_sem])) | (refine AGet.have' (by assumption) ?_; (try simp only [go_sem])) | ((first | refine AGet.nth ?_ (fun b hb => ?_) | refine AGet.nth1 ?_ (fun b hb => ?_) | with_reducible refine And.intro ?_ ?_); (focus ((first | omega | exact List.length_pos_iff.2 (by assumption) | (simp only [List.length_append, List.length_cons, List.length_nil, List.length_map, List.length_take, List.length_drop] at *; omega) | (rw [wrap64_id (by omega) (by omega)]; omega) | (simp; done)))); (try simp only [hb, go_sem])))
      refine hK8 _ ?_; clear hK8 K8
      refine AWP.cond rfl (fun c16 => ?_) (fun c16 => ?_)
      · first | exact Bool.noConfusion c16 | (
          try simp only [dD] at c16
          refine AWP.seqk fun K9 hK9 => ?_
          refine AWP.region ?_
          simp only [go_sem] -- region 5
          repeat' (first | (refine AGet.haveM (by assumption) ?_; (try simp only [go_sem])) | (refine AGet.have' (by assumption) ?_; (try simp only [go_sem])) | ((first | refine AGet.nth ?_ (fun b hb => ?_) | refine AGet.nth1 ?_ (fun b hb => ?_) | with_reducible refine And.intro ?_ ?_); (focus ((first | omega | exact List.length_pos_iff.2 (by assumption) | (simp only [List.length_append, List.length_cons, List.length_nil, List.length_map, List.length_take, List.length_drop] at *; omega) | (rw [wrap64_id (by omega) (by omega)]; omega) | (simp; done)))); (try simp only [hb, go_sem])))
          refine hK9 _ ?_; clear hK9 K9
          refine AWP.ret ?_
          try simp only [go_sem]
          clear hK6 K6 hK2 K2
          first
          | exact ⟨[], .v _, rfl, rfl, by rw [at_of hb (by assumption) h2], rfl⟩
          | exact ⟨[], .v _, rfl, rfl, by rw [at_none (by omega) h2], rfl⟩
          | skip)
      · first | exact Bool.noConfusion c16 | (
          try simp only [dD] at c16
          refine AWP.skip ?_
          refine hK6 _ ?_; clear hK6 K6
          refine AWP.region ?_
          simp only [go_sem] -- region 6
          repeat' (first | (refine AGet.haveM (by assumption) ?_; (try simp only [go_sem])) | (refine AGet.have' (by assumption) ?_; (try simp only [go_sem])) | ((first | refine AGet.nth ?_ (fun b hb => ?_) | refine AGet.nth1 ?_ (fun b hb => ?_) | with_reducible refine And.intro ?_ ?_); (focus ((first | omega | exact List.length_pos_iff.2 (by assumption) | (simp only [List.length_append, List.length_cons, List.length_nil, List.length_map, List.length_take, List.length_drop] at *; omega) | (rw [wrap64_id (by omega) (by omega)]; omega) | (simp; done)))); (try simp only [hb, go_sem])))
          clear hK2 K2
          refine ⟨i + 1, ?_, ?_, ?_⟩
          · (try simp only [go_sem]); (try rw [wrap64_id (by omega) (by omega)]); simp
          · exact ⟨by omega, all_next hb h2 (by simp; assumption)⟩
          · omega))
  · first | exact Bool.noConfusion c9 | (
      try simp only [dD] at c9
      refine AWP.exit ?_
      simp only [go_sem]
      clear hK5 K5
      refine hK2 _ ?_; clear hK2 K2
      refine AWP.seqk fun K10 hK10 => ?_
      refine AWP.region ?_
      simp only [go_sem] -- region 7
      repeat' (first | (refine AGet.haveM (by assumption) ?_; (try simp only [go_sem])) | (refine AGet.have' (by assumption) ?_; (try simp only [go_sem])) | ((first | refine AGet.nth ?_ (fun b hb => ?_) | refine AGet.nth1 ?_ (fun b hb => ?_) | with_reducible refine And.intro ?_ ?_); (focus ((first | omega | exact List.length_pos_iff.2 (by assumption) | (simp only [List.length_append, List.length_cons, List.length_nil, List.length_map, List.length_take, List.length_drop] at *; omega) | (rw [wrap64_id (by omega) (by omega)]; omega) | (simp; done)))); (try simp only [hb, go_sem])))
      refine hK10 _ ?_; clear hK10 K10
      refine AWP.ret ?_
      try simp only [go_sem]
      first
      | exact ⟨[], .v _, rfl, rfl, by rw [at_of hb (by assumption) h2], rfl⟩
      | exact ⟨[], .v _, rfl, rfl, by rw [at_none (by omega) h2], rfl⟩
      | skip)


set_option maxHeartbeats 4000000 in
set_option maxRecDepth 8000 in
theorem sindex_c (l : List Bs) (id : Bs) (hl : l.length ≤ 9223372036854775807) : ACalls E 97 [.sl none 1 (l.map str), str id] (fun r t => r = i64 (idI l id) ∧ t = []) := by -- slices.Index[[]string,string]
  refine ACalls.of_awp (n := 19) (rs := [.tmp 4]) Try.func97 rfl Try.ntmps97 rfl ?_
  refine AWP.seqk fun K1 hK1 => ?_
  refine AWP.region ?_
  simp only [go_sem] -- region 0
  repeat' (first | (refine AGet.haveM (by assumption) ?_; (try simp only [go_sem])) | (refine AGet.have' (by assumption) ?_; (try simp only [go_sem])) | ((first | refine AGet.nth ?_ (fun b hb => ?_) | refine AGet.nth1 ?_ (fun b hb => ?_) | with_reducible refine And.intro ?_ ?_); (focus ((first | omega | exact List.length_pos_iff.2 (by assumption) | (simp only [List.length_append, List.length_cons, List.length_nil, List.length_map, List.length_take, List.length_drop] at *; omega) | (rw [wrap64_id (by omega) (by omega)]; omega) | (simp; done)))); (try simp only [hb, go_sem])))
  refine hK1 _ ?_; clear hK1 K1
  refine AWP.seqk fun K2 hK2 => ?_
  refine AWP.seqk fun K3 hK3 => ?_
  refine AWP.region ?_
  simp only [go_sem] -- region 1
  repeat' (first | (refine AGet.haveM (by assumption) ?_; (try simp only [go_sem])) | (refine AGet.have' (by assumption) ?_; (try simp only [go_sem])) | ((first | refine AGet.nth ?_ (fun b hb => ?_) | refine AGet.nth1 ?_ (fun b hb => ?_) | with_reducible refine And.intro ?_ ?_); (focus ((first | omega | exact List.length_pos_iff.2 (by assumption) | (simp only [List.length_append, List.length_cons, List.length_nil, List.length_map, List.length_take, List.length_drop] at *; omega) | (rw [wrap64_id (by omega) (by omega)]; omega) | (simp; done)))); (try simp only [hb, go_sem])))
  refine hK3 _ ?_; clear hK3 K3
  refine AWP.block ?_ -- 0
  refine AWP.loopH (ι := Nat) [4, 5, 9, 10, 11, 12, 13, 14, 15, 16, 17, 18] (fun (i : Nat) => [(8, i64 i)]) (fun (i : Nat) => i ≤ l.length ∧ (l.take i).all (fun s => !decide (id = s)) = true) (fun (i : Nat) => l.length - i) (0) ?_ ?_ ?_
  · (try simp only [go_sem]); try (simp; done)
  · exact ⟨by omega, by simp⟩
  rintro i ⟨h1, h2⟩
  simp only [go_sem]
  refine AWP.seqk fun K4 hK4 => ?_
  refine AWP.region ?_
  simp only [go_sem] -- region 2
  repeat' (first | (refine AGet.haveM (by assumption) ?_; (try simp only [go_sem])) | (refine AGet.have' (by assumption) ?_; (try simp only [go_sem])) | ((first | refine AGet.nth ?_ (fun b hb => ?_) | refine AGet.nth1 ?_ (fun b hb => ?_) | with_reducible refine And.intro ?_ ?_); (focus ((first | omega | exact List.length_pos_iff.2 (by assumption) | (simp only [List.length_append, List.length_cons, List.length_nil, List.length_map, List.length_take, List.length_drop] at *; omega) | (rw [wrap64_id (by omega) (by omega)]; omega) | (simp; done)))); (try simp only [hb, go_sem])))
  refine hK4 _ ?_; clear hK4 K4
  refine AWP.seqk fun K5 hK5 => ?_
  refine AWP.cond rfl (fun c9 => ?_) (fun c9 => ?_)
  · first | exact Bool.noConfusion c9 | (
      try simp only [dD] at c9
      refine AWP.skip ?_
      refine hK5 _ ?_; clear hK5 K5
      refine AWP.seqk fun K6 hK6 => ?_
      refine AWP.block ?_ -- 1
      refine AWP.seqk fun K7 hK7 => ?_
      refine AWP.region ?_
      simp only [go_sem] -- region 3
      repeat' (first | (refine AGet.haveM (by assumption) ?_; (try simp only [go_sem])) | (refine AGet.have' (by assumption) ?_; (try simp only [go_sem])) | ((first | refine AGet.nth ?_ (fun b hb => ?_) | refine AGet.nth1 ?_ (fun b hb => ?_) | with_reducible refine And.intro ?_ ?_); (focus ((first | omega | exact List.length_pos_iff.2 (by assumption) | (simp only [List.length_append, List.length_cons, List.length_nil, List.length_map, List.length_take, List.length_drop] at *; omega) | (rw [wrap64_id (by omega) (by omega)]; omega) | (simp; done)))); (try simp only [hb, go_sem])))
      refine hK7 _ ?_; clear hK7 K7
      refine AWP.seqk fun K8 hK8 => ?_
      refine AWP.region ?_
      simp only [go_sem] -- region 4
      repeat' (first | (refine AGet.haveM (by assumption) ?_; (try simp only [go_sem])) | (refine AGet.have' (by assumption) ?_; (try simp only [go_sem])) | ((first | refine AGet.nth ?_ (fun b hb => ?_) | refine AGet.nth1 ?_ (fun b hb => ?_) | with_reducible refine And.intro ?_ ?_); (focus ((first | omega | exact List.length_pos_iff.2 (by assumption) | (simp only [List.length_append, List.length_cons, List.length_nil, List.length_map, List.length_take, List.length_drop] at *; omega) | (rw [wrap64_id (by omega) (by omega)]; omega) | (simp; done)))); (try simp only [hb, go_sem])))
      refine hK8 _ ?_; clear hK8 K8
      refine AWP.cond rfl (fun c16 => ?_) (fun c16 => ?_)
      · first | exact Bool.noConfusion c16 | (
          try simp only [dD] at c16
          refine AWP.seqk fun K9 hK9 => ?_
          refine AWP.region ?_
          simp only [go_sem] -- region 5
          repeat' (first | (refine AGet.haveM (by assumption) ?_; (try simp only [go_sem])) | (refine AGet.have' (by assumption) ?_; (try simp only [go_sem])) | ((first | refine AGet.nth ?_ (fun b hb => ?_) | refine AGet.nth1 ?_ (fun b hb => ?_) | with_reducible refine And.intro ?_ ?_); (focus ((first | omega | exact List.length_pos_iff.2 (by assumption) | (simp only [List.length_append, List.length_cons, List.length_nil, List.length_map, List.length_take, List.length_drop] at *; omega) | (rw [wrap64_id (by omega) (by omega)]; omega) | (simp; done)))); (try simp only [hb, go_sem])))
          refine hK9 _ ?_; clear hK9 K9
          refine AWP.ret ?_
          try simp only [go_sem]
          clear hK6 K6 hK2 K2
          first
          | exact ⟨[], .v _, rfl, rfl, by rw [id_of hb (by assumption) h2], rfl⟩
          | exact ⟨[], .v _, rfl, rfl, by rw [id_none (by omega) h2], rfl⟩
          | skip)
      · first | exact Bool.noConfusion c16 | (
          try simp only [dD] at c16
          refine AWP.skip ?_
          refine hK6 _ ?_; clear hK6 K6
          refine AWP.region ?_
          simp only [go_sem] -- region 6
          repeat' (first | (refine AGet.haveM (by assumption) ?_; (try simp only [go_sem])) | (refine AGet.have' (by assumption) ?_; (try simp only [go_sem])) | ((first | refine AGet.nth ?_ (fun b hb => ?_) | refine AGet.nth1 ?_ (fun b hb => ?_) | with_reducible refine And.intro ?_ ?_); (focus ((first | omega | exact List.length_pos_iff.2 (by assumption) | (simp only [List.length_append, List.length_cons, List.length_nil, List.length_map, List.length_take, List.length_drop] at *; omega) | (rw [wrap64_id (by omega) (by omega)]; omega) | (simp; done)))); (try simp only [hb, go_sem])))
          clear hK2 K2
          refine ⟨i + 1, ?_, ?_, ?_⟩
          · (try simp only [go_sem]); (try rw [wrap64_id (by omega) (by omega)]); simp
          · exact ⟨by omega, all_next hb h2 (by simp; assumption)⟩
          · omega))
  · first | exact Bool.noConfusion c9 | (
      try simp only [dD] at c9
      refine AWP.exit ?_
      simp only [go_sem]
      clear hK5 K5
      refine hK2 _ ?_; clear hK2 K2
      refine AWP.seqk fun K10 hK10 => ?_
      refine AWP.region ?_
      simp only [go_sem] -- region 7
      repeat' (first | (refine AGet.haveM (by assumption) ?_; (try simp only [go_sem])) | (refine AGet.have' (by assumption) ?_; (try simp only [go_sem])) | ((first | refine AGet.nth ?_ (fun b hb => ?_) | refine AGet.nth1 ?_ (fun b hb => ?_) | with_reducible refine And.intro ?_ ?_); (focus ((first | omega | exact List.length_pos_iff.2 (by assumption) | (simp only [List.length_append, List.length_cons, List.length_nil, List.length_map, List.length_take, List.length_drop] at *; omega) | (rw [wrap64_id (by omega) (by omega)]; omega) | (simp; done)))); (try simp only [hb, go_sem])))
      refine hK10 _ ?_; clear hK10 K10
      refine AWP.ret ?_
      try simp only [go_sem]
      first
      | exact ⟨[], .v _, rfl, rfl, by rw [id_of hb (by assumption) h2], rfl⟩
      | exact ⟨[], .v _, rfl, rfl, by rw [id_none (by omega) h2], rfl⟩
      | skip)


set_option maxHeartbeats 4000000 in
set_option maxRecDepth 8000 in
theorem scontains_c (l : List Bs) (id : Bs) (hl : l.length ≤ 9223372036854775807) : ACalls E 67 [.sl none 1 (l.map str), str id] (fun r t => r = bl (hasF l id) ∧ t = []) := by -- slices.Contains[[]string,string]
  refine ACalls.of_awp (n := 9) (rs := [.tmp 4]) Try.func67 rfl Try.ntmps67 rfl ?_
  refine AWP.seqk fun K1 hK1 => ?_
  refine AWP.region ?_
  simp only [go_sem] -- region 0
  repeat' (first | (refine AGet.haveM (by assumption) ?_; (try simp only [go_sem])) | (refine AGet.have' (by assumption) ?_; (try simp only [go_sem])) | ((first | refine AGet.nth ?_ (fun b hb => ?_) | refine AGet.nth1 ?_ (fun b hb => ?_) | with_reducible refine And.intro ?_ ?_); (focus ((first | omega | exact List.length_pos_iff.2 (by assumption) | (simp only [List.length_append, List.length_cons, List.length_nil, List.length_map, List.length_take, List.length_drop] at *; omega) | (rw [wrap64_id (by omega) (by omega)]; omega) | (simp; done)))); (try simp only [hb, go_sem])))
  refine hK1 _ ?_; clear hK1 K1
  refine AWP.seqk fun K2 hK2 => ?_
  refine AWP.region ?_
  simp only [go_sem] -- region 1
  repeat' (first | (refine ACall.one (sindex_c _ _ (by omega)) (by kernel_rfl) rfl ?_; simp only [go_sem]) | (refine AGet.haveM (by assumption) ?_; (try simp only [go_sem])) | (refine AGet.have' (by assumption) ?_; (try simp only [go_sem])) | ((first | refine AGet.nth ?_ (fun b hb => ?_) | refine AGet.nth1 ?_ (fun b hb => ?_) | with_reducible refine And.intro ?_ ?_); (focus ((first | omega | exact List.length_pos_iff.2 (by assumption) | (simp only [List.length_append, List.length_cons, List.length_nil, List.length_map, List.length_take, List.length_drop] at *; omega) | (rw [wrap64_id (by omega) (by omega)]; omega) | (simp; done)))); (try simp only [hb, go_sem])))
  refine hK2 _ ?_; clear hK2 K2
  refine AWP.ret ?_
  try simp only [go_sem]
  exact ⟨[], .v _, rfl, rfl, rfl, rfl⟩


end Go.Proofs.Ytlhdnenlgceeeaa
