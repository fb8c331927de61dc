/- Texts of one chain, put together (N6, N7, N8). -/
import Derived.Test.YtajeeghgiilhiaaGreatKuG
import Derived.Test.YtajeeghgiilhiaaGreatKuD
set_option linter.unusedVariables false
set_option linter.unusedSimpArgs false
section
namespace Go.Proofs.YtajeeghgiilhiaaGreat
open Go Go.Abs Go.RowKit Go.Bk
def kp1 (n : Nat) : AV → Bool
 | .mu id _ _ _ _ => id != 2 && decide (id < n)
 | .ptr id _ _ => id != 2 && decide (id < n)
 | .any | .v _ | .nilS | .sl none _ _ | .rptr _ | .fn _ [] => true
 | .sl (some t) _ _ => t == 0
 | _ => false
def kp (n : Nat) : AV → Bool
 | .agg cs => cs.all (kp1 n)
 | x => kp1 n x
theorem kp1_ren {n : Nat} {σ : Nat → Option Nat} (hσ : ∀ i, i ≠ 2 → i < n → σ i = some i) {x : AV} (h : kp1 n x = true) : x.ren1 σ = x := by
 cases x <;> simp only [kp1, AV.ren1, Bool.and_eq_true, bne_iff_ne, decide_eq_true_eq] at h ⊢ <;> first | (rw [hσ _ h.1 h.2]) | (simp at h; done) | skip
 case fn f cs => cases cs <;> simp [kp1] at h ⊢
theorem kp_ren {n : Nat} {σ : Nat → Option Nat} (hσ : ∀ i, i ≠ 2 → i < n → σ i = some i) {x : AV} (h : kp n x = true) : x.ren σ = x := by
 cases x with
 | agg cs =>
   simp only [kp] at h
   simp only [AV.ren, AV.ren2]
   congr 1
   have : ∀ y ∈ cs, y.ren1 σ = y := fun y hy => kp1_ren hσ (List.all_eq_true.1 h y hy)
   exact (List.map_congr_left this).trans (List.map_id _)
 | tup cs => simp [kp, kp1] at h
 | fn f cs =>
   cases cs with
   | nil => rfl
   | cons => simp [kp, kp1] at h
 | mu id k o l c => simp only [AV.ren, AV.ren2]; exact kp1_ren hσ h
 | ptr id i o => simp only [AV.ren, AV.ren2]; exact kp1_ren hσ h
 | _ => rfl
theorem kpL_ren {n : Nat} {σ : Nat → Option Nat} (hσ : ∀ i, i ≠ 2 → i < n → σ i = some i) {l : List AV} (h : l.all (kp n) = true) : l.map (AV.ren σ) = l :=
 (List.map_congr_left (fun y hy => kp_ren hσ (List.all_eq_true.1 h y hy))).trans (List.map_id _)
theorem kp1_bel {n no nt : Nat} (h1 : n ≤ no) (h2 : 1 ≤ nt) {x : AV} (h : kp1 n x = true) : x.bel1 no nt = true := by
 cases x <;> simp only [kp1, AV.bel1, Bool.and_eq_true, bne_iff_ne, decide_eq_true_eq] at h ⊢ <;> first | omega | skip
 case sl t k es => cases t <;> simp [kp1, AV.bel1] at h ⊢; omega
 case fn f cs => cases cs <;> simp [kp1, AV.bel1] at h ⊢
theorem kp_bel {n no nt : Nat} (h1 : n ≤ no) (h2 : 1 ≤ nt) {x : AV} (h : kp n x = true) : x.bel no nt = true := by
 cases x with
 | agg cs =>
   simp only [kp] at h
   simp only [AV.bel, AV.bel2]
   exact List.all_eq_true.2 fun y hy => kp1_bel h1 h2 (List.all_eq_true.1 h y hy)
 | tup cs => simp [kp, kp1] at h
 | fn f cs =>
   cases cs with
   | nil => rfl
   | cons => simp [kp, kp1] at h
 | sl t k es => exact kp1_bel (x := .sl t k es) h1 h2 h
 | mu id k o l c => exact kp1_bel (x := .mu id k o l c) h1 h2 h
 | ptr id i o => exact kp1_bel (x := .ptr id i o) h1 h2 h
 | _ => rfl
def cutT (no nt : Nat) (x : AV) : AV := if x.bel no nt then x else .any
theorem wkT_cut {no nt : Nat} : ∀ l : List AV, WkT no nt l (l.map (cutT no nt))
 | [] => trivial
 | x :: l => by
   refine ⟨?_, wkT_cut l⟩
   unfold cutT
   by_cases h : x.bel no nt = true
   · rw [if_pos h]; exact .inr ⟨rfl, h⟩
   · rw [if_neg h]; exact .inl rfl
def belO (no nt : Nat) (own : List (Option (List AV))) : Bool := own.all fun o => match o with | none => true | some es => es.all fun e => e.leaves.all (AV.bel no nt)
theorem wkO_bel {no nt : Nat} : ∀ {l : List (Option (List AV))}, belO no nt l = true → WkO no nt l l
 | [], _ => trivial
 | x :: l, h => by
   simp only [belO, List.all_cons, Bool.and_eq_true] at h
   refine ⟨.inr ⟨rfl, fun es hes e he z hz => ?_⟩, wkO_bel h.2⟩
   have h1 := h.1
   rw [hes] at h1
   exact List.all_eq_true.1 (List.all_eq_true.1 h1 e he) z hz
theorem AWP.normW {E : Env} {c : Code} {Q : Exit → St → Prop} {tmps up : List AV} {own : List (Option (List AV))} {tk : List Nat} {gl : Nat → Option (List AV)} (sel : List Nat) (own' : List (Option (List AV))) (tk' : List Nat) (n : Nat) (hnd : sel.Nodup) (hσ : ∀ i, i ≠ 2 → i < n → selAt sel i = some i)
   (hup : up.all (kp n) = true) (hn : n ≤ own'.length) (hown : selOwn own sel = own') (hb : belO own'.length tk'.length own' = true) (htk : WkK tk tk') (h0 : 1 ≤ tk'.length)
   (hw : AWP E c Q ⟨(tmps.map (AV.ren (selAt sel))).map (cutT own'.length tk'.length), own', tk', gl, none, up⟩) : AWP E c Q ⟨tmps, own, tk, gl, none, up⟩ := by
 refine AWP.norm sel hnd rfl (kpL_ren hσ hup) ?_
 refine AWP.weaken (t := ⟨(tmps.map (AV.ren (selAt sel))).map (cutT own'.length tk'.length), own', tk', gl, none, up⟩) ⟨wkT_cut _, ?_, htk, rfl, rfl, rfl, List.all_eq_true.2 fun x hx => kp_bel hn h0 (List.all_eq_true.1 hup x hx)⟩ hw
 show WkO _ _ (selOwn own sel) own'
 rw [hown]; exact wkO_bel hb
abbrev bookV (b : Bk) (m : Nat) : AV := .agg [odsV b.orders, .mu 2 9 0 b.fills.length (b.fills.length + m), .sl (some 0) 1 (b.ids.map str), i64 b.clock, i64 b.bad]
abbrev rowV (b : Bk) (m : Nat) : List AV := b.fills.map dnV ++ spare 9 m
theorem dn_get {l : List Dn} {n : Nat} {o : Dn} (h : l[n]? = some o) (sp : List AV) : (l.map dnV ++ sp)[n]? = some (dnV o) := by
 rw [List.getElem?_append_left (by simpa using get_lt h), List.getElem?_map, h]; rfl
theorem dn_set {l : List Dn} {n : Nat} {o o' : Dn} (h : l[n]? = some o) (sp : List AV) : (l.map dnV ++ sp).set n (dnV o') = (l.set n o').map dnV ++ sp := by
 rw [List.set_append_left _ _ (by simpa using get_lt h), List.map_set]
theorem dn_ren (σ : Nat → Option Nat) (l : List Dn) (m : Nat) : (l.map dnV ++ spare 9 m).map (AV.ren σ) = l.map dnV ++ spare 9 m := by
 rw [List.map_append, List.map_map]
 congr 1
 simp [spare, AV.ren, AV.ren2, AV.ren1]
theorem row_bel (no nt : Nat) (l : List Dn) (m : Nat) : ((l.map dnV ++ spare 9 m).all fun e => e.leaves.all (AV.bel no nt)) = true := by
 rw [List.all_eq_true]
 intro e he
 rcases List.mem_append.1 he with he | he
 · obtain ⟨f, _, rfl⟩ := List.mem_map.1 he; rfl
 · simp only [spare, List.mem_replicate] at he
   rw [he.2]
   simp [AV.leaves, AV.bel, AV.bel2, AV.bel1]
set_option maxHeartbeats 4000000 in
set_option maxRecDepth 8000 in
theorem amend1_c (f : Dn) (x : Ex) : ACalls E 234 [dnV f, .rptr [str x.id, str x.ref, str x.ord, str x.acc, str x.sym, i64 x.kind, bl x.buy, i64 x.qty, i64 x.price, i64 x.time]] (fun r t => r = bl (decide (f.id = x.ref)) ∧ t = []) := by
 refine ACalls.of_awp (n := 9) (rs := [.tmp 3]) Tryz.func234 rfl Tryz.ntmps234 rfl ?_
 refine AWP.seqk fun K1 hK1 => ?_
 refine AWP.region ?_
 simp only [go_sem]
 repeat' (first | fail)
 refine hK1 _ ?_; clear hK1 K1
 refine AWP.seqk fun K2 hK2 => ?_
 refine AWP.region ?_
 simp only [go_sem]
 repeat' (first | fail)
 refine hK2 _ ?_; clear hK2 K2
 refine AWP.ret ?_
 try simp only [go_sem]
 exact ⟨[], .v _, rfl, rfl, by simp_all, rfl⟩
set_option maxHeartbeats 4000000 in
set_option maxRecDepth 8000 in
theorem dindex_c (l : List Dn) (x : Ex) (hl : l.length ≤ 9223372036854775807) : ACalls E 233 [dnsV l, .fn 234 [.rptr [str x.id, str x.ref, str x.ord, str x.acc, str x.sym, i64 x.kind, bl x.buy, i64 x.qty, i64 x.price, i64 x.time]]] (fun r t => r = i64 (atI l x.ref) ∧ t = []) := by
 refine ACalls.of_awp (n := 19) (rs := [.tmp 4]) Tryz.func233 rfl Tryz.ntmps233 rfl ?_
 refine AWP.seqk fun K1 hK1 => ?_
 refine AWP.region ?_
 simp only [go_sem]
 repeat' (first | fail)
 refine hK1 _ ?_; clear hK1 K1
 refine AWP.seqk fun K2 hK2 => ?_
 refine AWP.seqk fun K3 hK3 => ?_
 refine AWP.region ?_
 simp only [go_sem]
 repeat' (first | ((first | with_reducible refine And.intro ?_ ?_); (focus ((first | (simp; done)))); (try simp only [hb, go_sem])))
 refine hK3 _ ?_; clear hK3 K3
 refine AWP.block ?_
 refine AWP.loopH (ι := Nat) [4, 5, 9, 10, 11, 12, 13, 14, 15, 16, 17, 18] (fun (i : Nat) => [(8, i64 i)]) (fun (i : Nat) => i ≤ l.length ∧ (l.take i).all (fun o => !decide (o.id = x.ref)) = true) (fun (i : Nat) => l.length - i) (0) ?_ ?_ ?_
 · (try simp only [go_sem]); try (simp; done)
 · exact ⟨by omega, by simp⟩
 rintro i ⟨h1, h2⟩
 simp only [go_sem]
 refine AWP.seqk fun K4 hK4 => ?_
 refine AWP.region ?_
 simp only [go_sem]
 repeat' (first | fail)
 refine hK4 _ ?_; clear hK4 K4
 refine AWP.seqk fun K5 hK5 => ?_
 refine AWP.cond rfl (fun c9 => ?_) (fun c9 => ?_)
 · first | (
     try simp only [dD] at c9
     refine AWP.skip ?_
     refine hK5 _ ?_; clear hK5 K5
     refine AWP.seqk fun K6 hK6 => ?_
     refine AWP.block ?_
     refine AWP.seqk fun K7 hK7 => ?_
     refine AWP.region ?_
     simp only [go_sem]
     repeat' (first | fail)
     refine hK7 _ ?_; clear hK7 K7
     refine AWP.seqk fun K8 hK8 => ?_
     refine AWP.region ?_
     simp only [go_sem]
     repeat' (first | (refine ACall.one (amend1_c _ _) (by kernel_rfl) rfl ?_; simp only [go_sem]) | ((first | refine AGet.nth ?_ (fun b hb => ?_) | fail); (focus ((first | omega | fail))); (try simp only [hb, go_sem])))
     refine hK8 _ ?_; clear hK8 K8
     refine AWP.cond rfl (fun c16 => ?_) (fun c16 => ?_)
     · first | (
         try simp only [dD] at c16
         refine AWP.seqk fun K9 hK9 => ?_
         refine AWP.region ?_
         simp only [go_sem]
         repeat' (first | fail)
         refine hK9 _ ?_; clear hK9 K9
         refine AWP.ret ?_
         try simp only [go_sem]
         clear hK6 K6 hK2 K2
         first
         | exact ⟨[], .v _, rfl, rfl, by rw [at_of hb (by assumption) h2], rfl⟩
         | fail)
     · first | (
         try simp only [dD] at c16
         refine AWP.skip ?_
         refine hK6 _ ?_; clear hK6 K6
         refine AWP.region ?_
         simp only [go_sem]
         repeat' (first | fail)
         clear hK2 K2
         refine ⟨i + 1, ?_, ?_, ?_⟩
         · (try simp only [go_sem]); (try rw [wrap64_id (by omega) (by omega)]); simp
         · exact ⟨by omega, all_next hb h2 (by simp; assumption)⟩
         · omega))
 · first | (
     try simp only [dD] at c9
     refine AWP.exit ?_
     simp only [go_sem]
     clear hK5 K5
     refine hK2 _ ?_; clear hK2 K2
     refine AWP.seqk fun K10 hK10 => ?_
     refine AWP.region ?_
     simp only [go_sem]
     repeat' (first | fail)
     refine hK10 _ ?_; clear hK10 K10
     refine AWP.ret ?_
     try simp only [go_sem]
     first
     | exact ⟨[], .v _, rfl, rfl, by rw [at_none (by omega) h2], rfl⟩
     | fail)
set_option maxHeartbeats 4000000 in
set_option maxRecDepth 8000 in
theorem sindex_c (l : List Bs) (id : Bs) (hl : l.length ≤ 9223372036854775807) : ACalls E 207 [.sl none 1 (l.map str), str id] (fun r t => r = i64 (idI l id) ∧ t = []) := by
 refine ACalls.of_awp (n := 19) (rs := [.tmp 4]) Tryz.func207 rfl Tryz.ntmps207 rfl ?_
 refine AWP.seqk fun K1 hK1 => ?_
 refine AWP.region ?_
 simp only [go_sem]
 repeat' (first | fail)
 refine hK1 _ ?_; clear hK1 K1
 refine AWP.seqk fun K2 hK2 => ?_
 refine AWP.seqk fun K3 hK3 => ?_
 refine AWP.region ?_
 simp only [go_sem]
 repeat' (first | ((first | with_reducible refine And.intro ?_ ?_); (focus ((first | (simp; done)))); (try simp only [hb, go_sem])))
 refine hK3 _ ?_; clear hK3 K3
 refine AWP.block ?_
 refine AWP.loopH (ι := Nat) [4, 5, 9, 10, 11, 12, 13, 14, 15, 16, 17, 18] (fun (i : Nat) => [(8, i64 i)]) (fun (i : Nat) => i ≤ l.length ∧ (l.take i).all (fun s => !decide (id = s)) = true) (fun (i : Nat) => l.length - i) (0) ?_ ?_ ?_
 · (try simp only [go_sem]); try (simp; done)
 · exact ⟨by omega, by simp⟩
 rintro i ⟨h1, h2⟩
 simp only [go_sem]
 refine AWP.seqk fun K4 hK4 => ?_
 refine AWP.region ?_
 simp only [go_sem]
 repeat' (first | fail)
 refine hK4 _ ?_; clear hK4 K4
 refine AWP.seqk fun K5 hK5 => ?_
 refine AWP.cond rfl (fun c9 => ?_) (fun c9 => ?_)
 · first | (
     try simp only [dD] at c9
     refine AWP.skip ?_
     refine hK5 _ ?_; clear hK5 K5
     refine AWP.seqk fun K6 hK6 => ?_
     refine AWP.block ?_
     refine AWP.seqk fun K7 hK7 => ?_
     refine AWP.region ?_
     simp only [go_sem]
     repeat' (first | fail)
     refine hK7 _ ?_; clear hK7 K7
     refine AWP.seqk fun K8 hK8 => ?_
     refine AWP.region ?_
     simp only [go_sem]
     repeat' (first | ((first | refine AGet.nth ?_ (fun b hb => ?_) | fail); (focus ((first | omega | fail))); (try simp only [hb, go_sem])))
     refine hK8 _ ?_; clear hK8 K8
     refine AWP.cond rfl (fun c16 => ?_) (fun c16 => ?_)
     · first | (
         try simp only [dD] at c16
         refine AWP.seqk fun K9 hK9 => ?_
         refine AWP.region ?_
         simp only [go_sem]
         repeat' (first | fail)
         refine hK9 _ ?_; clear hK9 K9
         refine AWP.ret ?_
         try simp only [go_sem]
         clear hK6 K6 hK2 K2
         first
         | exact ⟨[], .v _, rfl, rfl, by rw [id_of hb (by assumption) h2], rfl⟩
         | fail)
     · first | (
         try simp only [dD] at c16
         refine AWP.skip ?_
         refine hK6 _ ?_; clear hK6 K6
         refine AWP.region ?_
         simp only [go_sem]
         repeat' (first | fail)
         clear hK2 K2
         refine ⟨i + 1, ?_, ?_, ?_⟩
         · (try simp only [go_sem]); (try rw [wrap64_id (by omega) (by omega)]); simp
         · exact ⟨by omega, all_next hb h2 (by simp; assumption)⟩
         · omega))
 · first | (
     try simp only [dD] at c9
     refine AWP.exit ?_
     simp only [go_sem]
     clear hK5 K5
     refine hK2 _ ?_; clear hK2 K2
     refine AWP.seqk fun K10 hK10 => ?_
     refine AWP.region ?_
     simp only [go_sem]
     repeat' (first | fail)
     refine hK10 _ ?_; clear hK10 K10
     refine AWP.ret ?_
     try simp only [go_sem]
     first
     | exact ⟨[], .v _, rfl, rfl, by rw [id_none (by omega) h2], rfl⟩
     | fail)
set_option maxHeartbeats 4000000 in
set_option maxRecDepth 8000 in
theorem scontains_c (l : List Bs) (id : Bs) (hl : l.length ≤ 9223372036854775807) : ACalls E 173 [.sl none 1 (l.map str), str id] (fun r t => r = bl (hasF l id) ∧ t = []) := by
 refine ACalls.of_awp (n := 9) (rs := [.tmp 4]) Tryz.func173 rfl Tryz.ntmps173 rfl ?_
 refine AWP.seqk fun K1 hK1 => ?_
 refine AWP.region ?_
 simp only [go_sem]
 repeat' (first | fail)
 refine hK1 _ ?_; clear hK1 K1
 refine AWP.seqk fun K2 hK2 => ?_
 refine AWP.region ?_
 simp only [go_sem]
 repeat' (first | (refine ACall.one (sindex_c _ _ (by omega)) (by kernel_rfl) rfl ?_; simp only [go_sem]) | fail)
 refine hK2 _ ?_; clear hK2 K2
 refine AWP.ret ?_
 try simp only [go_sem]
 exact ⟨[], .v _, rfl, rfl, rfl, rfl⟩
end Go.Proofs.YtajeeghgiilhiaaGreat
end
section
namespace Go.Proofs.YtajeeghgiilhiaaGreat
open Go Go.Abs Go.RowKit Go.Bk
theorem fillF_ok {b : Bk} {x : Ex} (h : (fillO b.orders x.ord x.qty x.price).2 = 0) : fillF b x = (⟨(fillO b.orders x.ord x.qty x.price).1, b.fills ++ [doneOf x], b.ids, b.clock, b.bad⟩, 0) := by unfold fillF; simp [h]
theorem fillF_1 {b : Bk} {x : Ex} (h : (fillO b.orders x.ord x.qty x.price).2 = 1) : fillF b x = (b, 4) := by unfold fillF; simp [h]
theorem fillF_9 {b : Bk} {x : Ex} (h : (fillO b.orders x.ord x.qty x.price).2 = 9) : fillF b x = (b, 5) := by unfold fillF; simp [h]
theorem fillF_2 {b : Bk} {x : Ex} (h0 : ¬ (fillO b.orders x.ord x.qty x.price).2 = 0) (h1 : ¬ (fillO b.orders x.ord x.qty x.price).2 = 1) (h : ¬ (fillO b.orders x.ord x.qty x.price).2 = 9) : fillF b x = (b, 2) := by unfold fillF; simp [h0, h1, h]
abbrev Z0 : Option (List AV) := some [.agg [.nilS, .nilS, .nilS, i64 0, i64 0]]
theorem sg6 : ∀ i, i ≠ 2 → i < 6 → selAt [0, 1, 2, 3, 4, 5] i = some i := by
 intro i h1 h2
 have : i = 0 ∨ i = 1 ∨ i = 3 ∨ i = 4 ∨ i = 5 := by omega
 rcases this with rfl | rfl | rfl | rfl | rfl <;> rfl
theorem sg6b : ∀ i, i ≠ 2 → i < 6 → selAt [0, 1, 7, 3, 4, 5] i = some i := by
 intro i h1 h2
 have : i = 0 ∨ i = 1 ∨ i = 3 ∨ i = 4 ∨ i = 5 := by omega
 rcases this with rfl | rfl | rfl | rfl | rfl <;> rfl
theorem dn_take {l : List Dn} (sp : List AV) : (l.map dnV ++ sp).take l.length = l.map dnV := List.take_left' (by simp)
theorem row_app (σ : Nat → Option Nat) (l : List Dn) (d : Dn) (m : Nat) : (l.map dnV ++ [dnV d] ++ spare 9 m).map (AV.ren σ) = (l ++ [d]).map dnV ++ spare 9 m := by
 rw [show l.map dnV ++ [dnV d] = (l ++ [d]).map dnV by simp, dn_ren]
theorem own_keep {b : Bk} {m : Nat} {x : Ex} {rest : List (Option (List AV))} : selOwn (Z0 :: some [bookV b m] :: some (rowV b m) :: some [exV x] :: some [exV x] :: some [exV x] :: rest) [0, 1, 2, 3, 4, 5] = [Z0, some [bookV b m], some (rowV b m), some [exV x], some [exV x], some [exV x]] := by
 show [Z0, some [bookV b m], some ((rowV b m).map _), some [exV x], some [exV x], some [exV x]] = _
 rw [dn_ren]
theorem own_fill {os : List Od} {l : List Dn} {d : Dn} {k c m : Nat} {ids y1 y2 : AV} {x : Ex} {bx : Option (List AV)} (hi : ids.ren1 (selAt [0, 1, 7, 3, 4, 5]) = ids) (h1 : y1.ren1 (selAt [0, 1, 7, 3, 4, 5]) = y1) (h2 : y2.ren1 (selAt [0, 1, 7, 3, 4, 5]) = y2) :
   selOwn [Z0, some [.agg [odsV os, .mu 7 9 0 k c, ids, y1, y2]], none, some [exV x], some [exV x], some [exV x], bx, some (l.map dnV ++ [dnV d] ++ spare 9 m)] [0, 1, 7, 3, 4, 5] =
     [Z0, some [.agg [odsV os, .mu 2 9 0 k c, ids, y1, y2]], some ((l ++ [d]).map dnV ++ spare 9 m), some [exV x], some [exV x], some [exV x]] := by
 show [Z0, some [.agg [odsV os, .mu 2 9 0 k c, ids.ren1 _, y1.ren1 _, y2.ren1 _]], some ((l.map dnV ++ [dnV d] ++ spare 9 m).map _), some [exV x], some [exV x], some [exV x]] = _
 rw [row_app, hi, h1, h2]
theorem own_bel (no : Nat) {b : Bk} {m : Nat} {l : List (Option (List AV))} (hno : 3 ≤ no) (hl : belO no 1 l = true) : belO no 1 (Z0 :: some [bookV b m] :: some (rowV b m) :: l) = true := by
 have h2 : decide (2 < no) = true := decide_eq_true (by omega)
 have hr : ((rowV b m).all fun e => e.leaves.all (AV.bel no 1)) = true := row_bel no 1 b.fills m
 unfold belO at hl ⊢
 rw [List.all_cons, List.all_cons, List.all_cons]
 simp only [Bool.and_eq_true]
 refine ⟨rfl, ?_, hr, hl⟩
 show ((true && (decide (2 < no) && (true && (true && (true && true))))) && true) = true
 rw [h2]; rfl
theorem own_bel3 {b : Bk} {m : Nat} {x : Ex} : belO 6 1 [Z0, some [bookV b m], some (rowV b m), some [exV x], some [exV x], some [exV x]] = true := own_bel 6 (by decide) rfl
theorem own_bel2 {b : Bk} {m : Nat} {x : Ex} : belO 5 1 [Z0, some [bookV b m], some (rowV b m), some [exV x], some [exV x]] = true := own_bel 5 (by decide) rfl
theorem own_bel1 {b : Bk} {m : Nat} {x : Ex} : belO 4 1 [Z0, some [bookV b m], some (rowV b m), some [exV x]] = true := own_bel 4 (by decide) rfl
set_option maxRecDepth 100000 in
set_option maxHeartbeats 8000000 in
theorem fill_call {ops : Array Oper} {l : List Oper} {Q : Exit → St → Prop} {tmps up : List AV} {gl : Nat → Option (List AV)} {b : Bk} {x : Ex} {m : Nat} {dst : Option Tmp} {x0 x1 : Operand} {tys : Array TypeId} {ty : TypeId} {pos : String} {after : Array Edge}
   (hx0 : St.ev ⟨tmps, [Z0, some [bookV b m], some (rowV b m), some [exV x], some [exV x], some [exV x]], [b.ids.length], gl, none, up⟩ x0 = .ptr 1 0 0) (hx1 : St.ev ⟨tmps, [Z0, some [bookV b m], some (rowV b m), some [exV x], some [exV x], some [exV x]], [b.ids.length], gl, none, up⟩ x1 = exV x)
   (hq : x.qty ≤ 4611686018427387904) (ho : b.orders.length ≤ 1000000) (hf : b.fills.length ≤ 1000000) (hup : (tmps ++ up).all (kp 6) = true)
   (h : ∀ (b' : Bk) (e : Int) (m' : Nat), fillF b x = (b', e) → AWPL E ops l Q (St.put ⟨tmps, [Z0, some [bookV b' m'], some (rowV b' m'), some [exV x], some [exV x], some [exV x]], [b'.ids.length], gl, none, up⟩ dst (i64 e))) :
   AWPL E ops (⟨dst, .call ⟨.value (.func 210), #[x0, x1], tys⟩, ty, pos, after, none⟩ :: l) Q ⟨tmps, [Z0, some [bookV b m], some (rowV b m), some [exV x], some [exV x], some [exV x]], [b.ids.length], gl, none, up⟩ := by
 refine AWPL.call (caps := []) (rs := [.tmp 4]) Tryz.func210 rfl Tryz.ntmps210 rfl (by kernel_rfl) rfl rfl ?_
 show AWP E _ _ ⟨([St.ev ⟨tmps, [Z0, some [bookV b m], some (rowV b m), some [exV x], some [exV x], some [exV x]], [b.ids.length], gl, none, up⟩ x0, St.ev ⟨tmps, [Z0, some [bookV b m], some (rowV b m), some [exV x], some [exV x], some [exV x]], [b.ids.length], gl, none, up⟩ x1] ++ []) ++ List.replicate (58 - 2) (.v undef), [Z0, some [bookV b m], some (rowV b m), some [exV x], some [exV x], some [exV x]], [b.ids.length], gl, none, tmps ++ up⟩
 rw [hx0, hx1]
 have hK : ∀ (tm : List AV) (ow : List (Option (List AV))) (tk : List Nat) (b' : Bk) (e : Int) (m' : Nat), fillF b x = (b', e) → ow = [Z0, some [bookV b' m'], some (rowV b' m'), some [exV x], some [exV x], some [exV x]] → tk = [b'.ids.length] → tm[4]? = some (i64 e) → AInPost E.P [.tmp 4] ⟨tmps, [Z0, some [bookV b m], some (rowV b m), some [exV x], some [exV x], some [exV x]], [b.ids.length], gl, none, up⟩ (fun s z => AWPL E ops l Q (s.put dst z)) .ret ⟨tm, ow, tk, gl, none, tmps ++ up⟩ := by
   intro tm ow tk b' e m' hb' how htk h4
   subst how; subst htk
   refine ⟨rfl, ?_⟩
   have : St.ev ⟨tm, [Z0, some [bookV b' m'], some (rowV b' m'), some [exV x], some [exV x], some [exV x]], [b'.ids.length], gl, none, tmps ++ up⟩ (.tmp 4) = i64 e := by simp [St.ev, List.getD_eq_getElem?_getD, h4]
   show AWPL E ops l Q (St.put _ dst (tupOf [St.ev _ (.tmp 4)]))
   rw [this]
   exact h b' e m' hb'
 generalize AInPost E.P [.tmp 4] ⟨tmps, [Z0, some [bookV b m], some (rowV b m), some [exV x], some [exV x], some [exV x]], [b.ids.length], gl, none, up⟩ (fun s z => AWPL E ops l Q (s.put dst z)) = Q' at hK ⊢
 generalize tmps ++ up = up' at hup hK ⊢
 clear h hx0 hx1
 refine AWP.seqk fun K1 hK1 => ?_
 refine AWP.region ?_
 simp only [go_sem]
 repeat' (first | fail)
 refine hK1 _ ?_; clear hK1 K1
 refine AWP.seqk fun K2 hK2 => ?_
 refine AWP.regionAs [0, 1, 2, 3, 4, 5, 6, 7, 8, 9, 10, 11, 12, 13, 14, 15] [[], [0], [0, 1], [0, 1, 2], [], [4], [], [6], [], [8], [0, 1, 2, 3, 4, 5, 6, 7, 8, 9], [0, 1, 2, 3, 4, 5, 6, 7, 8, 9, 10], [0, 1, 2, 3, 4, 5, 6, 7, 8, 9, 10, 11], [0, 1, 2, 3, 4, 5, 6, 7, 8, 9, 10, 11], [0, 1, 2, 3, 4, 5, 6, 7, 8, 9, 10, 11, 12], [0, 1, 2, 3, 4, 5, 6, 7, 8, 9, 10, 11, 12, 13, 14]] [] (by kernel_rfl) (by kernel_rfl) (by decide) rfl ?_
 simp only [go_sem]
 repeat' (first | (refine ACall.of (ofill_c b.orders x.ord x.qty x.price hq (by omega)) (by kernel_rfl) rfl ?_; rintro r t ⟨⟨y, rfl, hy⟩, rfl⟩ <;> simp only [go_sem]) | fail)
 refine hK2 _ ?_; clear hK2 K2
 refine AWP.seqk fun K3 hK3 => ?_
 refine AWP.seqk fun K4 hK4 => ?_
 refine AWP.region ?_
 simp only [go_sem]
 repeat' (first | fail)
 refine hK4 _ ?_; clear hK4 K4
 refine AWP.block ?_
 refine AWP.seqk fun K5 hK5 => ?_
 refine AWP.region ?_
 simp only [go_sem]
 repeat' (first | fail)
 refine hK5 _ ?_; clear hK5 K5
 refine AWP.cond rfl (fun c22 => ?_) (fun c22 => ?_)
 · first | (
     try simp only [dD] at c22
     refine AWP.skip ?_
     refine hK3 _ ?_; clear hK3 K3
     refine AWP.seqk fun K6 hK6 => ?_
     have hx9 := hy (by assumption)
     subst hx9
     refine AWP.region ?_
     simp only [go_sem]
     repeat' (first | fail)
     refine hK6 _ ?_; clear hK6 K6
     refine AWP.seqk fun K7 hK7 => ?_
     refine AWP.regionAs [0, 1, 2, 3, 4, 5, 6, 7, 8, 9, 10, 11, 12, 13, 14, 15, 16, 17, 18, 19, 20, 21, 22, 23, 24, 25, 26] [[], [], [1], [1, 2], [1, 2, 3], [], [5], [], [7], [], [9], [], [11], [], [13], [], [15], [], [17], [], [19], [5, 6, 7, 8, 9, 10, 11, 12, 13, 14, 15, 16, 17, 18, 19, 20], [5, 6, 7, 8, 9, 10, 11, 12, 13, 14, 15, 16, 17, 18, 19, 20, 21], [1, 2, 3, 4, 5, 6, 7, 8, 9, 10, 11, 12, 13, 14, 15, 16, 17, 18, 19, 20, 21, 22], [0, 1, 2, 3, 4, 5, 6, 7, 8, 9, 10, 11, 12, 13, 14, 15, 16, 17, 18, 19, 20, 21, 22, 23], [0, 1, 2, 3, 4, 5, 6, 7, 8, 9, 10, 11, 12, 13, 14, 15, 16, 17, 18, 19, 20, 21, 22, 23, 24], [0, 1, 2, 3, 4, 5, 6, 7, 8, 9, 10, 11, 12, 13, 14, 15, 16, 17, 18, 19, 20, 21, 22, 23, 24, 25]] [] (by kernel_rfl) (by kernel_rfl) (by decide) rfl ?_
     simp only [go_sem]
     repeat' (first | ((first | with_reducible refine And.intro ?_ ?_); (focus ((first | omega | (simp; done) | (simp [spare_len]; done)))); (try simp only [hb, go_sem])))
     intro m2
     simp only [go_sem, dn_take]
     refine hK7 _ ?_; clear hK7 K7
     refine AWP.seqk fun K8 hK8 => ?_
     refine AWP.region ?_
     simp only [go_sem]
     repeat' (first | fail)
     refine hK8 _ ?_; clear hK8 K8
     refine AWP.normW [0, 1, 7, 3, 4, 5] [Z0, some [bookV (fillF b x).1 m2], some (rowV (fillF b x).1 m2), some [exV x], some [exV x], some [exV x]] [b.ids.length] 6 (by decide) sg6b hup (Nat.le_refl _) (by rw [fillF_ok (by assumption)]; exact (own_fill (d := doneOf x) rfl rfl rfl).trans (by simp [rowV])) own_bel3 ⟨rfl, trivial⟩ (Nat.le_refl _) ?_
     refine AWP.ret ?_
     try simp only [go_sem]
     first
     | exact hK _ _ _ (fillF b x).1 0 m2 (by rw [fillF_ok (by assumption)]) rfl (by rw [fillF_ok (by assumption)]) rfl
     | fail)
 · first | (
     try simp only [dD] at c22
     refine AWP.seqk fun K9 hK9 => ?_
     refine AWP.region ?_
     simp only [go_sem]
     repeat' (first | fail)
     refine hK9 _ ?_; clear hK9 K9
     refine AWP.cond rfl (fun c24 => ?_) (fun c24 => ?_)
     · first | (
         try simp only [dD] at c24
         refine AWP.seqk fun K10 hK10 => ?_
         refine AWP.region ?_
         simp only [go_sem]
         repeat' (first | fail)
         refine hK10 _ ?_; clear hK10 K10
         refine AWP.normW [0, 1, 2, 3, 4, 5] [Z0, some [bookV b m], some (rowV b m), some [exV x], some [exV x], some [exV x]] [b.ids.length] 6 (by decide) sg6 hup (Nat.le_refl _) own_keep own_bel3 ⟨rfl, trivial⟩ (Nat.le_refl _) ?_
         refine AWP.ret ?_
         try simp only [go_sem]
         clear hK3 K3
         first
         | exact hK _ _ _ b _ m (fillF_1 (by assumption)) rfl rfl rfl
         | fail)
     · first | (
         try simp only [dD] at c24
         refine AWP.seqk fun K11 hK11 => ?_
         refine AWP.region ?_
         simp only [go_sem]
         repeat' (first | fail)
         refine hK11 _ ?_; clear hK11 K11
         refine AWP.cond rfl (fun c26 => ?_) (fun c26 => ?_)
         · first | (
             try simp only [dD] at c26
             refine AWP.seqk fun K12 hK12 => ?_
             refine AWP.region ?_
             simp only [go_sem]
             repeat' (first | fail)
             refine hK12 _ ?_; clear hK12 K12
             refine AWP.normW [0, 1, 2, 3, 4, 5] [Z0, some [bookV b m], some (rowV b m), some [exV x], some [exV x], some [exV x]] [b.ids.length] 6 (by decide) sg6 hup (Nat.le_refl _) own_keep own_bel3 ⟨rfl, trivial⟩ (Nat.le_refl _) ?_
             refine AWP.ret ?_
             try simp only [go_sem]
             clear hK3 K3
             first
             | exact hK _ _ _ b _ m (fillF_9 (by assumption)) rfl rfl rfl
             | fail)
         · first | (
             try simp only [dD] at c26
             refine AWP.seqk fun K13 hK13 => ?_
             refine AWP.region ?_
             simp only [go_sem]
             repeat' (first | fail)
             refine hK13 _ ?_; clear hK13 K13
             refine AWP.normW [0, 1, 2, 3, 4, 5] [Z0, some [bookV b m], some (rowV b m), some [exV x], some [exV x], some [exV x]] [b.ids.length] 6 (by decide) sg6 hup (Nat.le_refl _) own_keep own_bel3 ⟨rfl, trivial⟩ (Nat.le_refl _) ?_
             refine AWP.ret ?_
             try simp only [go_sem]
             clear hK3 K3
             first
             | exact hK _ _ _ b _ m (fillF_2 (by assumption) (by assumption) (by assumption)) rfl rfl rfl
             | fail)))
end Go.Proofs.YtajeeghgiilhiaaGreat
end
section
namespace Go.Proofs.YtajeeghgiilhiaaGreat
open Go Go.Abs Go.RowKit Go.Bk
theorem repF_ok {b : Bk} {x : Ex} (h : (changeO b.orders x.ref x.ord x.qty x.price).2 = 0) : replaceF b x = (⟨(changeO b.orders x.ref x.ord x.qty x.price).1, b.fills, b.ids, b.clock, b.bad⟩, 0) := by unfold replaceF; simp [h]
theorem repF_1 {b : Bk} {x : Ex} (h : (changeO b.orders x.ref x.ord x.qty x.price).2 = 1) : replaceF b x = (b, 4) := by unfold replaceF; simp [h]
theorem repF_2 {b : Bk} {x : Ex} (h0 : ¬ (changeO b.orders x.ref x.ord x.qty x.price).2 = 0) (h1 : ¬ (changeO b.orders x.ref x.ord x.qty x.price).2 = 1) : replaceF b x = (b, 2) := by unfold replaceF; simp [h0, h1]
theorem amF_6 {b : Bk} {x : Ex} (h : atF b.fills x.ref = none) : amendF b x = (b, 6) := by unfold amendF; simp [h]
section
variable {b : Bk} {x : Ex} {n : Nat} {f : Dn} (e2 : atF b.fills x.ref = some n) (hb : b.fills[n]? = some f)
include e2 hb
theorem amF_6a (h : f.live = false) : amendF b x = (b, 6) := by unfold amendF; simp [e2, hb, h]
theorem amF_6b (h : 10 < x.time - f.time) : amendF b x = (b, 6) := by unfold amendF; simp [e2, hb, h]
variable (hl : f.live = true) (ht : ¬ 10 < x.time - f.time)
include hl ht
theorem amF_3 (h : f.ord ≠ x.ord ∨ f.acc ≠ x.acc ∨ f.sym ≠ x.sym ∨ f.buy ≠ x.buy) : amendF b x = (b, 3) := by
 unfold amendF; simp only [e2, getDD hb]
 rw [if_neg (by simp [hl]; omega), if_pos h]
variable (h1 : f.ord = x.ord) (h2 : f.acc = x.acc) (h3 : f.sym = x.sym) (h4 : f.buy = x.buy)
include h1 h2 h3 h4
theorem amF_bust (h : x.kind = 7) : amendF b x = (⟨b.orders, b.fills.set n ⟨f.id, f.ord, f.acc, f.sym, f.buy, f.qty, f.price, f.time, false⟩, b.ids, b.clock, b.bad⟩, 0) := by
 unfold amendF; simp only [e2, getDD hb]
 rw [if_neg (by simp [hl]; omega), if_neg (by simp [h1, h2, h3, h4]), if_pos h]
variable (h5 : ¬ x.kind = 7)
include h5
theorem amF_4 (h : f.qty < x.qty) : amendF b x = (b, 4) := by
 unfold amendF; simp only [e2, getDD hb]
 rw [if_neg (by simp [hl]; omega), if_neg (by simp [h1, h2, h3, h4]), if_neg h5, if_pos h]
variable (h6 : ¬ f.qty < x.qty)
include h6
theorem amF_5 (h : (findF b.orders f.ord).2 = false ∨ fairF { (findF b.orders f.ord).1 with buy := f.buy } x.price = false) : amendF b x = (b, 5) := by
 unfold amendF; simp only [e2, getDD hb]
 rw [if_neg (by simp [hl]; omega), if_neg (by simp [h1, h2, h3, h4]), if_neg h5, if_neg h6, if_pos h]
theorem amF_ok (h7 : (findF b.orders f.ord).2 = true) (h8 : fairF { (findF b.orders f.ord).1 with buy := f.buy } x.price = true) : amendF b x = (⟨b.orders, b.fills.set n ⟨f.id, f.ord, f.acc, f.sym, f.buy, x.qty, x.price, f.time, f.live⟩, b.ids, b.clock, b.bad⟩, 0) := by
 unfold amendF; simp only [e2, getDD hb]
 rw [if_neg (by simp [hl]; omega), if_neg (by simp [h1, h2, h3, h4]), if_neg h5, if_neg h6, if_neg (by simp [h7, h8])]
end
theorem own_keepG {os ids y1 y2 : AV} {k c m : Nat} {l : List Dn} {x : Ex} {rest : List (Option (List AV))} (h0 : os.ren1 (selAt [0, 1, 2, 3, 4, 5]) = os) (hi : ids.ren1 (selAt [0, 1, 2, 3, 4, 5]) = ids) (h1 : y1.ren1 (selAt [0, 1, 2, 3, 4, 5]) = y1) (h2 : y2.ren1 (selAt [0, 1, 2, 3, 4, 5]) = y2) :
   selOwn (Z0 :: some [.agg [os, .mu 2 9 0 k c, ids, y1, y2]] :: some (l.map dnV ++ spare 9 m) :: some [exV x] :: some [exV x] :: some [exV x] :: rest) [0, 1, 2, 3, 4, 5] = [Z0, some [.agg [os, .mu 2 9 0 k c, ids, y1, y2]], some (l.map dnV ++ spare 9 m), some [exV x], some [exV x], some [exV x]] := by
 show [Z0, some [.agg [os.ren1 _, .mu 2 9 0 k c, ids.ren1 _, y1.ren1 _, y2.ren1 _]], some ((l.map dnV ++ spare 9 m).map _), some [exV x], some [exV x], some [exV x]] = _
 rw [dn_ren, h0, hi, h1, h2]
theorem wrap_t {a b : Int} (h1 : 0 ≤ a ∧ a ≤ 4611686018427387904) (h2 : 0 ≤ b ∧ b ≤ 4611686018427387904) : IntKind.i64.wrap (a - b) = a - b := wrap64_id (by omega) (by omega)
set_option maxRecDepth 100000 in
set_option maxHeartbeats 8000000 in
theorem replace_call {ops : Array Oper} {l : List Oper} {Q : Exit → St → Prop} {tmps up : List AV} {gl : Nat → Option (List AV)} {b : Bk} {x : Ex} {m : Nat} {dst : Option Tmp} {x0 x1 : Operand} {tys : Array TypeId} {ty : TypeId} {pos : String} {after : Array Edge}
   (hx0 : St.ev ⟨tmps, [Z0, some [bookV b m], some (rowV b m), some [exV x], some [exV x], some [exV x]], [b.ids.length], gl, none, up⟩ x0 = .ptr 1 0 0) (hx1 : St.ev ⟨tmps, [Z0, some [bookV b m], some (rowV b m), some [exV x], some [exV x], some [exV x]], [b.ids.length], gl, none, up⟩ x1 = exV x)
    (ho : b.orders.length ≤ 1000000) (hf : b.fills.length ≤ 1000000) (hup : (tmps ++ up).all (kp 6) = true)
   (h : ∀ (b' : Bk) (e : Int) (m' : Nat), replaceF b x = (b', e) → AWPL E ops l Q (St.put ⟨tmps, [Z0, some [bookV b' m'], some (rowV b' m'), some [exV x], some [exV x], some [exV x]], [b'.ids.length], gl, none, up⟩ dst (i64 e))) :
   AWPL E ops (⟨dst, .call ⟨.value (.func 211), #[x0, x1], tys⟩, ty, pos, after, none⟩ :: l) Q ⟨tmps, [Z0, some [bookV b m], some (rowV b m), some [exV x], some [exV x], some [exV x]], [b.ids.length], gl, none, up⟩ := by
 refine AWPL.call (caps := []) (rs := [.tmp 4]) Tryz.func211 rfl Tryz.ntmps211 rfl (by kernel_rfl) rfl rfl ?_
 show AWP E _ _ ⟨([St.ev ⟨tmps, [Z0, some [bookV b m], some (rowV b m), some [exV x], some [exV x], some [exV x]], [b.ids.length], gl, none, up⟩ x0, St.ev ⟨tmps, [Z0, some [bookV b m], some (rowV b m), some [exV x], some [exV x], some [exV x]], [b.ids.length], gl, none, up⟩ x1] ++ []) ++ List.replicate (32 - 2) (.v undef), [Z0, some [bookV b m], some (rowV b m), some [exV x], some [exV x], some [exV x]], [b.ids.length], gl, none, tmps ++ up⟩
 rw [hx0, hx1]
 have hK : ∀ (tm : List AV) (ow : List (Option (List AV))) (tk : List Nat) (b' : Bk) (e : Int) (m' : Nat), replaceF b x = (b', e) → ow = [Z0, some [bookV b' m'], some (rowV b' m'), some [exV x], some [exV x], some [exV x]] → tk = [b'.ids.length] → tm[4]? = some (i64 e) → AInPost E.P [.tmp 4] ⟨tmps, [Z0, some [bookV b m], some (rowV b m), some [exV x], some [exV x], some [exV x]], [b.ids.length], gl, none, up⟩ (fun s z => AWPL E ops l Q (s.put dst z)) .ret ⟨tm, ow, tk, gl, none, tmps ++ up⟩ := by
   intro tm ow tk b' e m' hb' how htk h4
   subst how; subst htk
   refine ⟨rfl, ?_⟩
   have : St.ev ⟨tm, [Z0, some [bookV b' m'], some (rowV b' m'), some [exV x], some [exV x], some [exV x]], [b'.ids.length], gl, none, tmps ++ up⟩ (.tmp 4) = i64 e := by simp [St.ev, List.getD_eq_getElem?_getD, h4]
   show AWPL E ops l Q (St.put _ dst (tupOf [St.ev _ (.tmp 4)]))
   rw [this]
   exact h b' e m' hb'
 generalize AInPost E.P [.tmp 4] ⟨tmps, [Z0, some [bookV b m], some (rowV b m), some [exV x], some [exV x], some [exV x]], [b.ids.length], gl, none, up⟩ (fun s z => AWPL E ops l Q (s.put dst z)) = Q' at hK ⊢
 generalize tmps ++ up = up' at hup hK ⊢
 clear h hx0 hx1
 refine AWP.seqk fun K1 hK1 => ?_
 refine AWP.region ?_
 simp only [go_sem]
 repeat' (first | fail)
 refine hK1 _ ?_; clear hK1 K1
 refine AWP.seqk fun K2 hK2 => ?_
 refine AWP.regionAs [0, 1, 2, 3, 4, 5, 6, 7, 8, 9, 10, 11, 12, 13, 14, 15, 16, 17] [[], [0], [0, 1], [0, 1, 2], [], [4], [], [6], [], [8], [], [10], [0, 1, 2, 3, 4, 5, 6, 7, 8, 9, 10, 11], [0, 1, 2, 3, 4, 5, 6, 7, 8, 9, 10, 11, 12], [0, 1, 2, 3, 4, 5, 6, 7, 8, 9, 10, 11, 12, 13], [0, 1, 2, 3, 4, 5, 6, 7, 8, 9, 10, 11, 12, 13], [0, 1, 2, 3, 4, 5, 6, 7, 8, 9, 10, 11, 12, 13, 14], [0, 1, 2, 3, 4, 5, 6, 7, 8, 9, 10, 11, 12, 13, 14, 15, 16]] [] (by kernel_rfl) (by kernel_rfl) (by decide) rfl ?_
 simp only [go_sem]
 repeat' (first | (refine ACall.of (ochange_c b.orders x.ref x.ord x.qty x.price (by omega)) (by kernel_rfl) rfl ?_; rintro r t ⟨⟨y, rfl, hy⟩, rfl⟩ <;> simp only [go_sem]) | fail)
 refine hK2 _ ?_; clear hK2 K2
 refine AWP.seqk fun K3 hK3 => ?_
 refine AWP.seqk fun K4 hK4 => ?_
 refine AWP.region ?_
 simp only [go_sem]
 repeat' (first | fail)
 refine hK4 _ ?_; clear hK4 K4
 refine AWP.block ?_
 refine AWP.seqk fun K5 hK5 => ?_
 refine AWP.region ?_
 simp only [go_sem]
 repeat' (first | fail)
 refine hK5 _ ?_; clear hK5 K5
 refine AWP.cond rfl (fun c24 => ?_) (fun c24 => ?_)
 · first | (
     try simp only [dD] at c24
     refine AWP.skip ?_
     refine hK3 _ ?_; clear hK3 K3
     refine AWP.seqk fun K6 hK6 => ?_
     have hx9 := hy (by assumption)
     subst hx9
     refine AWP.region ?_
     simp only [go_sem]
     repeat' (first | fail)
     refine hK6 _ ?_; clear hK6 K6
     refine AWP.seqk fun K7 hK7 => ?_
     refine AWP.region ?_
     simp only [go_sem]
     repeat' (first | fail)
     refine hK7 _ ?_; clear hK7 K7
     refine AWP.normW [0, 1, 2, 3, 4, 5] [Z0, some [bookV (replaceF b x).1 m], some (rowV (replaceF b x).1 m), some [exV x], some [exV x], some [exV x]] [b.ids.length] 6 (by decide) sg6 hup (Nat.le_refl _) (by rw [repF_ok (by assumption)]; exact own_keepG rfl rfl rfl rfl) own_bel3 ⟨rfl, trivial⟩ (Nat.le_refl _) ?_
     refine AWP.ret ?_
     try simp only [go_sem]
     first
     | exact hK _ _ _ (replaceF b x).1 0 m (by rw [repF_ok (by assumption)]) rfl (by rw [repF_ok (by assumption)]) rfl
     | fail)
 · first | (
     try simp only [dD] at c24
     refine AWP.seqk fun K8 hK8 => ?_
     refine AWP.region ?_
     simp only [go_sem]
     repeat' (first | fail)
     refine hK8 _ ?_; clear hK8 K8
     refine AWP.cond rfl (fun c26 => ?_) (fun c26 => ?_)
     · first | (
         try simp only [dD] at c26
         refine AWP.seqk fun K9 hK9 => ?_
         refine AWP.region ?_
         simp only [go_sem]
         repeat' (first | fail)
         refine hK9 _ ?_; clear hK9 K9
         refine AWP.normW [0, 1, 2, 3, 4, 5] [Z0, some [bookV b m], some (rowV b m), some [exV x], some [exV x], some [exV x]] [b.ids.length] 6 (by decide) sg6 hup (Nat.le_refl _) own_keep own_bel3 ⟨rfl, trivial⟩ (Nat.le_refl _) ?_
         refine AWP.ret ?_
         try simp only [go_sem]
         clear hK3 K3
         first
         | exact hK _ _ _ b _ m (repF_1 (by assumption)) rfl rfl rfl
         | fail)
     · first | (
         try simp only [dD] at c26
         refine AWP.seqk fun K10 hK10 => ?_
         refine AWP.region ?_
         simp only [go_sem]
         repeat' (first | fail)
         refine hK10 _ ?_; clear hK10 K10
         refine AWP.normW [0, 1, 2, 3, 4, 5] [Z0, some [bookV b m], some (rowV b m), some [exV x], some [exV x], some [exV x]] [b.ids.length] 6 (by decide) sg6 hup (Nat.le_refl _) own_keep own_bel3 ⟨rfl, trivial⟩ (Nat.le_refl _) ?_
         refine AWP.ret ?_
         try simp only [go_sem]
         clear hK3 K3
         first
         | exact hK _ _ _ b _ m (repF_2 (by assumption) (by assumption)) rfl rfl rfl
         | fail))
set_option maxRecDepth 100000 in
set_option maxHeartbeats 8000000 in
theorem amend_call {ops : Array Oper} {l : List Oper} {Q : Exit → St → Prop} {tmps up : List AV} {gl : Nat → Option (List AV)} {b : Bk} {x : Ex} {m : Nat} {dst : Option Tmp} {x0 x1 : Operand} {tys : Array TypeId} {ty : TypeId} {pos : String} {after : Array Edge}
   (hx0 : St.ev ⟨tmps, [Z0, some [bookV b m], some (rowV b m), some [exV x], some [exV x], some [exV x]], [b.ids.length], gl, none, up⟩ x0 = .ptr 1 0 0) (hx1 : St.ev ⟨tmps, [Z0, some [bookV b m], some (rowV b m), some [exV x], some [exV x], some [exV x]], [b.ids.length], gl, none, up⟩ x1 = exV x)
   (htx : 0 ≤ x.time ∧ x.time ≤ 4611686018427387904) (htf : ∀ f ∈ b.fills, 0 ≤ f.time ∧ f.time ≤ 4611686018427387904) (ho : b.orders.length ≤ 1000000) (hf : b.fills.length ≤ 1000000) (hup : (tmps ++ up).all (kp 6) = true)
   (h : ∀ (b' : Bk) (e : Int) (m' : Nat), amendF b x = (b', e) → AWPL E ops l Q (St.put ⟨tmps, [Z0, some [bookV b' m'], some (rowV b' m'), some [exV x], some [exV x], some [exV x]], [b'.ids.length], gl, none, up⟩ dst (i64 e))) :
   AWPL E ops (⟨dst, .call ⟨.value (.func 209), #[x0, x1], tys⟩, ty, pos, after, none⟩ :: l) Q ⟨tmps, [Z0, some [bookV b m], some (rowV b m), some [exV x], some [exV x], some [exV x]], [b.ids.length], gl, none, up⟩ := by
 refine AWPL.call (caps := []) (rs := [.tmp 4]) Tryz.func209 rfl Tryz.ntmps209 rfl (by kernel_rfl) rfl rfl ?_
 show AWP E _ _ ⟨([St.ev ⟨tmps, [Z0, some [bookV b m], some (rowV b m), some [exV x], some [exV x], some [exV x]], [b.ids.length], gl, none, up⟩ x0, St.ev ⟨tmps, [Z0, some [bookV b m], some (rowV b m), some [exV x], some [exV x], some [exV x]], [b.ids.length], gl, none, up⟩ x1] ++ []) ++ List.replicate (130 - 2) (.v undef), [Z0, some [bookV b m], some (rowV b m), some [exV x], some [exV x], some [exV x]], [b.ids.length], gl, none, tmps ++ up⟩
 rw [hx0, hx1]
 have hK : ∀ (tm : List AV) (ow : List (Option (List AV))) (tk : List Nat) (b' : Bk) (e : Int) (m' : Nat), amendF b x = (b', e) → ow = [Z0, some [bookV b' m'], some (rowV b' m'), some [exV x], some [exV x], some [exV x]] → tk = [b'.ids.length] → tm[4]? = some (i64 e) → AInPost E.P [.tmp 4] ⟨tmps, [Z0, some [bookV b m], some (rowV b m), some [exV x], some [exV x], some [exV x]], [b.ids.length], gl, none, up⟩ (fun s z => AWPL E ops l Q (s.put dst z)) .ret ⟨tm, ow, tk, gl, none, tmps ++ up⟩ := by
   intro tm ow tk b' e m' hb' how htk h4
   subst how; subst htk
   refine ⟨rfl, ?_⟩
   have : St.ev ⟨tm, [Z0, some [bookV b' m'], some (rowV b' m'), some [exV x], some [exV x], some [exV x]], [b'.ids.length], gl, none, tmps ++ up⟩ (.tmp 4) = i64 e := by simp [St.ev, List.getD_eq_getElem?_getD, h4]
   show AWPL E ops l Q (St.put _ dst (tupOf [St.ev _ (.tmp 4)]))
   rw [this]
   exact h b' e m' hb'
 generalize AInPost E.P [.tmp 4] ⟨tmps, [Z0, some [bookV b m], some (rowV b m), some [exV x], some [exV x], some [exV x]], [b.ids.length], gl, none, up⟩ (fun s z => AWPL E ops l Q (s.put dst z)) = Q' at hK ⊢
 generalize tmps ++ up = up' at hup hK ⊢
 clear h hx0 hx1
 refine AWP.seqk fun K1 hK1 => ?_
 refine AWP.region ?_
 simp only [go_sem]
 repeat' (first | fail)
 refine hK1 _ ?_; clear hK1 K1
 refine AWP.seqk fun K2 hK2 => ?_
 refine AWP.region ?_
 simp only [go_sem]
 repeat' (first | (refine ACall.snapOne (dindex_c b.fills x (by omega)) (by kernel_rfl) rfl (.cons (.one (.mu' rfl (by simp) (cl_dn _))) (.cons (.fn (.cons (.ptr (e := exV x) rfl (cl_ex x)) .nil)) .nil)) ?_; simp only [go_sem]) | fail)
 refine hK2 _ ?_; clear hK2 K2
 refine AWP.seqk fun K3 hK3 => ?_
 refine AWP.seqk fun K4 hK4 => ?_
 rcases at_cases b.fills x.ref with ⟨e, e2⟩ | ⟨n, f, e, e2, hb⟩ <;> simp only [e]
 all_goals first | have hn : n < b.fills.length := get_lt hb | skip
 all_goals first | have hg := dn_get hb (spare 9 m) | have hg : True := trivial
 all_goals first | have hw := wrap_t htx (htf f (List.mem_of_getElem? hb)) | have hw : True := trivial
 all_goals (
   refine AWP.regionAs [0, 1, 2, 3, 4, 5, 6, 7, 8, 9, 10, 11, 12, 13, 14, 15, 16, 17, 18, 19, 20, 21, 22, 23, 24, 25, 26] [[], [0], [0, 1], [0, 1, 2], [0, 1, 2, 3], [0, 1, 2, 3, 4], [0, 1, 2, 3, 4, 5], [0, 1, 2], [0, 1, 2, 3, 4, 5, 6, 7], [0, 1, 2, 3, 4, 5, 6, 7, 8], [0, 1, 2, 3, 4, 5, 6, 7, 8, 9], [0, 1, 2, 3, 4, 5, 6, 7, 8, 9, 10], [0, 1, 2, 3, 4, 5, 6, 7, 8, 9, 10, 11], [0, 1, 2, 3, 4, 5, 6, 7, 8, 9, 10, 11, 12], [0, 1, 2, 3, 4, 5, 6, 7, 8, 9, 10, 11, 12, 13], [0, 1, 2, 3, 4, 5, 6, 7, 8, 9, 10, 11, 12, 13, 14], [0, 1, 2, 3, 4, 5, 6, 7, 8, 9, 10, 11, 12, 13], [0, 1, 2, 3, 4, 5, 6, 7, 8, 9, 10, 11, 12, 13, 16], [0, 1, 2, 3, 4, 5, 6, 7, 8, 9, 10, 11, 12, 13, 16, 17], [0, 1, 2, 3, 4, 5, 6, 7, 8, 9, 10, 11, 12, 13, 16, 17, 18], [0, 1, 2, 3, 4, 5, 6, 7, 8, 9, 10, 11, 12, 13], [0, 1, 2, 3, 4, 5, 6, 7, 8, 9, 10, 11, 12, 13, 16, 17, 18, 19, 20], [0, 1, 2, 3, 4, 5, 6, 7, 8, 9, 10, 11, 12, 13, 16, 17, 18, 19, 20, 21], [0, 1, 2, 3, 4, 5, 6, 7, 8, 9, 10, 11, 12, 13, 16, 17, 18, 19, 20, 21, 22], [0, 1, 2, 3, 4, 5, 6, 7, 8, 9, 10, 11, 12, 13, 14, 15, 16, 17, 18, 19, 20, 21, 22, 23], [0, 1, 2, 3, 4, 5, 6, 7, 8, 9, 10, 11, 12, 13, 14, 15, 16, 17, 18, 19, 20, 21, 22, 23, 24], [0, 1, 2, 3, 4, 5, 6, 7, 8, 9, 10, 11, 12, 13, 14, 15, 16, 17, 18, 19, 20, 21, 22, 23, 24, 25]] [] (by kernel_rfl) (by kernel_rfl) (by decide) rfl ?_
   simp only [go_sem, hg, hw]
   repeat' (first | (refine AGuard.splitN (fun h => ?_) (fun h => ?_) <;> simp only [h, go_sem, hg, hw] <;> try simp only [dD] at h) | (refine AGuard.split (fun h => ?_) (fun h => ?_) <;> simp only [h, go_sem, hg, hw] <;> try simp only [dD] at h) | ((first | with_reducible refine And.intro ?_ ?_); (focus ((first | omega | fail))); (try simp only [hb, go_sem, hg, hw])))
   all_goals (
     refine hK4 _ ?_; clear hK4 K4
     refine AWP.cond rfl (fun c41 => ?_) (fun c41 => ?_)
     · first | (
         try simp only [dD] at c41
         refine AWP.seqk fun K5 hK5 => ?_
         refine AWP.region ?_
         simp only [go_sem]
         repeat' (first | fail)
         refine hK5 _ ?_; clear hK5 K5
         refine AWP.normW [0, 1, 2, 3, 4, 5] [Z0, some [bookV b m], some (rowV b m), some [exV x], some [exV x], some [exV x]] [b.ids.length] 6 (by decide) sg6 hup (Nat.le_refl _) own_keep own_bel3 ⟨rfl, trivial⟩ (Nat.le_refl _) ?_
         refine AWP.ret ?_
         try simp only [go_sem]
         clear hK3 K3
         first
         | (exfalso; omega)
         | exact hK _ _ _ b _ m (amF_6 e2) rfl rfl rfl
         | exact hK _ _ _ b _ m (amF_6a e2 hb (by assumption)) rfl rfl rfl
         | exact hK _ _ _ b _ m (amF_6b e2 hb (by assumption)) rfl rfl rfl
         | fail)
     · first | exact Bool.noConfusion c41 | (
         try simp only [dD] at c41
         refine AWP.skip ?_
         refine hK3 _ ?_; clear hK3 K3
         refine AWP.seqk fun K6 hK6 => ?_
         refine AWP.region ?_
         simp only [go_sem, hg]
         repeat' (first | ((first | with_reducible refine And.intro ?_ ?_); (focus ((first | omega | fail))); (try simp only [hb, go_sem, hg])))
         refine hK6 _ ?_; clear hK6 K6
         refine AWP.seqk fun K7 hK7 => ?_
         refine AWP.seqk fun K8 hK8 => ?_
         refine AWP.regionAs [0, 1, 2, 3, 4, 5, 6, 7, 8, 9, 10, 11, 12, 13, 14, 15, 16, 17, 18, 19, 20, 21, 22, 23, 24, 25, 26, 27, 28, 29, 30, 31, 32, 33] [[], [0], [0, 1], [0, 1, 2], [], [4], [0, 1, 2, 3, 4, 5], [0, 1, 2, 3, 4, 5, 6], [0, 1, 2, 3, 4, 5, 6, 7], [0, 1, 2, 3, 4, 5, 6, 7, 8], [0, 1, 2, 3, 4, 5, 6, 7, 8, 9], [0, 1, 2, 3, 4, 5, 6, 7, 8, 9, 10], [0, 1, 2, 3, 4, 5, 6, 7], [0, 1, 2, 3, 4, 5, 6, 7, 12], [0, 1, 2, 3, 4, 5, 6, 7, 8, 9, 10, 11, 12, 13], [0, 1, 2, 3, 4, 5, 6, 7, 8, 9, 10, 11, 12, 13, 14], [0, 1, 2, 3, 4, 5, 6, 7, 8, 9, 10, 11, 12, 13, 14, 15], [0, 1, 2, 3, 4, 5, 6, 7, 8, 9, 10, 11, 12, 13, 14, 15, 16], [0, 1, 2, 3, 4, 5, 6, 7, 8, 9, 10, 11, 12, 13, 14, 15, 16, 17], [0, 1, 2, 3, 4, 5, 6, 7, 8, 9, 10, 11, 12, 13, 14, 15, 16, 17, 18], [0, 1, 2, 3, 4, 5, 6, 7, 8, 9, 10, 11, 12, 13, 14, 15, 16, 17, 18, 19], [0, 1, 2, 3, 4, 5, 6, 7, 8, 9, 10, 11, 12, 13, 14, 15, 16], [0, 1, 2, 3, 4, 5, 6, 7, 8, 9, 10, 11, 12, 13, 14, 15, 16, 21], [0, 1, 2, 3, 4, 5, 6, 7, 8, 9, 10, 11, 12, 13, 14, 15, 16, 17, 18, 19, 20, 21, 22], [0, 1, 2, 3, 4, 5, 6, 7, 8, 9, 10, 11, 12, 13, 14, 15, 16, 17, 18, 19, 20, 21, 22, 23], [0, 1, 2, 3, 4, 5, 6, 7, 8, 9, 10, 11, 12, 13, 14, 15, 16, 17, 18, 19, 20, 21, 22, 23, 24], [0, 1, 2, 3, 4, 5, 6, 7, 8, 9, 10, 11, 12, 13, 14, 15, 16, 17, 18, 19, 20, 21, 22, 23, 24, 25], [0, 1, 2, 3, 4, 5, 6, 7, 8, 9, 10, 11, 12, 13, 14, 15, 16, 17, 18, 19, 20, 21, 22, 23, 24, 25, 26], [0, 1, 2, 3, 4, 5, 6, 7, 8, 9, 10, 11, 12, 13, 14, 15, 16, 17, 18, 19, 20, 21, 22, 23, 24, 25, 26, 27], [0, 1, 2, 3, 4, 5, 6, 7, 8, 9, 10, 11, 12, 13, 14, 15, 16, 17, 18, 19, 20, 21, 22, 23, 24, 25, 26, 27, 28], [0, 1, 2, 3, 4, 5, 6, 7, 8, 9, 10, 11, 12, 13, 14, 15, 16, 17, 18, 19, 20, 21, 22, 23, 24, 25], [0, 1, 2, 3, 4, 5, 6, 7, 8, 9, 10, 11, 12, 13, 14, 15, 16, 17, 18, 19, 20, 21, 22, 23, 24, 25, 30], [0, 1, 2, 3, 4, 5, 6, 7, 8, 9, 10, 11, 12, 13, 14, 15, 16, 17, 18, 19, 20, 21, 22, 23, 24, 25, 26, 27, 28, 29, 30, 31], [0, 1, 2, 3, 4, 5, 6, 7, 8, 9, 10, 11, 12, 13, 14, 15, 16, 17, 18, 19, 20, 21, 22, 23, 24, 25, 26, 27, 28, 29, 30, 31, 32]] [] (by kernel_rfl) (by kernel_rfl) (by decide) rfl ?_
         simp only [go_sem, hg]
         repeat' (first | (refine AGuard.split (fun h => ?_) (fun h => ?_) <;> simp only [h, go_sem, hg] <;> try simp only [dD] at h) | fail)
         all_goals (
           refine hK8 _ ?_; clear hK8 K8
           refine AWP.cond rfl (fun c81 => ?_) (fun c81 => ?_)
           · first | (
               try simp only [dD] at c81
               refine AWP.seqk fun K9 hK9 => ?_
               refine AWP.region ?_
               simp only [go_sem]
               repeat' (first | fail)
               refine hK9 _ ?_; clear hK9 K9
               refine AWP.normW [0, 1, 2, 3, 4, 5] [Z0, some [bookV b m], some (rowV b m), some [exV x], some [exV x], some [exV x]] [b.ids.length] 6 (by decide) sg6 hup (Nat.le_refl _) own_keep own_bel3 ⟨rfl, trivial⟩ (Nat.le_refl _) ?_
               refine AWP.ret ?_
               try simp only [go_sem]
               clear hK7 K7
               first
               | exact hK _ _ _ b _ m (amF_3 e2 hb (by assumption) (by assumption) (.inl (by assumption))) rfl rfl rfl
               | exact hK _ _ _ b _ m (amF_3 e2 hb (by assumption) (by assumption) (.inr (.inl (by assumption)))) rfl rfl rfl
               | exact hK _ _ _ b _ m (amF_3 e2 hb (by assumption) (by assumption) (.inr (.inr (.inl (by assumption))))) rfl rfl rfl
               | exact hK _ _ _ b _ m (amF_3 e2 hb (by assumption) (by assumption) (.inr (.inr (.inr (by assumption))))) rfl rfl rfl
               | fail)
           · first | exact Bool.noConfusion c81 | (
               try simp only [dD] at c81
               refine AWP.skip ?_
               refine hK7 _ ?_; clear hK7 K7
               refine AWP.seqk fun K10 hK10 => ?_
               refine AWP.seqk fun K11 hK11 => ?_
               refine AWP.region ?_
               simp only [go_sem]
               repeat' (first | fail)
               refine hK11 _ ?_; clear hK11 K11
               refine AWP.cond rfl (fun c84 => ?_) (fun c84 => ?_)
               · first | (
                   try simp only [dD] at c84
                   refine AWP.seqk fun K12 hK12 => ?_
                   refine AWP.region ?_
                   simp only [go_sem]
                   repeat' (first | (refine AGet.have' (by assumption) ?_; (try simp only [go_sem])) | fail)
                   refine hK12 _ ?_; clear hK12 K12
                   refine AWP.seqk fun K13 hK13 => ?_
                   rw [dn_set (o' := ⟨f.id, f.ord, f.acc, f.sym, f.buy, f.qty, f.price, f.time, false⟩) hb (spare 9 m)]
                   refine AWP.region ?_
                   simp only [go_sem]
                   repeat' (first | fail)
                   refine hK13 _ ?_; clear hK13 K13
                   refine AWP.normW [0, 1, 2, 3, 4, 5] [Z0, some [bookV (amendF b x).1 m], some (rowV (amendF b x).1 m), some [exV x], some [exV x], some [exV x]] [b.ids.length] 6 (by decide) sg6 hup (Nat.le_refl _) (by rw [amF_bust e2 hb (by assumption) (by assumption) (by assumption) (by assumption) (by assumption) (by assumption) (by assumption)]; exact (own_keepG rfl rfl rfl rfl).trans (by simp [rowV])) own_bel3 ⟨rfl, trivial⟩ (Nat.le_refl _) ?_
                   refine AWP.ret ?_
                   try simp only [go_sem]
                   clear hK10 K10
                   first
                   | exact hK _ _ _ (amendF b x).1 0 m (by rw [amF_bust e2 hb (by assumption) (by assumption) (by assumption) (by assumption) (by assumption) (by assumption) (by assumption)]) rfl (by rw [amF_bust e2 hb (by assumption) (by assumption) (by assumption) (by assumption) (by assumption) (by assumption) (by assumption)]) rfl
                   | fail)
               · first | (
                   try simp only [dD] at c84
                   refine AWP.skip ?_
                   refine hK10 _ ?_; clear hK10 K10
                   refine AWP.seqk fun K14 hK14 => ?_
                   refine AWP.seqk fun K15 hK15 => ?_
                   refine AWP.regionAs [0, 1, 2, 3, 4, 5, 6] [[], [0], [], [2], [2, 3], [2, 3, 4], [0, 1, 2, 3, 4, 5]] [] (by kernel_rfl) (by kernel_rfl) (by decide) rfl ?_
                   simp only [go_sem, hg]
                   repeat' (first | fail)
                   refine hK15 _ ?_; clear hK15 K15
                   refine AWP.cond rfl (fun c94 => ?_) (fun c94 => ?_)
                   · first | (
                       try simp only [dD] at c94
                       refine AWP.seqk fun K16 hK16 => ?_
                       refine AWP.region ?_
                       simp only [go_sem]
                       repeat' (first | fail)
                       refine hK16 _ ?_; clear hK16 K16
                       refine AWP.normW [0, 1, 2, 3, 4, 5] [Z0, some [bookV b m], some (rowV b m), some [exV x], some [exV x], some [exV x]] [b.ids.length] 6 (by decide) sg6 hup (Nat.le_refl _) own_keep own_bel3 ⟨rfl, trivial⟩ (Nat.le_refl _) ?_
                       refine AWP.ret ?_
                       try simp only [go_sem]
                       clear hK14 K14
                       first
                       | exact hK _ _ _ b _ m (amF_4 e2 hb (by assumption) (by assumption) (by assumption) (by assumption) (by assumption) (by assumption) (by assumption) (by assumption)) rfl rfl rfl
                       | fail)
                   · first | (
                       try simp only [dD] at c94
                       refine AWP.skip ?_
                       refine hK14 _ ?_; clear hK14 K14
                       refine AWP.seqk fun K17 hK17 => ?_
                       refine AWP.regionAny (.take 0 (.take 1 (.take 2 (.take 3 (.take 4 (.take 5 (.take 6 (.take 7 (.fork (.alt 8 (.take 9 (.take 10 (.take 11 (.take 12 (.take 13 (.take 14 .done)))))) (.alt 12 (.take 8 (.take 9 (.take 10 (.take 11 (.take 13 (.take 14 .done)))))) .ends))))))))))) [[], [0], [0, 1], [0, 1, 2], [], [4], [4, 5], [4, 5, 6], [0, 1, 2, 3, 4, 5, 6, 7], [0, 1, 2, 3, 4, 5, 6, 7, 8], [0, 1, 2, 3, 4, 5, 6, 7, 8, 9], [0, 1, 2, 3, 4, 5, 6, 7, 8, 9], [], [0, 1, 2, 3, 4, 5, 6, 7, 8, 9, 10, 12], [0, 1, 2, 3, 4, 5, 6, 7, 8, 9, 10, 11, 12, 13]] [7] (by kernel_rfl) (by kernel_rfl) (by decide) ?_
                       simp only [go_sem, hg]
                       refine And.intro ?_ ?_
                       repeat' (first | (refine ACall.one (ofind_c b.orders f.ord (by omega)) (by kernel_rfl) rfl ?_; simp only [go_sem, hg]) | fail)
                       all_goals (
                         refine hK17 _ ?_; clear hK17 K17
                         refine AWP.seqk fun K18 hK18 => ?_
                         refine AWP.seqk fun K19 hK19 => ?_
                         refine AWP.regionAs [0, 1, 2, 3, 4, 5, 6, 7, 8, 9, 10, 11, 12] [[], [0], [0, 1], [0, 1, 2], [0, 1, 2], [0, 1, 2, 4], [0, 1, 2, 4, 5], [0, 1, 2, 4, 5, 6], [0, 1, 2], [0, 1, 2, 8], [0, 1, 2, 3, 4, 5, 6, 7, 8, 9], [0, 1, 2, 3, 4, 5, 6, 7, 8, 9, 10], [0, 1, 2, 3, 4, 5, 6, 7, 8, 9, 10, 11]] [] (by kernel_rfl) (by kernel_rfl) (by decide) rfl ?_
                         simp only [go_sem, hg]
                         repeat' (first | (refine ACall.one (bfair_c (findF b.orders f.ord).1 f.buy x.price) (by kernel_rfl) rfl ?_; simp only [go_sem, hg]) | (refine AGuard.split (fun h => ?_) (fun h => ?_) <;> simp only [h, go_sem, hg] <;> try simp only [dD] at h) | fail)
                         all_goals (
                           refine hK19 _ ?_; clear hK19 K19
                           refine AWP.cond rfl (fun c119 => ?_) (fun c119 => ?_)
                           · first | (
                               try simp only [dD] at c119
                               refine AWP.seqk fun K20 hK20 => ?_
                               refine AWP.region ?_
                               simp only [go_sem]
                               repeat' (first | fail)
                               refine hK20 _ ?_; clear hK20 K20
                               refine AWP.normW [0, 1, 2, 3, 4, 5] [Z0, some [bookV b m], some (rowV b m), some [exV x], some [exV x], some [exV x]] [b.ids.length] 6 (by decide) sg6 hup (Nat.le_refl _) own_keep own_bel3 ⟨rfl, trivial⟩ (Nat.le_refl _) ?_
                               refine AWP.ret ?_
                               try simp only [go_sem]
                               clear hK18 K18
                               first
                               | exact hK _ _ _ b _ m (amF_5 e2 hb (by assumption) (by assumption) (by assumption) (by assumption) (by assumption) (by assumption) (by assumption) (by assumption) (.inl (by assumption))) rfl rfl rfl
                               | exact hK _ _ _ b _ m (amF_5 e2 hb (by assumption) (by assumption) (by assumption) (by assumption) (by assumption) (by assumption) (by assumption) (by assumption) (.inr (by assumption))) rfl rfl rfl
                               | fail)
                           · first | exact Bool.noConfusion c119 | (
                               try simp only [dD] at c119
                               refine AWP.skip ?_
                               refine hK18 _ ?_; clear hK18 K18
                               refine AWP.seqk fun K21 hK21 => ?_
                               refine AWP.region ?_
                               simp only [go_sem]
                               repeat' (first | (refine AGet.have' (by assumption) ?_; (try simp only [go_sem])) | fail)
                               refine hK21 _ ?_; clear hK21 K21
                               refine AWP.seqk fun K22 hK22 => ?_
                               rw [dn_set (o' := ⟨f.id, f.ord, f.acc, f.sym, f.buy, x.qty, f.price, f.time, f.live⟩) hb (spare 9 m)]
                               have hb1 : (b.fills.set n ⟨f.id, f.ord, f.acc, f.sym, f.buy, x.qty, f.price, f.time, f.live⟩)[n]? = some ⟨f.id, f.ord, f.acc, f.sym, f.buy, x.qty, f.price, f.time, f.live⟩ := List.getElem?_set_self hn
                               have hg2 := dn_get hb1 (spare 9 m)
                               refine AWP.region ?_
                               simp only [go_sem, hg2]
                               repeat' (first | fail)
                               refine hK22 _ ?_; clear hK22 K22
                               refine AWP.seqk fun K23 hK23 => ?_
                               rw [dn_set (o' := ⟨f.id, f.ord, f.acc, f.sym, f.buy, x.qty, x.price, f.time, f.live⟩) hb1 (spare 9 m), List.set_set]
                               refine AWP.region ?_
                               simp only [go_sem]
                               repeat' (first | fail)
                               refine hK23 _ ?_; clear hK23 K23
                               refine AWP.normW [0, 1, 2, 3, 4, 5] [Z0, some [bookV (amendF b x).1 m], some (rowV (amendF b x).1 m), some [exV x], some [exV x], some [exV x]] [b.ids.length] 6 (by decide) sg6 hup (Nat.le_refl _) (by rw [amF_ok e2 hb (by assumption) (by assumption) (by assumption) (by assumption) (by assumption) (by assumption) (by assumption) (by assumption) (by assumption) (by assumption)]; exact (own_keepG rfl rfl rfl rfl).trans (by simp [rowV])) own_bel3 ⟨rfl, trivial⟩ (Nat.le_refl _) ?_
                               refine AWP.ret ?_
                               try simp only [go_sem]
                               first
                               | exact hK _ _ _ (amendF b x).1 0 m (by rw [amF_ok e2 hb (by assumption) (by assumption) (by assumption) (by assumption) (by assumption) (by assumption) (by assumption) (by assumption) (by assumption) (by assumption)]) rfl (by rw [amF_ok e2 hb (by assumption) (by assumption) (by assumption) (by assumption) (by assumption) (by assumption) (by assumption) (by assumption) (by assumption) (by assumption)]) rfl
                               | fail))))))))))
end Go.Proofs.YtajeeghgiilhiaaGreat
end
