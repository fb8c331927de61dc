import Derived.Test.YtlhdnenlgceeeaaQ2
import Derived.Test.YtlhdnenlgceeeaaLf
import Derived.Test.YtlhdnenlgceeeaaLg
import Derived.Test.YtlhdnenlgceeeaaBkP
set_option linter.unusedVariables false
set_option linter.unusedSimpArgs false
namespace Go.Proofs.Ytlhdnenlgceeeaa
open Go Go.Abs Go.RowKit Go.Bk
theorem may_bounds {o : Od} (h : mayB o = true) : 0 ≤ o.done ∧ o.done ≤ o.qty ∧ 0 ≤ o.qty ∧ o.qty ≤ 1099511627776 ∧ 0 ≤ o.price ∧ o.price ≤ 1099511627776 := by
  simp only [mayB, smallB, Bool.and_eq_true, decide_eq_true_eq] at h; omega
theorem may_change {o : Od} {b : Bs} {q p : Int} {x : Bool} (h : mayB o = true) (h1 : namedB b = true) (h2 : smallB q = true) (h3 : smallB p = true) (h4 : o.done ≤ q) : mayB ⟨b, o.acc, o.sym, o.buy, q, p, o.done, x⟩ = true := by
  simp only [mayB, Bool.and_eq_true, decide_eq_true_eq] at h ⊢
  obtain ⟨⟨⟨⟨⟨⟨a1, a2⟩, a3⟩, a4⟩, a5⟩, a6⟩, a7⟩ := h
  exact ⟨⟨⟨⟨⟨⟨h1, a2⟩, a3⟩, h2⟩, h3⟩, a6⟩, h4⟩
theorem with_take {α : Type} {f : α → AV} {l : List α} {n k m : Nat} {o : α} (hn : n < l.length) : ((l.map f ++ spare k m).set n (f o)).take l.length = (l.set n o).map f := by
  rw [List.set_append_left _ _ (by simpa using hn), List.take_left' (by simp), List.map_set]

set_option maxHeartbeats 4000000 in
set_option maxRecDepth 8000 in
theorem r11with_c (l : List Od) (n : Nat) (o : Od) (hn : n < l.length) (hl : l.length ≤ 1000000) : ACalls E 139 [odsV l, i64 n, odV o] (fun r t => r = .sl (some 0) 8 ((l.set n o).map odV) ∧ t = [l.length]) := by -- checkroll/checkrollref11.with
  refine ACalls.of_awp (n := 16) (rs := [.tmp 6]) Try.func139 rfl Try.ntmps139 rfl ?_
  repeat' (first
    | refine AWP.seqk fun K hK => ?_
    | (
        refine AWP.here 2 11 5 rfl ?_
        obtain ⟨b, hb⟩ : ∃ b, l[n]? = some b := ⟨_, List.getElem?_eq_getElem hn⟩
        have hb2 : (l.map odV ++ spare 8 mm)[n]? = some (odV b) := by rw [List.getElem?_append_left (by simpa using hn), List.getElem?_map, hb]; rfl
        refine AWP.region ?_; simp only [go_sem])
    | (
        refine AWP.here 3 15 2 rfl ?_
        refine AWP.retoken 7 2 8 l.length ((l.map odV ++ spare 8 mm).set n (odV o)) (congrArg (fun x => some (AV.mu 2 8 0 l.length x)) (by simp [spare_len])) rfl (by simp) (by rw [with_take hn]; exact cl_od _) ?_
        rw [with_take hn]
        refine AWP.region ?_; simp only [go_sem])
    | (
        refine AWP.here 1 8 4 rfl ?_
        refine AWP.regionL ?_
        refine AWPL.mkMu ap28 ?_
        simp only [go_sem]
        refine AWPL.of ?_
        simp only [go_sem])
    | (refine AWP.region ?_; simp only [go_sem])
    | (refine hK _ ?_; clear hK K)
    | refine AWP.block ?_
    | refine AWP.cond rfl (fun c => ?_) (fun c => ?_) <;> first | exact Bool.noConfusion c | (try simp only [dD] at c)
    | refine AWP.skip ?_
    | (refine AWP.exit ?_; simp only [go_sem])
    | (refine AGet.haveM (by assumption) ?_; (try simp only [go_sem]))
    | (refine AGet.have' (by assumption) ?_; (try simp only [go_sem]))
    | ((first | refine AGet.nth ?_ (fun b hb => ?_) | refine AGet.nth1 ?_ (fun b hb => ?_) | with_reducible refine And.intro ?_ ?_); (focus (first | omega | assumption | exact List.length_pos_iff.2 (by assumption) | (simp only [List.length_append, List.length_cons, List.length_nil, List.length_map, List.length_take, List.length_drop] at *; omega) | (rw [wrap64_id (by omega) (by omega)]; omega) | (simp; done) | (simp [spare_len]; done) | (exact ⟨by omega, by omega⟩) | (intro e; have e2 := congrArg List.length e; simp only [List.length_map, List.length_nil] at e2; omega))); (try simp only [hb, go_sem]))
    | (
        refine AWP.ret ?_
        simp only [go_sem]
        exact ⟨[(true, 0)], .sl (some 0) 8 _, rfl, ⟨rfl, rfl, rfl⟩, rfl, by simp [selLens]⟩)
    | (refine fun (mm : Nat) => ?_; simp only [go_sem])
    | refine AWP.fin (by assumption) ?_)

set_option maxHeartbeats 4000000 in
set_option maxRecDepth 8000 in
theorem r12with_c (l : List Dn) (n : Nat) (o : Dn) (hn : n < l.length) (hl : l.length ≤ 1000000) : ACalls E 138 [dnsV l, i64 n, dnV o] (fun r t => r = .sl (some 0) 9 ((l.set n o).map dnV) ∧ t = [l.length]) := by -- checkroll/checkrollref12.with
  refine ACalls.of_awp (n := 16) (rs := [.tmp 6]) Try.func138 rfl Try.ntmps138 rfl ?_
  repeat' (first
    | refine AWP.seqk fun K hK => ?_
    | (
        refine AWP.here 2 11 5 rfl ?_
        obtain ⟨b, hb⟩ : ∃ b, l[n]? = some b := ⟨_, List.getElem?_eq_getElem hn⟩
        have hb2 : (l.map dnV ++ spare 9 mm)[n]? = some (dnV b) := by rw [List.getElem?_append_left (by simpa using hn), List.getElem?_map, hb]; rfl
        refine AWP.region ?_; simp only [go_sem])
    | (
        refine AWP.here 3 15 2 rfl ?_
        refine AWP.retoken 7 2 9 l.length ((l.map dnV ++ spare 9 mm).set n (dnV o)) (congrArg (fun x => some (AV.mu 2 9 0 l.length x)) (by simp [spare_len])) rfl (by simp) (by rw [with_take hn]; exact cl_dn _) ?_
        rw [with_take hn]
        refine AWP.region ?_; simp only [go_sem])
    | (
        refine AWP.here 1 8 4 rfl ?_
        refine AWP.regionL ?_
        refine AWPL.mkMu ap29 ?_
        simp only [go_sem]
        refine AWPL.of ?_
        simp only [go_sem])
    | (refine AWP.region ?_; simp only [go_sem])
    | (refine hK _ ?_; clear hK K)
    | refine AWP.block ?_
    | refine AWP.cond rfl (fun c => ?_) (fun c => ?_) <;> first | exact Bool.noConfusion c | (try simp only [dD] at c)
    | refine AWP.skip ?_
    | (refine AWP.exit ?_; simp only [go_sem])
    | (refine AGet.haveM (by assumption) ?_; (try simp only [go_sem]))
    | (refine AGet.have' (by assumption) ?_; (try simp only [go_sem]))
    | ((first | refine AGet.nth ?_ (fun b hb => ?_) | refine AGet.nth1 ?_ (fun b hb => ?_) | with_reducible refine And.intro ?_ ?_); (focus (first | omega | assumption | exact List.length_pos_iff.2 (by assumption) | (simp only [List.length_append, List.length_cons, List.length_nil, List.length_map, List.length_take, List.length_drop] at *; omega) | (rw [wrap64_id (by omega) (by omega)]; omega) | (simp; done) | (simp [spare_len]; done) | (exact ⟨by omega, by omega⟩) | (intro e; have e2 := congrArg List.length e; simp only [List.length_map, List.length_nil] at e2; omega))); (try simp only [hb, go_sem]))
    | (
        refine AWP.ret ?_
        simp only [go_sem]
        exact ⟨[(true, 0)], .sl (some 0) 9 _, rfl, ⟨rfl, rfl, rfl⟩, rfl, by simp [selLens]⟩)
    | (refine fun (mm : Nat) => ?_; simp only [go_sem])
    | refine AWP.fin (by assumption) ?_)

set_option maxHeartbeats 4000000 in
set_option maxRecDepth 8000 in
theorem r11new_c (l : List Od) (o : Od) (hl : l.length ≤ 1000000) : ACalls E 121 [odsV l, odV o] (fun r t => r = .tup [odsV (newO l o).1, i64 (newO l o).2] ∧ t = []) := by -- checkroll/checkrollref11.New
  refine ACalls.of_awp (n := 33) (rs := [.tmp 4, .tmp 5]) Try.func121 rfl Try.ntmps121 rfl ?_
  repeat' (first
    | refine AWP.seqk fun K hK => ?_
    | (refine AWP.region ?_; simp only [go_sem])
    | (refine AWP.here 9 27 8 rfl ?_; refine AWP.regionAnyT (.take 1 (.take 3 (.fork (.alt 0 (.fork (.alt 2 (.take 4 (.take 5 (.take 6 (.take 7 .done)))) (.alt 4 (.take 2 (.take 5 (.take 6 (.take 7 .done)))) .ends))) (.alt 4 (.take 0 (.take 2 (.take 5 (.take 6 (.take 7 .done))))) .ends))))) [[], [], [0, 1], [], [3], [0, 1, 2, 3, 4], [0, 1, 2, 3, 4, 5], [0, 1, 2, 3, 4, 5, 6]] [] (by kernel_rfl) (by kernel_rfl) ?_; simp only [go_sem])
    | (refine hK _ ?_; clear hK K)
    | refine AWP.block ?_
    | refine AWP.cond rfl (fun c => ?_) (fun c => ?_) <;> first | exact Bool.noConfusion c | (try simp only [dD] at c)
    | refine AWP.skip ?_
    | (refine AWP.exit ?_; simp only [go_sem])
    | (refine ACall.one (r11right_c _ (by first | assumption | omega | (simp only [List.length_take]; omega))) (by kernel_rfl) rfl ?_; simp only [go_sem])
    | (refine ACall.one (r11may_c ⟨o.id, o.acc, o.sym, o.buy, o.qty, o.price, 0, true⟩) (by kernel_rfl) rfl ?_; simp only [go_sem])
    | (refine ACall.one (r11at_c _ _ (by first | assumption | omega | (simp only [List.length_take]; omega))) (by kernel_rfl) rfl ?_; simp only [go_sem])
    | (refine AGuard.splitN (fun h => ?_) (fun h => ?_) <;> simp only [h, go_sem] <;> (try simp only [dD] at h))
    | (refine AGuard.split (fun h => ?_) (fun h => ?_) <;> simp only [h, go_sem] <;> (try simp only [dD] at h))
    | (refine AGet.haveM (by assumption) ?_; (try simp only [go_sem]))
    | (refine AGet.have' (by assumption) ?_; (try simp only [go_sem]))
    | ((first | refine AGet.nth ?_ (fun b hb => ?_) | refine AGet.nth1 ?_ (fun b hb => ?_) | with_reducible refine And.intro ?_ ?_); (focus (first | omega | assumption | exact List.length_pos_iff.2 (by assumption) | (simp only [List.length_append, List.length_cons, List.length_nil, List.length_map, List.length_take, List.length_drop] at *; omega) | (rw [wrap64_id (by omega) (by omega)]; omega) | (simp; done) | (simp [spare_len]; done) | (exact ⟨by omega, by omega⟩))); (try simp only [hb, go_sem]))
    | exact rfl
    | refine And.intro (a := ACall _ _ _ _ _ _ _ _) ?_ ?_
    | refine And.intro (a := AGet _ _) ?_ ?_
    | refine And.intro (a := AGuard _ _ _ _ _ _ _) ?_ ?_
    | (
        refine AWP.ret ?_
        refine AEnd.is ?_; simp only [go_sem, out_v, out_s, out_n, v_int, v_bool, v_str] <;> (first
        | (rw [err_pair (new_e1 (by assumption)) newO_err (by decide)]; simp; done)
        | (rw [err_pair (new_e1' (by assumption)) newO_err (by decide)]; simp; done)
        | (rw [err_pair (new_e7 (by assumption) (by assumption) (by assumption)) newO_err (by decide)]; simp; done)
        | (rw [err_pair (new_e5 (by assumption) (by assumption) (by assumption) (by omega)) newO_err (by decide)]; simp; done)
        | (rw [new_ok (by assumption) (by assumption) (by assumption) (by omega)]; simp; done)
        | skip))
    | (refine And.intro ?_ ?_)
    | refine AWP.fin (by assumption) ?_)

set_option maxHeartbeats 4000000 in
set_option maxRecDepth 8000 in
theorem r11close_c (l : List Od) (id : Bs) (hl : l.length ≤ 1000000) : ACalls E 123 [odsV l, str id] (fun r t => (rightO l = false ∧ r = .tup [odsV l, i64 1] ∧ t = []) ∨ (rightO l = true ∧ openF l id = none ∧ r = .tup [odsV l, i64 6] ∧ t = []) ∨ (∃ (n : Nat) (o : Od), rightO l = true ∧ placeI l id = n ∧ openF l id = some n ∧ l[n]? = some o ∧ o.opn = true ∧ r = .tup [.sl (some 0) 8 ((l.set n ⟨o.id, o.acc, o.sym, o.buy, o.qty, o.price, o.done, false⟩).map odV), i64 0] ∧ t = [l.length])) := by -- checkroll/checkrollref11.Close
  refine ACalls.of_awp (n := 35) (rs := [.tmp 4, .tmp 5]) Try.func123 rfl Try.ntmps123 rfl ?_
  repeat' (first
    | refine AWP.seqk fun K hK => ?_
    | (refine AWP.region ?_; simp only [go_sem])
    | (refine hK _ ?_; clear hK K)
    | refine AWP.block ?_
    | refine AWP.cond rfl (fun c => ?_) (fun c => ?_) <;> first | exact Bool.noConfusion c | (try simp only [dD] at c)
    | refine AWP.skip ?_
    | (refine AWP.exit ?_; simp only [go_sem])
    | (refine ACall.one (r11right_c _ (by first | assumption | omega | (simp only [List.length_take]; omega))) (by kernel_rfl) rfl ?_; simp only [go_sem])
    | (refine ACall.one (r11at_c _ _ (by first | assumption | omega | (simp only [List.length_take]; omega))) (by kernel_rfl) rfl ?_; simp only [go_sem])
    | (refine ACall.of (r11with_c l n ⟨o.id, o.acc, o.sym, o.buy, o.qty, o.price, o.done, false⟩ (by assumption) (by assumption)) (by kernel_rfl) rfl ?_; rintro r t ⟨rfl, rfl⟩; simp only [go_sem])
    | (refine AGuard.splitN (fun h => ?_) (fun h => ?_) <;> simp only [h, go_sem] <;> (try simp only [dD] at h))
    | (refine AGuard.split (fun h => ?_) (fun h => ?_) <;> simp only [h, go_sem] <;> (try simp only [dD] at h))
    | (refine AGet.haveM (by assumption) ?_; (try simp only [go_sem]))
    | (refine AGet.have' (by assumption) ?_; (try simp only [go_sem]))
    | ((first | refine AGet.nth ?_ (fun b hb => ?_) | refine AGet.nth1 ?_ (fun b hb => ?_) | with_reducible refine And.intro ?_ ?_); (focus (first | omega | assumption | exact List.length_pos_iff.2 (by assumption) | (simp only [List.length_append, List.length_cons, List.length_nil, List.length_map, List.length_take, List.length_drop] at *; omega) | (rw [wrap64_id (by omega) (by omega)]; omega) | (simp; done) | (simp [spare_len]; done) | (exact ⟨by omega, by omega⟩))); (try simp only [hb, go_sem]))
    | (
        refine AWP.ret ?_
        simp only [go_sem]
        first
        | exact ⟨[], .tup [odsV l, i64 1], rfl, ⟨⟨rfl, rfl⟩, rfl, trivial⟩, .inl ⟨by assumption, rfl, rfl⟩⟩
        | exact ⟨[], .tup [odsV l, i64 6], rfl, ⟨⟨rfl, rfl⟩, rfl, trivial⟩, .inr (.inl ⟨by assumption, open_lt (by assumption), rfl, rfl⟩)⟩
        | exact ⟨[], .tup [odsV l, i64 6], rfl, ⟨⟨rfl, rfl⟩, rfl, trivial⟩, .inr (.inl ⟨by assumption, by rw [open_of hpf ho]; simp [*], rfl, rfl⟩)⟩
        | exact ⟨[(true, 0)], .tup [.sl (some 0) 8 _, i64 0], rfl, ⟨⟨rfl, rfl, rfl⟩, rfl, trivial⟩, .inr (.inr ⟨n, o, by assumption, hp, by rw [open_of hpf ho]; simp [*], ho, by assumption, rfl, by simp [selLens]⟩)⟩
        | skip)
    | (obtain ⟨n, o, hp, hpf, ho, hn⟩ := place_get (l := l) (id := id) (by assumption); simp only [hp, ho, go_sem, Int.toNat_natCast])
    | refine AWP.fin (by assumption) ?_)

set_option maxHeartbeats 4000000 in
set_option maxRecDepth 8000 in
theorem r11fill_c (l : List Od) (id : Bs) (q p : Int) (hl : l.length ≤ 1000000) : ACalls E 124 [odsV l, str id, i64 q, i64 p] (fun r t => r = .tup [odsV (fillO l id q p).1, i64 (fillO l id q p).2] ∧ t = []) := by -- checkroll/checkrollref11.Fill
  refine ACalls.of_awp (n := 86) (rs := [.tmp 8, .tmp 9]) Try.func124 rfl Try.ntmps124 rfl ?_
  repeat' (first
    | refine AWP.seqk fun K hK => ?_
    | (
        refine AWP.here 7 34 11 rfl ?_
        have hr : rightO l = true := by assumption
        have hm := right_at hr ho
        have hop : openF l id = some n := by rw [open_of hpf ho]; simp [*]
        have hopn : o.opn = true := by assumption
        have hb3 := may_bounds hm
        have hlf : leftF o = o.qty - o.done := by unfold leftF; simp [hm, hopn]
        have hw : IntKind.i64.wrap (o.qty - o.done) = o.qty - o.done := wrap64_id (by omega) (by omega)
        refine AWP.region ?_; simp only [go_sem, hw])
    | (
        refine AWP.here 11 71 6 rfl ?_
        have hw2 : IntKind.i64.wrap (o.done + q) = o.done + q := wrap64_id (by omega) (by omega)
        refine AWP.region ?_; simp only [go_sem, hw2])
    | (refine AWP.region ?_; simp only [go_sem])
    | (refine hK _ ?_; clear hK K)
    | refine AWP.block ?_
    | refine AWP.cond rfl (fun c => ?_) (fun c => ?_) <;> first | exact Bool.noConfusion c | (try simp only [dD] at c)
    | refine AWP.skip ?_
    | (refine AWP.exit ?_; simp only [go_sem])
    | (refine ACall.one (r11right_c _ (by first | assumption | omega | (simp only [List.length_take]; omega))) (by kernel_rfl) rfl ?_; simp only [go_sem])
    | (refine ACall.one (r11at_c _ _ (by first | assumption | omega | (simp only [List.length_take]; omega))) (by kernel_rfl) rfl ?_; simp only [go_sem])
    | (refine ACall.one (r11small_c _) (by kernel_rfl) rfl ?_; simp only [go_sem])
    | (refine ACall.of (r11with_c l n ⟨o.id, o.acc, o.sym, true, o.qty, o.price, o.done + q, false⟩ (by assumption) (by assumption)) (by kernel_rfl) rfl ?_; rintro r t ⟨rfl, rfl⟩; simp only [go_sem])
    | (refine ACall.of (r11with_c l n ⟨o.id, o.acc, o.sym, true, o.qty, o.price, o.done + q, o.opn⟩ (by assumption) (by assumption)) (by kernel_rfl) rfl ?_; rintro r t ⟨rfl, rfl⟩; simp only [go_sem])
    | (refine ACall.of (r11with_c l n ⟨o.id, o.acc, o.sym, true, o.qty, o.price, o.done + q, true⟩ (by assumption) (by assumption)) (by kernel_rfl) rfl ?_; rintro r t ⟨rfl, rfl⟩; simp only [go_sem])
    | (refine ACall.of (r11with_c l n ⟨o.id, o.acc, o.sym, false, o.qty, o.price, o.done + q, false⟩ (by assumption) (by assumption)) (by kernel_rfl) rfl ?_; rintro r t ⟨rfl, rfl⟩; simp only [go_sem])
    | (refine ACall.of (r11with_c l n ⟨o.id, o.acc, o.sym, false, o.qty, o.price, o.done + q, o.opn⟩ (by assumption) (by assumption)) (by kernel_rfl) rfl ?_; rintro r t ⟨rfl, rfl⟩; simp only [go_sem])
    | (refine ACall.of (r11with_c l n ⟨o.id, o.acc, o.sym, false, o.qty, o.price, o.done + q, true⟩ (by assumption) (by assumption)) (by kernel_rfl) rfl ?_; rintro r t ⟨rfl, rfl⟩; simp only [go_sem])
    | (refine ACall.of (r11with_c l n ⟨o.id, o.acc, o.sym, o.buy, o.qty, o.price, o.done + q, false⟩ (by assumption) (by assumption)) (by kernel_rfl) rfl ?_; rintro r t ⟨rfl, rfl⟩; simp only [go_sem])
    | (refine ACall.of (r11with_c l n ⟨o.id, o.acc, o.sym, o.buy, o.qty, o.price, o.done + q, o.opn⟩ (by assumption) (by assumption)) (by kernel_rfl) rfl ?_; rintro r t ⟨rfl, rfl⟩; simp only [go_sem])
    | (refine ACall.of (r11with_c l n ⟨o.id, o.acc, o.sym, o.buy, o.qty, o.price, o.done + q, true⟩ (by assumption) (by assumption)) (by kernel_rfl) rfl ?_; rintro r t ⟨rfl, rfl⟩; simp only [go_sem])
    | (refine AGuard.splitN (fun h => ?_) (fun h => ?_) <;> simp only [h, go_sem] <;> (try simp only [dD] at h))
    | (refine AGuard.split (fun h => ?_) (fun h => ?_) <;> simp only [h, go_sem] <;> (try simp only [dD] at h))
    | (refine AGet.haveM (by assumption) ?_; (try simp only [go_sem]))
    | (refine AGet.have' (by assumption) ?_; (try simp only [go_sem]))
    | ((first | refine AGet.nth ?_ (fun b hb => ?_) | refine AGet.nth1 ?_ (fun b hb => ?_) | with_reducible refine And.intro ?_ ?_); (focus (first | omega | assumption | exact List.length_pos_iff.2 (by assumption) | (simp only [List.length_append, List.length_cons, List.length_nil, List.length_map, List.length_take, List.length_drop] at *; omega) | (rw [wrap64_id (by omega) (by omega)]; omega) | (simp; done) | (simp [spare_len]; done) | (exact ⟨by omega, by omega⟩))); (try simp only [hb, go_sem]))
    | (
        refine AWP.ret ?_
        refine AEnd.is ?_; simp only [go_sem, out_v, out_s, out_n, v_int, v_bool, v_str] <;> (first
        | (rw [err_pair (fill_e1 (by assumption)) fillO_err (by decide)]; simp; done)
        | (rw [err_pair (fill_e6 (by assumption) (open_lt (by assumption))) fillO_err (by decide)]; simp; done)
        | (rw [err_pair (fill_e6 (by assumption) (by rw [open_of hpf ho]; simp [*])) fillO_err (by decide)]; simp; done)
        | (rw [err_pair (fill_e1' hr hop ho (.inl (by omega))) fillO_err (by decide)]; simp; done)
        | (rw [err_pair (fill_e1' hr hop ho (.inr (by omega))) fillO_err (by decide)]; simp; done)
        | (rw [err_pair (fill_e9 hr hop ho (by omega) (by omega) (by simp [fairF, *] <;> omega)) fillO_err (by decide)]; simp; done)
        | (rw [err_pair (fill_e9 hr hop ho (by omega) (by omega) (by simp [fairF, *] <;> omega)) fillO_err (by decide)]; simp; done)
        | (have hbuy : o.buy = true := by assumption
           rw [fill_ok hr hop ho (by omega) (by omega) (by simp [fairF, *] <;> omega), decide_eq_false (by omega)]; simp [hbuy, hopn]; done)
        | (have hbuy : o.buy = true := by assumption
           rw [fill_ok hr hop ho (by omega) (by omega) (by simp [fairF, *] <;> omega), decide_eq_true (by omega)]; simp [hbuy, hopn]; done)
        | (have hbuy : o.buy = false := by assumption
           rw [fill_ok hr hop ho (by omega) (by omega) (by simp [fairF, *] <;> omega), decide_eq_false (by omega)]; simp [hbuy, hopn]; done)
        | (have hbuy : o.buy = false := by assumption
           rw [fill_ok hr hop ho (by omega) (by omega) (by simp [fairF, *] <;> omega), decide_eq_true (by omega)]; simp [hbuy, hopn]; done)
        | (have hbuy : o.buy = true := by assumption
           rw [fill_ok hr hop ho (by omega) (by omega) (by simp [fairF, *] <;> omega), decide_eq_false (by omega)]; simp [hbuy, hopn]; done)
        | (have hbuy : o.buy = true := by assumption
           rw [fill_ok hr hop ho (by omega) (by omega) (by simp [fairF, *] <;> omega), decide_eq_true (by omega)]; simp [hbuy, hopn]; done)
        | (have hbuy : o.buy = false := by assumption
           rw [fill_ok hr hop ho (by omega) (by omega) (by simp [fairF, *] <;> omega), decide_eq_false (by omega)]; simp [hbuy, hopn]; done)
        | (have hbuy : o.buy = false := by assumption
           rw [fill_ok hr hop ho (by omega) (by omega) (by simp [fairF, *] <;> omega), decide_eq_true (by omega)]; simp [hbuy, hopn]; done)
        | skip))
    | (obtain ⟨n, o, hp, hpf, ho, hn⟩ := place_get (l := l) (id := id) (by assumption); simp only [hp, ho, go_sem, Int.toNat_natCast])
    | refine AWP.fin (by assumption) ?_)

set_option maxHeartbeats 4000000 in
set_option maxRecDepth 8000 in
theorem r11change_c (l : List Od) (a b : Bs) (q p : Int) (hl : l.length ≤ 1000000) : ACalls E 125 [odsV l, str a, str b, i64 q, i64 p] (fun r t => r = .tup [odsV (changeO l a b q p).1, i64 (changeO l a b q p).2] ∧ t = []) := by -- checkroll/checkrollref11.Change
  refine ACalls.of_awp (n := 75) (rs := [.tmp 10, .tmp 11]) Try.func125 rfl Try.ntmps125 rfl ?_
  repeat' (first
    | refine AWP.seqk fun K hK => ?_
    | (
        refine AWP.here 5 31 19 rfl ?_
        have hm := right_at hr ho
        have hb3 := may_bounds hm
        refine AWP.region ?_; simp only [go_sem])
    | (refine AWP.region ?_; simp only [go_sem])
    | (refine hK _ ?_; clear hK K)
    | refine AWP.block ?_
    | refine AWP.cond rfl (fun c => ?_) (fun c => ?_) <;> first | exact Bool.noConfusion c | (try simp only [dD] at c)
    | refine AWP.skip ?_
    | (refine AWP.exit ?_; simp only [go_sem])
    | (refine ACall.of (r11close_c l a (by assumption)) (by kernel_rfl) rfl ?_; rintro r t (⟨hr, rfl, rfl⟩ | ⟨hr, hop, rfl, rfl⟩ | ⟨n, o, hr, hp, hop, ho, hopn, rfl, rfl⟩) <;> simp only [go_sem])
    | (refine ACall.one (r11at_c l a (by omega)) (by kernel_rfl) rfl ?_; simp only [hp, ho, Int.toNat_natCast]; simp only [go_sem])
    | (refine ACall.one (r11at_c _ _ (by first | assumption | omega | (simp only [List.length_take]; omega))) (by kernel_rfl) rfl ?_; simp only [go_sem])
    | (refine ACall.one (r11name_c _) (by kernel_rfl) rfl ?_; simp only [go_sem])
    | (refine ACall.one (r11small_c _) (by kernel_rfl) rfl ?_; simp only [go_sem])
    | (refine AGuard.splitN (fun h => ?_) (fun h => ?_) <;> simp only [h, go_sem] <;> (try simp only [dD] at h))
    | (refine AGuard.split (fun h => ?_) (fun h => ?_) <;> simp only [h, go_sem] <;> (try simp only [dD] at h))
    | (refine AGet.haveM (by assumption) ?_; (try simp only [go_sem]))
    | (refine AGet.have' (by assumption) ?_; (try simp only [go_sem]))
    | ((first | refine AGet.nth ?_ (fun b hb => ?_) | refine AGet.nth1 ?_ (fun b hb => ?_) | with_reducible refine And.intro ?_ ?_); (focus (first | omega | assumption | exact List.length_pos_iff.2 (by assumption) | (simp only [List.length_append, List.length_cons, List.length_nil, List.length_map, List.length_take, List.length_drop] at *; omega) | (rw [wrap64_id (by omega) (by omega)]; omega) | (simp; done) | (simp [spare_len]; done) | (exact ⟨by omega, by omega⟩) | (simp only [List.length_set] at *; omega))); (try simp only [hb, go_sem]))
    | (
        refine AWP.ret ?_
        refine AEnd.is ?_; simp only [go_sem, out_v, out_s, out_n, v_int, v_bool, v_str] <;> (first
        | (rw [err_pair (change_e1 hr) changeO_err (by decide)]; simp; done)
        | (rw [err_pair (change_e6 hr hop) changeO_err (by decide)]; simp; done)
        | (rw [err_pair (change_e1' hr hop ho (by simp [mayB, *] <;> omega)) changeO_err (by decide)]; simp; done)
        | (rw [err_pair (change_e1' hr hop ho (by simp [mayB, *] <;> omega)) changeO_err (by decide)]; simp; done)
        | (rw [err_pair (change_e7 hr hop ho (may_change hm (by assumption) (by assumption) (by assumption) (by omega)) (by assumption)) changeO_err (by decide)]; simp; done)
        | (rw [err_pair (change_e5 hr hop ho (may_change hm (by assumption) (by assumption) (by assumption) (by omega)) (by assumption) (by omega)) changeO_err (by decide)]; simp; done)
        | (rw [change_ok hr hop ho (may_change hm (by assumption) (by assumption) (by assumption) (by omega)) (by assumption) (by omega)]; simp; done)
        | skip))
    | refine AWP.fin (by assumption) ?_)


end Go.Proofs.Ytlhdnenlgceeeaa
