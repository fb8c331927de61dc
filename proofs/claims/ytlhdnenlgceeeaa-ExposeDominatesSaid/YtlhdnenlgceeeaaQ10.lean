import Derived.Test.YtlhdnenlgceeeaaQ6
import Derived.Test.YtlhdnenlgceeeaaBkM
set_option linter.unusedVariables false
set_option linter.unusedSimpArgs false
namespace Go.Proofs.Ytlhdnenlgceeeaa
open Go Go.Abs Go.RowKit Go.Bk
theorem ex_eq {x y : Ex} (h : x.id = y.id ∧ x.ref = y.ref ∧ x.ord = y.ord ∧ x.acc = y.acc ∧ x.sym = y.sym ∧ x.kind = y.kind ∧ x.buy = y.buy ∧ x.qty = y.qty ∧ x.price = y.price ∧ x.time = y.time) : x = y := by
  obtain ⟨a, b, c, d, e, f, g, i, j, k⟩ := x
  obtain ⟨h1, h2, h3, h4, h5, h6, h7, h8, h9, h10⟩ := h
  dsimp only at *
  subst h1; subst h2; subst h3; subst h4; subst h5; subst h6; subst h7; subst h8; subst h9; subst h10; rfl
theorem ex_ne {x y : Ex} (h : x.id = y.id → x.ref = y.ref → x.ord = y.ord → x.acc = y.acc → x.sym = y.sym → x.kind = y.kind → x.buy = y.buy → x.qty = y.qty → x.price = y.price → ¬ x.time = y.time) : x ≠ y := by
  rintro rfl; exact h rfl rfl rfl rfl rfl rfl rfl rfl rfl rfl
def laterF (p q : List Ex) : Bool := decide (p.length ≤ q.length) && decide (p = q.take p.length) && decide ((faultF p).2 = 0) && decide ((faultF q).2 = 0)
theorem later_no1 {p q : List Ex} (h : q.length < p.length) : laterF p q = false := by
  have : ¬ p.length ≤ q.length := by omega
  simp only [laterF, decide_eq_false this, Bool.false_and]
theorem later_no2 {p q : List Ex} (h : ¬ p = q.take p.length) : laterF p q = false := by
  simp only [laterF, decide_eq_false h, Bool.and_false, Bool.false_and]
theorem later_no3 {p q : List Ex} (h1 : p.length ≤ q.length) (h2 : p = q.take p.length) (h3 : ¬ (faultF p).2 = 0) : laterF p q = false := by
  simp only [laterF, decide_eq_false h3, Bool.and_false, Bool.false_and]
theorem later_ok {p q : List Ex} (h1 : p.length ≤ q.length) (h2 : p = q.take p.length) (h3 : (faultF p).2 = 0) : laterF p q = decide ((faultF q).2 = 0) := by
  simp only [laterF, decide_eq_true h1, decide_eq_true h2, decide_eq_true h3, Bool.true_and]

set_option maxHeartbeats 4000000 in
set_option maxRecDepth 8000 in
theorem eeq_c (p q : List Ex) (hl : p.length ≤ 9223372036854775807) : ACalls E 63 [exsV p, exsV q] (fun r t => r = bl (decide (p = q)) ∧ t = []) := by -- slices.Equal[[]checkroll/api.Exec,checkroll/api.Exec]
  refine ACalls.of_awp (n := 26) (rs := [.tmp 4]) Try.func63 rfl Try.ntmps63 rfl ?_
  repeat' (first
    | refine AWP.seqk fun K hK => ?_
    | (refine AWP.region ?_; simp only [go_sem])
    | (refine AWP.here 6 16 9 rfl ?_; refine AWP.regionO [0, 1, 2, 3, 4, 5, 6, 7, 8] [] (by kernel_rfl) (by kernel_rfl) rfl ?_; simp only [go_sem])
    | (refine hK _ ?_; clear hK K)
    | refine AWP.block ?_
    | refine AWP.cond rfl (fun c => ?_) (fun c => ?_) <;> first | exact Bool.noConfusion c | (try simp only [dD] at c)
    | refine AWP.skip ?_
    | (refine AWP.exit ?_; simp only [go_sem])
    | (refine AGet.haveM (by assumption) ?_; (try simp only [go_sem]))
    | (refine AGet.have' (by assumption) ?_; (try simp only [go_sem]))
    | ((first | refine AGet.nth ?_ (fun b hb => ?_) | refine AGet.nth1 ?_ (fun b hb => ?_) | with_reducible refine And.intro ?_ ?_); (focus (first | omega | assumption | exact List.length_pos_iff.2 (by assumption) | (simp only [List.length_append, List.length_cons, List.length_nil, List.length_map, List.length_take, List.length_drop] at *; omega) | (rw [wrap64_id (by omega) (by omega)]; omega) | (simp; done) | (simp [spare_len]; done) | (exact ⟨by omega, by omega⟩))); (try simp only [hb, go_sem]))
    | (
        refine AWP.here 4 14 1 rfl ?_
        refine AWP.loopN (ι := Nat) [4, 5, 14, 15, 16, 17, 18, 19, 20, 21, 22, 23, 24, 25] (fun (i : Nat) => [(13, i64 i)]) (fun (i : Nat) => i ≤ p.length ∧ p.length = q.length ∧ p.take i = q.take i) (fun (i : Nat) => p.length - i) (0) ?_ ?_ ?_
        · (try simp only [go_sem]); (repeat' (first | refine And.intro ?_ ?_ | exact .inl rfl | exact .inr rfl | exact .inr ⟨rfl, rfl⟩ | trivial | exact .inr (oblA rfl) | exact .inr ⟨rfl, oblA rfl⟩ | exact .inr bel_strs | exact .inr ⟨rfl, bel_strs⟩ | exact .inr ⟨by simp, bel_strs⟩ | (simp; done) | exact .inr ⟨rfl, by simp⟩ | exact .inr ⟨by simp, by simp⟩))
        · exact ⟨by omega, by omega, by simp⟩
        rintro i ⟨h1, h2, h3⟩
        simp only [go_sem])
    | (
        refine ⟨i + 1, ?_, ?_, ?_⟩
        · (try simp only [go_sem]); (try rw [wrap64_id (by omega) (by omega)]); (repeat' (first | refine And.intro ?_ ?_ | exact .inl rfl | exact .inr rfl | exact .inr ⟨rfl, rfl⟩ | trivial | exact .inr (oblA rfl) | exact .inr ⟨rfl, oblA rfl⟩ | exact .inr bel_strs | exact .inr ⟨rfl, bel_strs⟩ | exact .inr ⟨by simp, bel_strs⟩ | (simp; done) | exact .inr ⟨rfl, by simp⟩ | exact .inr ⟨by simp, by simp⟩))
        · exact ⟨by omega, by omega, eq_next (a := p) (b := q) (by assumption) (by assumption) (by exact ex_eq (by assumption)) h3⟩
        · (try simp only []); omega)
    | (
        refine AWP.ret ?_
        refine AEnd.is ?_; simp only [go_sem, out_v, out_s, out_n, v_int, v_bool, v_str] <;> (first
        | (rw [eq_no1 (by omega)]; done)
        | (rw [eq_no2 (a := p) (b := q) (by assumption) (by assumption) (by exact ex_ne (by assumption))]; done)
        | (rw [eq_yes h2 (by omega) h3]; done)))
    | refine AWP.fin (by assumption) ?_)

set_option maxHeartbeats 8000000 in
set_option maxRecDepth 8000 in
theorem fault_c (l : List Ex) (hl : l.length ≤ 9223372036854775807) : ACalls E 31 [exsV l] (fun r t => r = .tup [i64 (faultF l).1, i64 (faultF l).2] ∧ t = []) := by -- checkroll/rule.Fault
  refine ACalls.of_awp (n := 39) (rs := [.tmp 2, .tmp 3]) Try.func31 rfl Try.ntmps31 rfl ?_
  repeat' (first
    | refine AWP.seqk fun K hK => ?_
    | (refine AWP.region ?_; simp only [go_sem])
    | (refine AWP.here 13 33 5 rfl ?_; refine AWP.regionO [0, 1, 2, 3, 4] [] (by kernel_rfl) (by kernel_rfl) rfl ?_; simp only [go_sem])
    | (refine hK _ ?_; clear hK K)
    | refine AWP.block ?_
    | refine AWP.cond rfl (fun c => ?_) (fun c => ?_) <;> first | exact Bool.noConfusion c | (try simp only [dD] at c)
    | refine AWP.skip ?_
    | (refine AWP.exit ?_; simp only [go_sem])
    | (refine ACall.one (mexec_c _) (by kernel_rfl) rfl ?_; simp only [go_sem])
    | (refine ACall.one (come_c k b (by omega) (by omega) (by omega)) (by kernel_rfl) rfl ?_; simp only [go_sem])
    | (refine AGet.haveM (by assumption) ?_; (try simp only [go_sem]))
    | (refine AGet.have' (by assumption) ?_; (try simp only [go_sem]))
    | ((first | refine AGet.nth ?_ (fun b hb => ?_) | refine AGet.nth1 ?_ (fun b hb => ?_) | with_reducible refine And.intro ?_ ?_); (focus (first | omega | assumption | exact List.length_pos_iff.2 (by assumption) | (simp only [List.length_append, List.length_cons, List.length_nil, List.length_map, List.length_take, List.length_drop] at *; omega) | (rw [wrap64_id (by omega) (by omega)]; omega) | (simp; done) | (simp [spare_len]; done) | (exact ⟨by omega, by omega⟩))); (try simp only [hb, go_sem]))
    | (
        refine AWP.here 3 12 1 rfl ?_
        refine AWP.nilPlainLeaf 0 0 8 _ rfl rfl ?_
        refine AWP.nilPlainLeaf 0 1 9 _ rfl rfl ?_
        refine AWP.nilPlainLeaf 0 2 1 _ rfl rfl ?_
        simp only [go_sem]
        refine AWP.loopM (ι := Nat × Bk) [2, 3, 5, 6, 7, 8, 12, 13, 14, 15, 16, 17, 18, 19, 20, 21, 22, 23, 24, 25, 26, 27, 28, 29, 30, 31, 32, 33, 34, 35, 36] (fun ⟨i, k⟩ => [(11, i64 i)]) (fun ⟨i, k⟩ => [some [.agg [odsV k.orders, dnsV k.fills, .sl none 1 (k.ids.map str), i64 k.clock, i64 k.bad]]]) (fun ⟨i, k⟩ => []) (fun ⟨i, k⟩ => i ≤ l.length ∧ rightBk k = true ∧ faultGo k i (l.drop i) = faultF l) (fun ⟨i, k⟩ => l.length - i) ((0, emptyB)) ?_ ?_ ?_
        · (try simp only [go_sem]); (repeat' (first | refine And.intro ?_ ?_ | exact .inl rfl | exact .inr rfl | exact .inr ⟨rfl, rfl⟩ | trivial | exact .inr (oblA rfl) | exact .inr ⟨rfl, oblA rfl⟩ | exact .inr bel_strs | exact .inr ⟨rfl, bel_strs⟩ | exact .inr ⟨by simp, bel_strs⟩ | (simp; done) | exact .inr ⟨rfl, by simp⟩ | exact .inr ⟨by simp, by simp⟩))
        · exact ⟨by simp, empty_right, rfl⟩
        rintro ⟨i, k⟩ ⟨h1, h2, h3⟩
        simp only [go_sem]
        have hk := (right_facts h2).2.1)
    | (
        refine ⟨(i + 1, (comeF k b).1), ?_, ⟨by show i + 1 ≤ l.length; omega, comeF_right h2, by rw [drop_of hb] at h3; rw [← h3]; simp [faultGo, *]⟩, by show l.length - (i + 1) < l.length - i; omega⟩
        (try simp only [go_sem]); (try rw [wrap64_id (by omega) (by omega)]); (repeat' (first | refine And.intro ?_ ?_ | exact .inl rfl | exact .inr rfl | exact .inr ⟨rfl, rfl⟩ | trivial | exact .inr (oblA rfl) | exact .inr ⟨rfl, oblA rfl⟩ | exact .inr bel_strs | exact .inr ⟨rfl, bel_strs⟩ | exact .inr ⟨by simp, bel_strs⟩ | (simp; done) | exact .inr ⟨rfl, by simp⟩ | exact .inr ⟨by simp, by simp⟩)))
    | (
        refine AWP.ret ?_
        refine AEnd.is ?_; simp only [go_sem, out_v, out_s, out_n, v_int, v_bool, v_str] <;> (first | (rw [drop_of hb] at h3; rw [← h3]; simp [faultGo, *]; done) | (rw [drop_end (by omega)] at h3; rw [← h3]; simp [faultGo]; omega)))
    | refine AWP.fin (by assumption) ?_)

set_option maxHeartbeats 4000000 in
set_option maxRecDepth 8000 in
theorem keeps_c (l : List Ex) (hl : l.length ≤ 9223372036854775807) : ACalls E 33 [exsV l] (fun r t => r = bl (decide ((faultF l).2 = 0)) ∧ t = []) := by -- checkroll/rule.Keeps
  refine ACalls.of_awp (n := 12) (rs := [.tmp 2]) Try.func33 rfl Try.ntmps33 rfl ?_
  repeat' (first
    | refine AWP.seqk fun K hK => ?_
    | (refine AWP.region ?_; simp only [go_sem])
    | (refine hK _ ?_; clear hK K)
    | refine AWP.block ?_
    | refine AWP.cond rfl (fun c => ?_) (fun c => ?_) <;> first | exact Bool.noConfusion c | (try simp only [dD] at c)
    | refine AWP.skip ?_
    | (refine AWP.exit ?_; simp only [go_sem])
    | (refine ACall.one (fault_c _ (by first | assumption | omega | (simp only [List.length_take]; omega))) (by kernel_rfl) rfl ?_; simp only [go_sem])
    | (refine AGet.haveM (by assumption) ?_; (try simp only [go_sem]))
    | (refine AGet.have' (by assumption) ?_; (try simp only [go_sem]))
    | ((first | refine AGet.nth ?_ (fun b hb => ?_) | refine AGet.nth1 ?_ (fun b hb => ?_) | with_reducible refine And.intro ?_ ?_); (focus (first | omega | assumption | exact List.length_pos_iff.2 (by assumption) | (simp only [List.length_append, List.length_cons, List.length_nil, List.length_map, List.length_take, List.length_drop] at *; omega) | (rw [wrap64_id (by omega) (by omega)]; omega) | (simp; done) | (simp [spare_len]; done) | (exact ⟨by omega, by omega⟩))); (try simp only [hb, go_sem]))
    | (
        refine AWP.ret ?_
        refine AEnd.is ?_; simp only [go_sem, out_v, out_s, out_n, v_int, v_bool, v_str] <;> (simp; done))
    | refine AWP.fin (by assumption) ?_)

set_option maxHeartbeats 4000000 in
set_option maxRecDepth 8000 in
theorem later_c (p q : List Ex) (hp : p.length ≤ 9223372036854775807) (hq : q.length ≤ 9223372036854775807) : ACalls E 34 [exsV p, exsV q] (fun r t => r = bl (laterF p q) ∧ t = []) := by -- checkroll/rule.Later
  refine ACalls.of_awp (n := 25) (rs := [.tmp 4]) Try.func34 rfl Try.ntmps34 rfl ?_
  repeat' (first
    | refine AWP.seqk fun K hK => ?_
    | (refine AWP.region ?_; simp only [go_sem])
    | (refine hK _ ?_; clear hK K)
    | refine AWP.block ?_
    | refine AWP.cond rfl (fun c => ?_) (fun c => ?_) <;> first | exact Bool.noConfusion c | (try simp only [dD] at c)
    | refine AWP.skip ?_
    | (refine AWP.exit ?_; simp only [go_sem])
    | (refine ACall.one (eeq_c _ _ (by first | assumption | omega | (simp only [List.length_take]; omega))) (by kernel_rfl) rfl ?_; simp only [go_sem])
    | (refine ACall.one (keeps_c _ (by first | assumption | omega | (simp only [List.length_take]; omega))) (by kernel_rfl) rfl ?_; simp only [go_sem])
    | (refine AGuard.splitN (fun h => ?_) (fun h => ?_) <;> simp only [h, go_sem] <;> (try simp only [dD] at h))
    | (refine AGuard.split (fun h => ?_) (fun h => ?_) <;> simp only [h, go_sem] <;> (try simp only [dD] at h))
    | (refine AGet.haveM (by assumption) ?_; (try simp only [go_sem]))
    | (refine AGet.have' (by assumption) ?_; (try simp only [go_sem]))
    | ((first | refine AGet.nth ?_ (fun b hb => ?_) | refine AGet.nth1 ?_ (fun b hb => ?_) | with_reducible refine And.intro ?_ ?_); (focus (first | omega | assumption | exact List.length_pos_iff.2 (by assumption) | (simp only [List.length_append, List.length_cons, List.length_nil, List.length_map, List.length_take, List.length_drop] at *; omega) | (rw [wrap64_id (by omega) (by omega)]; omega) | (simp; done) | (simp [spare_len]; done) | (exact ⟨by omega, by omega⟩))); (try simp only [hb, go_sem]))
    | (
        refine AWP.ret ?_
        refine AEnd.is ?_; simp only [go_sem, out_v, out_s, out_n, v_int, v_bool, v_str] <;> (first | (rw [later_no1 (by omega)]; done) | (rw [later_no2 (by assumption)]; done) | (rw [later_no3 (by omega) (by assumption) (by assumption)]; done) | (rw [later_ok (by omega) (by assumption) (by assumption)]; done)))
    | refine AWP.fin (by assumption) ?_)


end Go.Proofs.Ytlhdnenlgceeeaa
