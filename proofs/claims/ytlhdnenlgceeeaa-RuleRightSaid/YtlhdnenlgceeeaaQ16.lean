import Derived.Test.YtlhdnenlgceeeaaQ15
set_option linter.unusedVariables false
set_option linter.unusedSimpArgs false
namespace Go.Proofs.Ytlhdnenlgceeeaa
open Go Go.Abs Go.RowKit Go.Bk
theorem ids_snoc {l : List Bs} {x : Bs} : l.map str ++ [AV.v (Value.string ⟨x.toArray⟩)] = (l ++ [x]).map str := by simp
theorem right_fx {b : Bk} (h : rightBk b = true) : True ∧ (b.orders.length ≤ 64 ∧ b.fills.length ≤ 256 ∧ b.ids.length ≤ 256) ∧ ∀ f ∈ b.fills, 0 ≤ f.time ∧ f.time ≤ 4611686018427387904 := by
  have h1 := rightBk_iff.1 h
  refine ⟨trivial, ⟨right_len h1.1.1, h1.1.2.1, h1.1.2.2.1⟩, fun f hf => ?_⟩
  have h2 := h1.2.2.1 f hf
  simp only [fillB, Bool.and_eq_true, decide_eq_true_eq] at h2
  omega
theorem come_facts {bk : Bk} {x : Ex} (h : rightBk bk = true) (hx : execB x = true) : rightO bk.orders = true ∧ smallB x.price = true ∧ bk.fills.length ≤ 100000 ∧ (∀ f ∈ bk.fills, 0 ≤ f.time ∧ f.time ≤ 4611686018427387904) ∧ 1 ≤ x.kind ∧ x.kind ≤ 8 := by
  have h1 := rightBk_iff.1 h
  have h2 := right_fx h
  exact ⟨h1.1.1, (exec_small hx).2.1, by omega, h2.2.2, exec_kinds hx⟩
theorem fillB_yes {b : Bk} {f : Dn} (h0 : ¬ idI b.ids f.id < 0) (h1 : smallB f.qty = true) (h2 : smallB f.price = true) (h3 : ¬ f.time < 0) (h4 : ¬ b.clock < f.time) : fillB b f = true := by
  rw [idI_mem, Classical.not_not] at h0
  simp [fillB, h0, h1, h2]; omega
theorem fillB_no1 {b : Bk} {f : Dn} (h0 : idI b.ids f.id < 0) : fillB b f = false := by
  rw [idI_mem] at h0; simp [fillB, h0]
theorem fillB_no2 {b : Bk} {f : Dn} (h : smallB f.qty = false) : fillB b f = false := by simp [fillB, h]
theorem fillB_no3 {b : Bk} {f : Dn} (h : smallB f.price = false) : fillB b f = false := by simp [fillB, h]
theorem fillB_no4 {b : Bk} {f : Dn} (h : f.time < 0) : fillB b f = false := by
  unfold fillB; rw [show decide (0 ≤ f.time) = false from decide_eq_false (by omega)]; simp
theorem fillB_no5 {b : Bk} {f : Dn} (h : b.clock < f.time) : fillB b f = false := by
  unfold fillB; rw [show decide (f.time ≤ b.clock) = false from decide_eq_false (by omega)]; simp

set_option maxHeartbeats 8000000 in
set_option maxRecDepth 8000 in
theorem r12right_c (bk : Bk) (ho : bk.orders.length ≤ 9223372036854775807) (hf : bk.fills.length ≤ 9223372036854775807) (hi : bk.ids.length ≤ 9223372036854775807) : ACalls E 79 [bkV bk] (fun r t => r = bl (rightBk bk) ∧ t = []) := by -- checkroll/checkrollref12.Right
  refine ACalls.of_awp (n := 110) (rs := [.tmp 2]) Try.func79 rfl Try.ntmps79 rfl ?_
  repeat' (first
    | refine AWP.seqk fun K hK => ?_
    | (refine AWP.region ?_; simp only [go_sem])
    | (refine AWP.here 6 49 10 rfl ?_; refine AWP.regionO [0, 1, 2, 3, 4, 5, 6, 8, 7, 9] [] (by kernel_rfl) (by kernel_rfl) rfl ?_; simp only [go_sem])
    | (refine hK _ ?_; clear hK K)
    | refine AWP.block ?_
    | refine AWP.cond rfl (fun c => ?_) (fun c => ?_) <;> first | exact Bool.noConfusion c | (try simp only [dD] at c)
    | refine AWP.skip ?_
    | (refine AWP.exit ?_; simp only [go_sem])
    | (refine ACall.one (r11right_c bk.orders (by omega)) (by kernel_rfl) rfl ?_; simp only [go_sem])
    | (refine ACall.one (seen_c bk.ids _ (by omega)) (by kernel_rfl) rfl ?_; simp only [go_sem])
    | (refine ACall.one (r12at_c bk.fills _ (by omega)) (by kernel_rfl) rfl ?_; simp only [go_sem])
    | (refine ACall.one (r12small_c _) (by kernel_rfl) rfl ?_; simp only [go_sem])
    | (refine AGuard.splitN (fun h => ?_) (fun h => ?_) <;> simp only [h, go_sem] <;> (try simp only [dD] at h))
    | (refine AGuard.split (fun h => ?_) (fun h => ?_) <;> simp only [h, go_sem] <;> (try simp only [dD] at h))
    | (refine AGet.haveM (by assumption) ?_; (try simp only [go_sem]))
    | (refine AGet.have' (by assumption) ?_; (try simp only [go_sem]))
    | ((first | refine AGet.nth ?_ (fun b hb => ?_) | refine AGet.nth1 ?_ (fun b hb => ?_) | with_reducible refine And.intro ?_ ?_); (focus (first | omega | assumption | exact List.length_pos_iff.2 (by assumption) | (simp only [List.length_append, List.length_cons, List.length_nil, List.length_map, List.length_take, List.length_drop] at *; omega) | (rw [wrap64_id (by omega) (by omega)]; omega) | (simp; done) | (simp [spare_len]; done) | (exact ⟨by omega, by omega⟩))); (try simp only [hb, go_sem]))
    | (
        refine AWP.here 4 42 5 rfl ?_
        refine AWP.loopM (ι := Nat) [2, 42, 43, 44, 45, 46, 47, 48, 49, 50, 51, 52, 53, 54, 55, 56, 57, 58] (fun (i : Nat) => [(3, i64 i)]) (fun (i : Nat) => [some [.agg [odsV bk.orders, dnsV bk.fills, .sl none 1 (bk.ids.map str), i64 bk.clock, i64 bk.bad]]]) (fun (i : Nat) => []) (fun (i : Nat) => i ≤ bk.ids.length ∧ (bk.ids.take i).Nodup) (fun (i : Nat) => bk.ids.length - i) (0) ?_ ?_ ?_
        · (try simp only [go_sem]); (repeat' (first | refine And.intro ?_ ?_ | exact .inl rfl | exact .inr rfl | exact .inr ⟨rfl, rfl⟩ | trivial | exact .inr (oblA rfl) | exact .inr ⟨rfl, oblA rfl⟩ | exact .inr bel_strs | exact .inr ⟨rfl, bel_strs⟩ | exact .inr ⟨by simp, bel_strs⟩ | (simp; done) | exact .inr ⟨rfl, by simp⟩ | exact .inr ⟨by simp, by simp⟩)); done
        · exact ⟨Nat.zero_le _, by simp⟩
        rintro i ⟨h1, h2⟩
        simp only [go_sem])
    | (
        refine AWP.here 9 59 5 rfl ?_
        refine AWP.loopM (ι := Nat) [2, 5, 59, 60, 61, 62, 63, 64, 65, 66, 67, 68, 69, 70, 71, 72, 73, 74, 75, 76, 77, 78, 79, 80, 81, 82, 83, 84, 85, 86, 87, 88, 89, 90, 91, 92, 93, 94, 95, 96, 97, 98, 99, 100, 101, 102, 103, 104, 105, 106, 107, 108, 109] (fun (i : Nat) => [(4, i64 i)]) (fun (i : Nat) => [some [.agg [odsV bk.orders, dnsV bk.fills, .sl none 1 (bk.ids.map str), i64 bk.clock, i64 bk.bad]]]) (fun (i : Nat) => []) (fun (i : Nat) => i ≤ bk.fills.length ∧ (bk.fills.take i).all (fillB bk) = true ∧ ((bk.fills.take i).map (·.id)).Nodup) (fun (i : Nat) => bk.fills.length - i) (0) ?_ ?_ ?_
        · (try simp only [go_sem]); (repeat' (first | refine And.intro ?_ ?_ | exact .inl rfl | exact .inr rfl | exact .inr ⟨rfl, rfl⟩ | trivial | exact .inr (oblA rfl) | exact .inr ⟨rfl, oblA rfl⟩ | exact .inr bel_strs | exact .inr ⟨rfl, bel_strs⟩ | exact .inr ⟨by simp, bel_strs⟩ | (simp; done) | exact .inr ⟨rfl, by simp⟩ | exact .inr ⟨by simp, by simp⟩)); done
        · exact ⟨Nat.zero_le _, by simp, by simp⟩
        rintro i ⟨g1, g2, g3⟩
        simp only [go_sem])
    | (
        refine ⟨i + 1, ?_, ?_, ?_⟩
        · (try simp only [go_sem]); (try rw [wrap64_id (by omega) (by omega)]); (repeat' (first | refine And.intro ?_ ?_ | exact .inl rfl | exact .inr rfl | exact .inr ⟨rfl, rfl⟩ | trivial | exact .inr (oblA rfl) | exact .inr ⟨rfl, oblA rfl⟩ | exact .inr bel_strs | exact .inr ⟨rfl, bel_strs⟩ | exact .inr ⟨by simp, bel_strs⟩ | (simp; done) | exact .inr ⟨rfl, by simp⟩ | exact .inr ⟨by simp, by simp⟩)); done
        · exact ⟨by omega, once_next hb h2 (by assumption)⟩
        · (try simp only []); omega)
    | (
        refine ⟨i + 1, ?_, ?_, ?_⟩
        · (try simp only [go_sem]); (try rw [wrap64_id (by omega) (by omega)]); (repeat' (first | refine And.intro ?_ ?_ | exact .inl rfl | exact .inr rfl | exact .inr ⟨rfl, rfl⟩ | trivial | exact .inr (oblA rfl) | exact .inr ⟨rfl, oblA rfl⟩ | exact .inr bel_strs | exact .inr ⟨rfl, bel_strs⟩ | exact .inr ⟨by simp, bel_strs⟩ | (simp; done) | exact .inr ⟨rfl, by simp⟩ | exact .inr ⟨by simp, by simp⟩)); done
        · exact ⟨by omega, all_take hb g2 (fillB_yes (by assumption) (by assumption) (by assumption) (by assumption) (by assumption)), fonce_next hb g3 (by assumption)⟩
        · (try simp only []); omega)
    | (
        refine AWP.ret ?_
        refine AEnd.is ?_; simp only [go_sem, out_v, out_s, out_n, v_int, v_bool, v_str] <;> (first
        | (rw [right_n1 (by first | (simp [headB, *]; done) | (simp [headB]; intros; omega))]; done)
        | (rw [right_n2 (once_not hb (by assumption))]; done)
        | (rw [right_n4 (fonce_not hb (by assumption))]; done)
        | (rw [right_n3 hb (fillB_no1 (by assumption))]; done)
        | (rw [right_n3 hb (fillB_no2 (by assumption))]; done)
        | (rw [right_n3 hb (fillB_no3 (by assumption))]; done)
        | (rw [right_n3 hb (fillB_no4 (by assumption))]; done)
        | (rw [right_n3 hb (fillB_no5 (by assumption))]; done)
        | (rw [List.take_of_length_le (by omega)] at h2; rw [List.take_of_length_le (by omega)] at g2 g3; rw [right_y (by simp [headB, *] <;> omega) h2 g2 g3]; done)
        | skip))
    | refine AWP.fin (by assumption) ?_)

set_option maxHeartbeats 4000000 in
set_option maxRecDepth 8000 in
theorem r11same_c (p q : List Od) (hl : p.length ≤ 9223372036854775807) : ACalls E 56 [odsV p, odsV q] (fun r t => r = bl (decide (p = q)) ∧ t = []) := by -- checkroll/checkrollref11.Same
  refine ACalls.of_awp (n := 26) (rs := [.tmp 4]) Try.func56 rfl Try.ntmps56 rfl ?_
  repeat' (first
    | refine AWP.seqk fun K hK => ?_
    | (refine AWP.region ?_; simp only [go_sem])
    | (refine AWP.here 6 17 9 rfl ?_; refine AWP.regionO [0, 1, 2, 3, 4, 5, 6, 7, 8] [] (by kernel_rfl) (by kernel_rfl) rfl ?_; simp only [go_sem])
    | (refine hK _ ?_; clear hK K)
    | refine AWP.block ?_
    | refine AWP.cond rfl (fun c => ?_) (fun c => ?_) <;> first | exact Bool.noConfusion c | (try simp only [dD] at c)
    | refine AWP.skip ?_
    | (refine AWP.exit ?_; simp only [go_sem])
    | (refine AGet.haveM (by assumption) ?_; (try simp only [go_sem]))
    | (refine AGet.have' (by assumption) ?_; (try simp only [go_sem]))
    | ((first | refine AGet.nth ?_ (fun b hb => ?_) | refine AGet.nth1 ?_ (fun b hb => ?_) | with_reducible refine And.intro ?_ ?_); (focus (first | omega | assumption | exact List.length_pos_iff.2 (by assumption) | (simp only [List.length_append, List.length_cons, List.length_nil, List.length_map, List.length_take, List.length_drop] at *; omega) | (rw [wrap64_id (by omega) (by omega)]; omega) | (simp; done) | (simp [spare_len]; done) | (exact ⟨by omega, by omega⟩))); (try simp only [hb, go_sem]))
    | (
        refine AWP.here 4 11 4 rfl ?_
        refine AWP.loopN (ι := Nat) [4, 11, 12, 13, 14, 15, 16, 17, 18, 19, 20, 21, 22, 23, 24, 25] (fun (i : Nat) => [(5, i64 i)]) (fun (i : Nat) => i ≤ p.length ∧ p.length = q.length ∧ p.take i = q.take i) (fun (i : Nat) => p.length - i) (0) ?_ ?_ ?_
        · (try simp only [go_sem]); (repeat' (first | refine And.intro ?_ ?_ | exact .inl rfl | exact .inr rfl | exact .inr ⟨rfl, rfl⟩ | trivial | exact .inr (oblA rfl) | exact .inr ⟨rfl, oblA rfl⟩ | exact .inr bel_strs | exact .inr ⟨rfl, bel_strs⟩ | exact .inr ⟨by simp, bel_strs⟩ | (simp; done) | exact .inr ⟨rfl, by simp⟩ | exact .inr ⟨by simp, by simp⟩)); done
        · exact ⟨by omega, by omega, by simp⟩
        rintro i ⟨h1, h2, h3⟩
        simp only [go_sem])
    | (
        refine ⟨i + 1, ?_, ?_, ?_⟩
        · (try simp only [go_sem]); (try rw [wrap64_id (by omega) (by omega)]); (repeat' (first | refine And.intro ?_ ?_ | exact .inl rfl | exact .inr rfl | exact .inr ⟨rfl, rfl⟩ | trivial | exact .inr (oblA rfl) | exact .inr ⟨rfl, oblA rfl⟩ | exact .inr bel_strs | exact .inr ⟨rfl, bel_strs⟩ | exact .inr ⟨by simp, bel_strs⟩ | (simp; done) | exact .inr ⟨rfl, by simp⟩ | exact .inr ⟨by simp, by simp⟩)); done
        · exact ⟨by omega, by omega, eq_next (a := p) (b := q) (by assumption) (by assumption) (by exact od_eq (by assumption)) h3⟩
        · (try simp only []); omega)
    | (
        refine AWP.ret ?_
        refine AEnd.is ?_; simp only [go_sem, out_v, out_s, out_n, v_int, v_bool, v_str] <;> (first
        | (rw [eq_no1 (by omega)]; done)
        | (rw [eq_no2 (a := p) (b := q) (by assumption) (by assumption) (by exact od_ne (by assumption))]; done)
        | (rw [eq_yes h2 (by omega) h3]; done)))
    | refine AWP.fin (by assumption) ?_)

set_option maxHeartbeats 8000000 in
set_option maxRecDepth 8000 in
theorem r12same_c (p q : Bk) (ho : p.orders.length ≤ 9223372036854775807) (hf : p.fills.length ≤ 9223372036854775807) (hi : p.ids.length ≤ 9223372036854775807) : ACalls E 26 [bkV p, bkV q] (fun r t => r = bl (decide (p = q)) ∧ t = []) := by -- checkroll/checkrollref12.Same
  refine ACalls.of_awp (n := 81) (rs := [.tmp 4]) Try.func26 rfl Try.ntmps26 rfl ?_
  repeat' (first
    | refine AWP.seqk fun K hK => ?_
    | (refine AWP.region ?_; simp only [go_sem])
    | (refine AWP.here 6 52 11 rfl ?_; refine AWP.regionO [0, 1, 2, 3, 4, 5, 6, 7, 8, 9, 10] [] (by kernel_rfl) (by kernel_rfl) rfl ?_; simp only [go_sem])
    | (refine AWP.here 11 70 11 rfl ?_; refine AWP.regionO [0, 1, 2, 3, 4, 5, 6, 7, 8, 9, 10] [] (by kernel_rfl) (by kernel_rfl) rfl ?_; simp only [go_sem])
    | (refine hK _ ?_; clear hK K)
    | refine AWP.block ?_
    | refine AWP.cond rfl (fun c => ?_) (fun c => ?_) <;> first | exact Bool.noConfusion c | (try simp only [dD] at c)
    | refine AWP.skip ?_
    | (refine AWP.exit ?_; simp only [go_sem])
    | (refine ACall.one (r11same_c p.orders q.orders ho) (by kernel_rfl) rfl ?_; simp only [go_sem])
    | (refine AGuard.splitN (fun h => ?_) (fun h => ?_) <;> simp only [h, go_sem] <;> (try simp only [dD] at h))
    | (refine AGuard.split (fun h => ?_) (fun h => ?_) <;> simp only [h, go_sem] <;> (try simp only [dD] at h))
    | (refine AGet.haveM (by assumption) ?_; (try simp only [go_sem]))
    | (refine AGet.have' (by assumption) ?_; (try simp only [go_sem]))
    | ((first | refine AGet.nth ?_ (fun b hb => ?_) | refine AGet.nth1 ?_ (fun b hb => ?_) | with_reducible refine And.intro ?_ ?_); (focus (first | omega | assumption | exact List.length_pos_iff.2 (by assumption) | (simp only [List.length_append, List.length_cons, List.length_nil, List.length_map, List.length_take, List.length_drop] at *; omega) | (rw [wrap64_id (by omega) (by omega)]; omega) | (simp; done) | (simp [spare_len]; done) | (exact ⟨by omega, by omega⟩))); (try simp only [hb, go_sem]))
    | (
        refine AWP.here 4 45 5 rfl ?_
        refine AWP.loopM (ι := Nat) [4, 45, 46, 47, 48, 49, 50, 51, 52, 53, 54, 55, 56, 57, 58, 59, 60, 61, 62] (fun (i : Nat) => [(5, i64 i)]) (fun (i : Nat) => [some [.agg [odsV p.orders, dnsV p.fills, .sl none 1 (p.ids.map str), i64 p.clock, i64 p.bad]], some [.agg [odsV q.orders, dnsV q.fills, .sl none 1 (q.ids.map str), i64 q.clock, i64 q.bad]]]) (fun (i : Nat) => []) (fun (i : Nat) => i ≤ p.fills.length ∧ p.fills.length = q.fills.length ∧ p.fills.take i = q.fills.take i) (fun (i : Nat) => p.fills.length - i) (0) ?_ ?_ ?_
        · (try simp only [go_sem]); (repeat' (first | refine And.intro ?_ ?_ | exact .inl rfl | exact .inr rfl | exact .inr ⟨rfl, rfl⟩ | trivial | exact .inr (oblA rfl) | exact .inr ⟨rfl, oblA rfl⟩ | exact .inr bel_strs | exact .inr ⟨rfl, bel_strs⟩ | exact .inr ⟨by simp, bel_strs⟩ | (simp; done) | exact .inr ⟨rfl, by simp⟩ | exact .inr ⟨by simp, by simp⟩)); done
        · exact ⟨by omega, by omega, by simp⟩
        rintro i ⟨h1, h2, h3⟩
        simp only [go_sem])
    | (
        refine AWP.here 9 63 5 rfl ?_
        refine AWP.loopM (ι := Nat) [4, 63, 64, 65, 66, 67, 68, 69, 70, 71, 72, 73, 74, 75, 76, 77, 78, 79, 80] (fun (i : Nat) => [(6, i64 i)]) (fun (i : Nat) => [some [.agg [odsV p.orders, dnsV p.fills, .sl none 1 (p.ids.map str), i64 p.clock, i64 p.bad]], some [.agg [odsV q.orders, dnsV q.fills, .sl none 1 (q.ids.map str), i64 q.clock, i64 q.bad]]]) (fun (i : Nat) => []) (fun (i : Nat) => i ≤ p.ids.length ∧ p.ids.length = q.ids.length ∧ p.ids.take i = q.ids.take i) (fun (i : Nat) => p.ids.length - i) (0) ?_ ?_ ?_
        · (try simp only [go_sem]); (repeat' (first | refine And.intro ?_ ?_ | exact .inl rfl | exact .inr rfl | exact .inr ⟨rfl, rfl⟩ | trivial | exact .inr (oblA rfl) | exact .inr ⟨rfl, oblA rfl⟩ | exact .inr bel_strs | exact .inr ⟨rfl, bel_strs⟩ | exact .inr ⟨by simp, bel_strs⟩ | (simp; done) | exact .inr ⟨rfl, by simp⟩ | exact .inr ⟨by simp, by simp⟩)); done
        · exact ⟨by omega, by omega, by simp⟩
        rintro i ⟨g1, g2, g3⟩
        simp only [go_sem])
    | (
        refine ⟨i + 1, ?_, ?_, ?_⟩
        · (try simp only [go_sem]); (try rw [wrap64_id (by omega) (by omega)]); (repeat' (first | refine And.intro ?_ ?_ | exact .inl rfl | exact .inr rfl | exact .inr ⟨rfl, rfl⟩ | trivial | exact .inr (oblA rfl) | exact .inr ⟨rfl, oblA rfl⟩ | exact .inr bel_strs | exact .inr ⟨rfl, bel_strs⟩ | exact .inr ⟨by simp, bel_strs⟩ | (simp; done) | exact .inr ⟨rfl, by simp⟩ | exact .inr ⟨by simp, by simp⟩)); done
        · exact ⟨by omega, by omega, eq_next (a := p.fills) (b := q.fills) (by assumption) (by assumption) (by exact dn_eq (by assumption)) h3⟩
        · (try simp only []); omega)
    | (
        refine ⟨i + 1, ?_, ?_, ?_⟩
        · (try simp only [go_sem]); (try rw [wrap64_id (by omega) (by omega)]); (repeat' (first | refine And.intro ?_ ?_ | exact .inl rfl | exact .inr rfl | exact .inr ⟨rfl, rfl⟩ | trivial | exact .inr (oblA rfl) | exact .inr ⟨rfl, oblA rfl⟩ | exact .inr bel_strs | exact .inr ⟨rfl, bel_strs⟩ | exact .inr ⟨by simp, bel_strs⟩ | (simp; done) | exact .inr ⟨rfl, by simp⟩ | exact .inr ⟨by simp, by simp⟩)); done
        · exact ⟨by omega, by omega, eq_next (a := p.ids) (b := q.ids) (by assumption) (by assumption) (by assumption) g3⟩
        · (try simp only []); omega)
    | (
        refine AWP.ret ?_
        refine AEnd.is ?_; simp only [go_sem, out_v, out_s, out_n, v_int, v_bool, v_str] <;> (first
        | (rw [same_b]; simp [*]; done)
        | (rw [same_b, eq_no1 (a := p.fills) (by omega)]; simp; done)
        | (rw [same_b, eq_no1 (a := p.ids) (by omega)]; simp; done)
        | (rw [same_b, eq_no2 (a := p.fills) (b := q.fills) (by assumption) (by assumption) (by exact dn_ne (by assumption))]; simp; done)
        | (rw [same_b, eq_no2 (a := p.ids) (b := q.ids) (by assumption) (by assumption) (by assumption)]; simp; done)
        | (rw [same_b, eq_yes h2 (by omega) h3, eq_yes g2 (by omega) g3]; simp [*]; done)
        | skip))
    | refine AWP.fin (by assumption) ?_)


end Go.Proofs.Ytlhdnenlgceeeaa
