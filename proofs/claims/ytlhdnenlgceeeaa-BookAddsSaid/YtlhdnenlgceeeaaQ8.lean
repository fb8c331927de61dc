import Derived.Test.YtlhdnenlgceeeaaQ6
import Derived.Test.YtlhdnenlgceeeaaBkK
set_option linter.unusedVariables false
set_option linter.unusedSimpArgs false
namespace Go.Proofs.Ytlhdnenlgceeeaa
open Go Go.Abs Go.RowKit Go.Bk
theorem no4_take {l : List Ex} {i : Nat} {b : Ex} (hb : l[i]? = some b) (h : ∀ x ∈ l.take (i + 1), x.kind ≠ 4) : (∀ x ∈ l.take i, x.kind ≠ 4) ∧ b.kind ≠ 4 := by
  rw [take_next hb] at h
  exact ⟨fun x hx => h x (List.mem_append_left _ hx), h b (by simp)⟩
theorem take4_next {l : List Ex} {i : Nat} {b : Ex} (hb : l[i]? = some b) (h : ∀ x ∈ l.take i, x.kind ≠ 4) (h2 : ¬ b.kind = 4) : ∀ x ∈ l.take (i + 1), x.kind ≠ 4 := by
  rw [take_next hb]
  intro x hx
  rcases List.mem_append.1 hx with hx | hx
  · exact h x hx
  · rw [List.mem_singleton.1 hx]; exact h2
theorem may_amounts {o : Od} (h : mayB o = true) : 0 ≤ o.done ∧ o.done ≤ o.qty ∧ o.qty ≤ 1099511627776 := by
  simp only [mayB, smallB, Bool.and_eq_true, decide_eq_true_eq] at h; omega
theorem sum_step {l : List Od} {j : Nat} {o : Od} (hr : rightO l = true) (hl : l.length ≤ 64) (ho : l[j]? = some o) : IntKind.i64.wrap (sumD (l.take j) + o.done) = sumD (l.take (j + 1)) := by
  have h1 := (rightO_iff.1 hr).2.1
  have h2 := sumD_bound (l := l.take j) fun p hp => h1 p (List.mem_of_mem_take hp)
  have h3 : (l.take j).length ≤ 64 := by rw [List.length_take]; omega
  have h4 := may_amounts (h1 o (List.mem_of_getElem? ho))
  rw [sumD_take ho, wrap64_id (by omega) (by omega)]

set_option maxHeartbeats 8000000 in
set_option maxRecDepth 8000 in
theorem adds_c (l : List Ex) (hl : l.length ≤ 9223372036854775807) : ACalls E 6 [exsV l] (fun r t => r = bl true ∧ t = []) := by -- checkroll/checkrolllaw12.BookAdds
  refine ACalls.of_awp (n := 143) (rs := [.tmp 2]) Try.func6 rfl Try.ntmps6 rfl ?_
  repeat' (first
    | refine AWP.seqk fun K hK => ?_
    | (
        refine AWP.here 8 28 12 rfl ?_
        obtain ⟨b, hb⟩ : ∃ b, l[i]? = some b := ⟨_, List.getElem?_eq_getElem (by omega)⟩
        have hF := adds_facts (x := b) h3 (by omega)
        have hn := (right_facts (comeF_right (x := b) h3)).2.1
        have hr := (rightBk_iff.1 (comeF_right (x := b) h3)).1.1
        have hfg := hF.2.2.2
        apply AWP.regionAnyJ (.take 0 (.take 1 (.take 2 (.take 3 (.take 4 (.fork (.alt 5 (.take 6 (.take 7 (.take 8 (.take 9 (.take 10 (.take 11 .done)))))) (.alt 9 (.take 5 (.take 6 (.take 7 (.take 8 (.take 10 (.take 11 .done)))))) .ends)))))))) [[], [], [], [1, 2], [1, 2, 3], [0, 1, 2, 3, 4], [0, 1, 2, 3, 4, 5], [0, 1, 2, 3, 4, 5, 6], [0, 1, 2, 3, 4, 5, 6], [], [0, 1, 2, 3, 4, 5, 6, 7, 9], [0, 1, 2, 3, 4, 5, 6, 7, 8, 9, 10]] [6] (by kernel_rfl) (by kernel_rfl) (by decide); simp only [go_sem])
    | (
        refine AWP.here 10 46 8 rfl ?_
        have hq := hF.2.1 ⟨by assumption, by assumption⟩
        have hw : IntKind.i64.wrap (told + b.qty) = told + b.qty := wrap64_id (by omega) (by omega)
        refine AWP.region ?_; simp only [go_sem, hw])
    | (
        refine AWP.here 14 60 14 rfl ?_
        obtain ⟨a, ha⟩ : ∃ a, k.fills[j]? = some a := ⟨_, List.getElem?_eq_getElem (by omega)⟩
        obtain ⟨c2, hc2, hold⟩ := hF.1 j a ha
        apply AWP.regionAnyJ (.take 0 (.take 1 (.take 2 (.take 3 (.take 4 (.take 5 (.take 7 (.fork (.alt 6 (.take 8 (.fork (.alt 9 (.fork (.alt 10 (.take 11 (.take 12 (.take 13 .done))) (.alt 11 (.take 10 (.take 12 (.take 13 .done))) .ends))) (.alt 10 (.fork (.alt 9 (.take 11 (.take 12 (.take 13 .done))) (.alt 11 (.fork (.alt 9 (.take 12 (.take 13 .done)) (.alt 12 (.take 9 (.take 13 .done)) .ends))) .ends))) (.alt 11 (.fork (.alt 9 (.take 10 (.take 12 (.take 13 .done))) (.alt 10 (.fork (.alt 9 (.take 12 (.take 13 .done)) (.alt 12 (.take 9 (.take 13 .done)) .ends))) .ends))) .ends))))) (.alt 10 (.fork (.alt 6 (.take 8 (.fork (.alt 9 (.take 11 (.take 12 (.take 13 .done))) (.alt 11 (.fork (.alt 9 (.take 12 (.take 13 .done)) (.alt 12 (.take 9 (.take 13 .done)) .ends))) .ends)))) (.alt 11 (.fork (.alt 6 (.take 8 (.fork (.alt 9 (.take 12 (.take 13 .done)) (.alt 12 (.take 9 (.take 13 .done)) .ends)))) (.alt 12 (.take 6 (.take 8 (.take 9 (.take 13 .done)))) .ends))) .ends))) (.alt 11 (.fork (.alt 6 (.take 8 (.fork (.alt 9 (.take 10 (.take 12 (.take 13 .done))) (.alt 10 (.fork (.alt 9 (.take 12 (.take 13 .done)) (.alt 12 (.take 9 (.take 13 .done)) .ends))) .ends)))) (.alt 10 (.fork (.alt 6 (.take 8 (.fork (.alt 9 (.take 12 (.take 13 .done)) (.alt 12 (.take 9 (.take 13 .done)) .ends)))) (.alt 12 (.take 6 (.take 8 (.take 9 (.take 13 .done)))) .ends))) .ends))) .ends))))))))))) [[], [0], [], [0, 1, 2], [0, 1, 2, 3], [], [5], [], [5, 6, 7], [5, 6, 7, 8], [], [], [0, 1, 2, 3, 4, 10, 11], [0, 1, 2, 3, 4, 5, 6, 7, 8, 9, 10, 11, 12]] [9, 10] (by kernel_rfl) (by kernel_rfl) (by decide); simp only [go_sem])
    | (
        refine AWP.here 21 105 7 rfl ?_
        obtain ⟨o, ho⟩ : ∃ o, (comeF k b).1.orders[j]? = some o := ⟨_, List.getElem?_eq_getElem (by omega)⟩
        have hm := may_amounts (right_at hr ho)
        have hw2 := sum_step hr hn.1 ho
        refine AWP.region ?_; simp only [go_sem])
    | (
        refine AWP.here 24 120 5 rfl ?_
        refine AWP.region ?_; simp only [go_sem, hw2])
    | (
        refine AWP.here 28 129 6 rfl ?_
        obtain ⟨y, hy⟩ : ∃ y, l[j]? = some y := ⟨_, List.getElem?_eq_getElem (by omega)⟩
        refine AWP.region ?_; simp only [go_sem])
    | (refine AWP.region ?_; simp only [go_sem])
    | (refine AWP.here 8 28 12 rfl ?_; apply AWP.regionAnyJ (.take 0 (.take 1 (.take 2 (.take 3 (.take 4 (.fork (.alt 5 (.take 6 (.take 7 (.take 8 (.take 9 (.take 10 (.take 11 .done)))))) (.alt 9 (.take 5 (.take 6 (.take 7 (.take 8 (.take 10 (.take 11 .done)))))) .ends)))))))) [[], [], [], [1, 2], [1, 2, 3], [0, 1, 2, 3, 4], [0, 1, 2, 3, 4, 5], [0, 1, 2, 3, 4, 5, 6], [0, 1, 2, 3, 4, 5, 6], [], [0, 1, 2, 3, 4, 5, 6, 7, 9], [0, 1, 2, 3, 4, 5, 6, 7, 8, 9, 10]] [6] (by kernel_rfl) (by kernel_rfl) (by decide); simp only [go_sem])
    | (refine AWP.here 14 60 14 rfl ?_; apply AWP.regionAnyJ (.take 0 (.take 1 (.take 2 (.take 3 (.take 4 (.take 5 (.take 7 (.fork (.alt 6 (.take 8 (.fork (.alt 9 (.fork (.alt 10 (.take 11 (.take 12 (.take 13 .done))) (.alt 11 (.take 10 (.take 12 (.take 13 .done))) .ends))) (.alt 10 (.fork (.alt 9 (.take 11 (.take 12 (.take 13 .done))) (.alt 11 (.fork (.alt 9 (.take 12 (.take 13 .done)) (.alt 12 (.take 9 (.take 13 .done)) .ends))) .ends))) (.alt 11 (.fork (.alt 9 (.take 10 (.take 12 (.take 13 .done))) (.alt 10 (.fork (.alt 9 (.take 12 (.take 13 .done)) (.alt 12 (.take 9 (.take 13 .done)) .ends))) .ends))) .ends))))) (.alt 10 (.fork (.alt 6 (.take 8 (.fork (.alt 9 (.take 11 (.take 12 (.take 13 .done))) (.alt 11 (.fork (.alt 9 (.take 12 (.take 13 .done)) (.alt 12 (.take 9 (.take 13 .done)) .ends))) .ends)))) (.alt 11 (.fork (.alt 6 (.take 8 (.fork (.alt 9 (.take 12 (.take 13 .done)) (.alt 12 (.take 9 (.take 13 .done)) .ends)))) (.alt 12 (.take 6 (.take 8 (.take 9 (.take 13 .done)))) .ends))) .ends))) (.alt 11 (.fork (.alt 6 (.take 8 (.fork (.alt 9 (.take 10 (.take 12 (.take 13 .done))) (.alt 10 (.fork (.alt 9 (.take 12 (.take 13 .done)) (.alt 12 (.take 9 (.take 13 .done)) .ends))) .ends)))) (.alt 10 (.fork (.alt 6 (.take 8 (.fork (.alt 9 (.take 12 (.take 13 .done)) (.alt 12 (.take 9 (.take 13 .done)) .ends)))) (.alt 12 (.take 6 (.take 8 (.take 9 (.take 13 .done)))) .ends))) .ends))) .ends))))))))))) [[], [0], [], [0, 1, 2], [0, 1, 2, 3], [], [5], [], [5, 6, 7], [5, 6, 7, 8], [], [], [0, 1, 2, 3, 4, 10, 11], [0, 1, 2, 3, 4, 5, 6, 7, 8, 9, 10, 11, 12]] [9, 10] (by kernel_rfl) (by kernel_rfl) (by decide); simp only [go_sem])
    | (refine hK _ ?_; clear hK K)
    | refine AWP.block ?_
    | refine AWP.cond rfl (fun c => ?_) (fun c => ?_) <;> first | exact Bool.noConfusion c | (try simp only [dD] at c)
    | refine AWP.skip ?_
    | (refine AWP.exit ?_; simp only [go_sem])
    | (refine ACall.one (awake12_c) (by kernel_rfl) rfl ?_; simp only [go_sem])
    | (refine ACall.one (come_c k b (by omega) (by omega) (by omega)) (by kernel_rfl) rfl ?_; simp only [go_sem])
    | (refine AGuard.splitN (fun h => ?_) (fun h => ?_) <;> simp only [h, go_sem] <;> (try simp only [dD] at h))
    | (refine AGuard.split (fun h => ?_) (fun h => ?_) <;> simp only [h, go_sem] <;> (try simp only [dD] at h))
    | (refine AGet.haveM (by assumption) ?_; (try simp only [go_sem]))
    | (refine AGet.have' (by assumption) ?_; (try simp only [go_sem]))
    | ((first | refine AGet.nth ?_ (fun b hb => ?_) | refine AGet.nth1 ?_ (fun b hb => ?_) | with_reducible refine And.intro ?_ ?_); (focus (first | omega | assumption | exact List.length_pos_iff.2 (by assumption) | (simp only [List.length_append, List.length_cons, List.length_nil, List.length_map, List.length_take, List.length_drop] at *; omega) | (rw [wrap64_id (by omega) (by omega)]; omega) | (simp; done) | (simp [spare_len]; done) | (exact ⟨by omega, by omega⟩))); (try simp only [hb, go_sem]))
    | exact rfl
    | refine And.intro (a := ACall _ _ _ _ _ _ _ _) ?_ ?_
    | refine And.intro (a := AGet _ _) ?_ ?_
    | refine And.intro (a := AGuard _ _ _ _ _ _ _) ?_ ?_
    | (
        refine AWP.here 6 17 8 rfl ?_
        refine AWP.nilPlainLeaf 0 0 8 _ rfl rfl ?_
        refine AWP.nilPlainLeaf 0 1 9 _ rfl rfl ?_
        refine AWP.nilPlainLeaf 0 2 1 _ rfl rfl ?_
        simp only [go_sem]
        refine AWP.loopM (ι := Nat × Bk × Int) [2, 6, 7, 8, 9, 10, 11, 12, 13, 14, 17, 18, 19, 20, 21, 22, 23, 24, 25, 26, 27, 28, 29, 30, 31, 32, 33, 34, 35, 36, 37, 38, 39, 40, 41, 42, 43, 44, 45, 46, 47, 48, 49, 50, 51, 52, 53, 54, 55, 56, 57, 58, 59, 60, 61, 62, 63, 64, 65, 66, 67, 68, 69, 70, 71, 72, 73, 74, 75, 76, 77, 78, 79, 80, 81, 82, 83, 84, 85, 86, 87, 88, 89, 90, 91, 92, 93, 94, 95, 96, 97, 98, 99, 100, 101, 102, 103, 104, 105, 106, 107, 108, 109, 110, 111, 112, 113, 114, 115, 116, 117, 118, 119, 120, 121, 122, 123, 124, 125, 126, 127, 128, 129, 130, 131, 132, 133, 134, 135, 136, 137, 138, 139, 140, 141, 142] (fun ⟨i, k, told⟩ => [(4, i64 told), (5, i64 i)]) (fun ⟨i, k, told⟩ => [some [.agg [odsV k.orders, dnsV k.fills, .sl none 1 (k.ids.map str), i64 k.clock, i64 k.bad]]]) (fun ⟨i, k, told⟩ => []) (fun ⟨i, k, told⟩ => i ≤ l.length ∧ i ≤ 60 ∧ rightBk k = true ∧ k.ids.length ≤ i ∧ 0 ≤ told ∧ told ≤ i * 1099511627776 ∧ ((∀ x ∈ l.take i, x.kind ≠ 4) → told = sumD k.orders)) (fun ⟨i, k, told⟩ => l.length - i) ((0, emptyB, 0)) ?_ ?_ ?_
        · (try simp only [go_sem]); (repeat' (first | refine And.intro ?_ ?_ | exact .inl rfl | exact .inr rfl | exact .inr ⟨rfl, rfl⟩ | trivial | exact .inr (oblA rfl) | exact .inr ⟨rfl, oblA rfl⟩ | exact .inr bel_strs | exact .inr ⟨rfl, bel_strs⟩ | exact .inr ⟨by simp, bel_strs⟩ | (simp; done) | exact .inr ⟨rfl, by simp⟩ | exact .inr ⟨by simp, by simp⟩)); done
        · exact ⟨by simp, by simp, empty_right, by simp [emptyB], by simp, by simp, fun _ => rfl⟩
        rintro ⟨i, k, told⟩ ⟨h1, h2, h3, h4, h5, h6, h7⟩
        simp only [go_sem]
        have hk := (right_facts h3).2.1)
    | (
        refine AWP.here 12 53 5 rfl ?_
        refine AWP.loopM (ι := Nat) [2, 9, 10, 53, 54, 55, 56, 57, 58, 59, 60, 61, 62, 63, 64, 65, 66, 67, 68, 69, 70, 71, 72, 73, 74, 75, 76, 77, 78, 79, 80, 81, 82, 83, 84, 85, 86, 87, 88, 89, 90, 91, 92, 93, 94, 95, 96, 97] (fun (j : Nat) => [(8, i64 j)]) (fun (j : Nat) => [some [.agg [odsV k.orders, dnsV k.fills, .sl none 1 (k.ids.map str), i64 k.clock, i64 k.bad]], some [.agg [odsV (comeF k b).1.orders, dnsV (comeF k b).1.fills, .sl none 1 ((comeF k b).1.ids.map str), i64 (comeF k b).1.clock, i64 (comeF k b).1.bad]]]) (fun (j : Nat) => []) (fun (j : Nat) => j ≤ k.fills.length) (fun (j : Nat) => k.fills.length - j) (0) ?_ ?_ ?_
        · (try simp only [go_sem]); (repeat' (first | refine And.intro ?_ ?_ | exact .inl rfl | exact .inr rfl | exact .inr ⟨rfl, rfl⟩ | trivial | exact .inr (oblA rfl) | exact .inr ⟨rfl, oblA rfl⟩ | exact .inr bel_strs | exact .inr ⟨rfl, bel_strs⟩ | exact .inr ⟨by simp, bel_strs⟩ | (simp; done) | exact .inr ⟨rfl, by simp⟩ | exact .inr ⟨by simp, by simp⟩)); done
        · exact Nat.zero_le _
        rintro j g1
        simp only [go_sem])
    | (
        refine AWP.here 19 98 5 rfl ?_
        refine AWP.loopM (ι := Nat) [2, 13, 98, 99, 100, 101, 102, 103, 104, 105, 106, 107, 108, 109, 110, 111, 112, 113, 114, 115, 116, 117, 118, 119, 120, 121, 122, 123] (fun (j : Nat) => [(11, i64 (sumD ((comeF k b).1.orders.take j))), (12, i64 j)]) (fun (j : Nat) => [some [.agg [odsV k.orders, dnsV k.fills, .sl none 1 (k.ids.map str), i64 k.clock, i64 k.bad]], some [.agg [odsV (comeF k b).1.orders, dnsV (comeF k b).1.fills, .sl none 1 ((comeF k b).1.ids.map str), i64 (comeF k b).1.clock, i64 (comeF k b).1.bad]]]) (fun (j : Nat) => []) (fun (j : Nat) => j ≤ (comeF k b).1.orders.length) (fun (j : Nat) => (comeF k b).1.orders.length - j) (0) ?_ ?_ ?_
        · (try simp only [go_sem]); (repeat' (first | refine And.intro ?_ ?_ | exact .inl rfl | exact .inr rfl | exact .inr ⟨rfl, rfl⟩ | trivial | exact .inr (oblA rfl) | exact .inr ⟨rfl, oblA rfl⟩ | exact .inr bel_strs | exact .inr ⟨rfl, bel_strs⟩ | exact .inr ⟨by simp, bel_strs⟩ | (simp; done) | exact .inr ⟨rfl, by simp⟩ | exact .inr ⟨by simp, by simp⟩)); done
        · exact Nat.zero_le _
        rintro j g2
        simp only [go_sem])
    | (
        refine AWP.here 26 124 3 rfl ?_
        refine AWP.loopM (ι := Nat × Int) [124, 125, 126, 127, 128, 129, 130, 131, 132, 133, 134] (fun ⟨j, d⟩ => [(11, i64 d), (14, i64 j)]) (fun ⟨j, d⟩ => [some [.agg [odsV k.orders, dnsV k.fills, .sl none 1 (k.ids.map str), i64 k.clock, i64 k.bad]], some [.agg [odsV (comeF k b).1.orders, dnsV (comeF k b).1.fills, .sl none 1 ((comeF k b).1.ids.map str), i64 (comeF k b).1.clock, i64 (comeF k b).1.bad]]]) (fun ⟨j, d⟩ => []) (fun ⟨j, d⟩ => j ≤ i + 1 ∧ (d < 0 ∨ d = sumD (comeF k b).1.orders ∧ ∀ x ∈ l.take j, x.kind ≠ 4)) (fun ⟨j, d⟩ => i + 1 - j) ((0, sumD (comeF k b).1.orders)) ?_ ?_ ?_
        · (try simp only [go_sem]); (try rw [List.take_of_length_le (by omega)]); (repeat' (first | refine And.intro ?_ ?_ | exact .inl rfl | exact .inr rfl | exact .inr ⟨rfl, rfl⟩ | trivial | exact .inr (oblA rfl) | exact .inr ⟨rfl, oblA rfl⟩ | exact .inr bel_strs | exact .inr ⟨rfl, bel_strs⟩ | exact .inr ⟨by simp, bel_strs⟩ | (simp; done) | exact .inr ⟨rfl, by simp⟩ | exact .inr ⟨by simp, by simp⟩)); done
        · exact ⟨Nat.zero_le _, .inr ⟨rfl, by simp⟩⟩
        rintro ⟨j, d⟩ ⟨g3, g4⟩
        simp only [go_sem])
    | (
        first
        | (refine ⟨(i + 1, (comeF k b).1, told + b.qty), ?_, ⟨by show i + 1 ≤ l.length; omega, by show i + 1 ≤ 60; omega, comeF_right h3, by show (comeF k b).1.ids.length ≤ i + 1; omega, by show 0 ≤ told + b.qty; omega, by show told + b.qty ≤ ((i + 1 : Nat) : Int) * 1099511627776; omega, fun hno => by have := h7 (no4_take hb hno).1; show told + b.qty = sumD (comeF k b).1.orders; omega⟩, by show l.length - (i + 1) < l.length - i; omega⟩
           (try simp only [go_sem]); (try rw [hw]); (try rw [wrap64_id (by omega) (by omega)]); (repeat' (first | refine And.intro ?_ ?_ | exact .inl rfl | exact .inr rfl | exact .inr ⟨rfl, rfl⟩ | trivial | exact .inr (oblA rfl) | exact .inr ⟨rfl, oblA rfl⟩ | exact .inr bel_strs | exact .inr ⟨rfl, bel_strs⟩ | exact .inr ⟨by simp, bel_strs⟩ | (simp; done) | exact .inr ⟨rfl, by simp⟩ | exact .inr ⟨by simp, by simp⟩)); done)
        | (refine ⟨(i + 1, (comeF k b).1, told), ?_, ⟨by show i + 1 ≤ l.length; omega, by show i + 1 ≤ 60; omega, comeF_right h3, by show (comeF k b).1.ids.length ≤ i + 1; omega, h5, by show told ≤ ((i + 1 : Nat) : Int) * 1099511627776; omega, fun hno => by have e1 := h7 (no4_take hb hno).1; have e2 := hF.2.2.1 (no4_take hb hno).2 (fun hh => by first | exact absurd hh.1 (by assumption) | exact absurd hh.2 (by assumption)); show told = sumD (comeF k b).1.orders; omega⟩, by show l.length - (i + 1) < l.length - i; omega⟩
           (try simp only [go_sem]); (try rw [hw]); (try rw [wrap64_id (by omega) (by omega)]); (repeat' (first | refine And.intro ?_ ?_ | exact .inl rfl | exact .inr rfl | exact .inr ⟨rfl, rfl⟩ | trivial | exact .inr (oblA rfl) | exact .inr ⟨rfl, oblA rfl⟩ | exact .inr bel_strs | exact .inr ⟨rfl, bel_strs⟩ | exact .inr ⟨by simp, bel_strs⟩ | (simp; done) | exact .inr ⟨rfl, by simp⟩ | exact .inr ⟨by simp, by simp⟩)); done))
    | (
        refine ⟨j + 1, ?_, ?_, ?_⟩
        · (try simp only [go_sem]); (try rw [wrap64_id (by omega) (by omega)]); (repeat' (first | refine And.intro ?_ ?_ | exact .inl rfl | exact .inr rfl | exact .inr ⟨rfl, rfl⟩ | trivial | exact .inr (oblA rfl) | exact .inr ⟨rfl, oblA rfl⟩ | exact .inr bel_strs | exact .inr ⟨rfl, bel_strs⟩ | exact .inr ⟨by simp, bel_strs⟩ | (simp; done) | exact .inr ⟨rfl, by simp⟩ | exact .inr ⟨by simp, by simp⟩)); done
        · omega
        · (try simp only []); omega)
    | (
        first
        | (refine ⟨(j + 1, -1), ?_, ⟨by show j + 1 ≤ i + 1; omega, .inl (by show (-1 : Int) < 0; decide)⟩, by show i + 1 - (j + 1) < i + 1 - j; omega⟩
           (try simp only [go_sem]); (try rw [wrap64_id (by omega) (by omega)]); (repeat' (first | refine And.intro ?_ ?_ | exact .inl rfl | exact .inr rfl | exact .inr ⟨rfl, rfl⟩ | trivial | exact .inr (oblA rfl) | exact .inr ⟨rfl, oblA rfl⟩ | exact .inr bel_strs | exact .inr ⟨rfl, bel_strs⟩ | exact .inr ⟨by simp, bel_strs⟩ | (simp; done) | exact .inr ⟨rfl, by simp⟩ | exact .inr ⟨by simp, by simp⟩)); done)
        | (refine ⟨(j + 1, d), ?_, ⟨by show j + 1 ≤ i + 1; omega, by rcases g4 with g4 | ⟨g4, g5⟩; exact .inl g4; exact .inr ⟨g4, take4_next hy g5 (by assumption)⟩⟩, by show i + 1 - (j + 1) < i + 1 - j; omega⟩
           (try simp only [go_sem]); (try rw [wrap64_id (by omega) (by omega)]); (repeat' (first | refine And.intro ?_ ?_ | exact .inl rfl | exact .inr rfl | exact .inr ⟨rfl, rfl⟩ | trivial | exact .inr (oblA rfl) | exact .inr ⟨rfl, oblA rfl⟩ | exact .inr bel_strs | exact .inr ⟨rfl, bel_strs⟩ | exact .inr ⟨by simp, bel_strs⟩ | (simp; done) | exact .inr ⟨rfl, by simp⟩ | exact .inr ⟨by simp, by simp⟩)); done))
    | (
        refine AWP.ret ?_
        refine AEnd.is ?_; simp only [go_sem, out_v, out_s, out_n, v_int, v_bool, v_str] <;> (first
        | (exfalso; obtain ⟨o1, o2, o3, o4⟩ := hold; simp_all; done)
        | (exfalso; obtain ⟨o1, o2, o3, o4⟩ := hold; omega)
        | (exfalso; omega)
        | (exfalso; rcases g4 with g4 | ⟨g4, g5⟩; omega; have e0 : j = i + 1 := by omega
           rw [e0] at g5
           have e1 := h7 (no4_take hb g5).1
           first | (rw [hw] at c; omega) | (have e2 := hF.2.2.1 (no4_take hb g5).2 (fun hh => by first | exact absurd hh.1 (by assumption) | exact absurd hh.2 (by assumption)); omega))
        | rfl))
    | refine AWP.fin (by assumption) ?_)


end Go.Proofs.Ytlhdnenlgceeeaa
