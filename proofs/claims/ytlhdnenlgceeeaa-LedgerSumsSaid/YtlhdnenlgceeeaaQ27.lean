import Derived.Test.YtlhdnenlgceeeaaQ26
import Derived.Test.YtlhdnenlgceeeaaQ6
import Derived.Test.YtlhdnenlgceeeaaBkX
set_option linter.unusedVariables false
set_option linter.unusedSimpArgs false
namespace Go.Proofs.Ytlhdnenlgceeeaa
open Go Go.Abs Go.RowKit Go.Bk
theorem right_fy {b : Bk} (h : rightBk b = true) : True ∧ (b.orders.length ≤ 64 ∧ b.fills.length ≤ 256 ∧ b.ids.length ≤ 256) ∧ ∀ f ∈ b.fills, 0 ≤ f.time ∧ f.time ≤ 4611686018427387904 := by
  have h1 := rightBk_iff.1 h
  refine ⟨trivial, ⟨right_len h1.1.1, h1.1.2.1, h1.1.2.2.1⟩, fun f hf => ?_⟩
  have h2 := h1.2.2.1 f hf
  simp only [fillB, Bool.and_eq_true, decide_eq_true_eq] at h2
  omega
theorem comeF_fills {k : Bk} {x : Ex} (hr : rightBk k = true) : (comeF k x).1.fills.length ≤ k.fills.length + 1 := by
  unfold comeF
  cases rightBk k && execB x with
  | false => simp
  | true => exact (takeF_grows k x).2.1
theorem sgx_t {b : Bool} (h : b = true) : sgx b = 1 := by rw [h]; rfl
theorem sgx_f {b : Bool} (h : b = false) : sgx b = -1 := by rw [h]; rfl

set_option maxHeartbeats 4000000 in
set_option maxRecDepth 8000 in
theorem prod_c (a b : Int) : ACalls E 38 [i64 a, i64 b] (fun r t => r = i64 (pdF a b) ∧ t = []) := by -- checkroll/checkrolllaw13.product
  refine ACalls.of_awp (n := 14) (rs := [.tmp 4]) Try.func38 rfl Try.ntmps38 rfl ?_
  repeat' (first
    | refine AWP.seqk fun K hK => ?_
    | (refine AWP.region ?_; simp only [go_sem])
    | (refine hK _ ?_; clear hK K)
    | refine AWP.block ?_
    | refine AWP.cond rfl (fun c => ?_) (fun c => ?_) <;> first | exact Bool.noConfusion c | (try simp only [dD] at c)
    | refine AWP.skip ?_
    | (refine AWP.exit ?_; simp only [go_sem])
    | (refine AGuard.splitN (fun h => ?_) (fun h => ?_) <;> simp only [h, go_sem] <;> (try simp only [dD] at h))
    | (refine AGuard.split (fun h => ?_) (fun h => ?_) <;> simp only [h, go_sem] <;> (try simp only [dD] at h))
    | (refine AGet.haveM (by assumption) ?_; (try simp only [go_sem]))
    | (refine AGet.have' (by assumption) ?_; (try simp only [go_sem]))
    | ((first | refine AGet.nth ?_ (fun b hb => ?_) | refine AGet.nth1 ?_ (fun b hb => ?_) | with_reducible refine And.intro ?_ ?_); (focus (first | omega | assumption | exact List.length_pos_iff.2 (by assumption) | (simp only [List.length_append, List.length_cons, List.length_nil, List.length_map, List.length_take, List.length_drop] at *; omega) | (rw [wrap64_id (by omega) (by omega)]; omega) | (simp; done) | (simp [spare_len]; done) | (exact ⟨by omega, by omega⟩))); (try simp only [hb, go_sem]))
    | (
        refine AWP.ret ?_
        refine AEnd.is ?_; simp only [go_sem, out_v, out_s, out_n, v_int, v_bool, v_str] <;> (first | (unfold pdF; rw [if_pos (by first | exact .inl (by assumption) | exact .inr (by assumption))]; done) | (unfold pdF; rw [if_neg (by omega)]; done) | skip))
    | refine AWP.fin (by assumption) ?_)

set_option maxHeartbeats 8000000 in
set_option maxRecDepth 8000 in
theorem sums_c (l : List Ex) (hl : l.length ≤ 9223372036854775807) : ACalls E 14 [exsV l] (fun r t => r = bl true ∧ t = []) := by -- checkroll/checkrolllaw13.LedgerSums
  refine ACalls.of_awp (n := 154) (rs := [.tmp 2]) Try.func14 rfl Try.ntmps14 rfl ?_
  repeat' (first
    | refine AWP.seqk fun K hK => ?_
    | (
        refine AWP.here 7 27 12 rfl ?_
        obtain ⟨x, hb⟩ : ∃ x, l[i]? = some x := ⟨_, List.getElem?_eq_getElem (by omega)⟩
        have hn := (right_fy (comeF_right (x := x) h3)).2.1
        have hF := sums_facts (x := x) h3 (by omega) (by omega) h6
        have hg := (stays_facts (x := x) h3 (by omega)).2.2.2.2
        have hg2 := comeF_fills (x := x) h3
        have hwas := hF.was
        refine AWP.regionO [0, 1, 2, 3, 4, 9, 5, 6, 7, 8, 10, 11] [5] (by kernel_rfl) (by kernel_rfl) rfl ?_; simp only [go_sem])
    | (
        refine AWP.here 17 79 6 rfl ?_
        obtain ⟨m, f, r1, r2, r3, r4, r5, r6, r7⟩ := hF.ref (by assumption) (by first | exact .inl (by assumption) | exact .inr (by assumption))
        have hwq : IntKind.i64.wrap (0 - f.qty) = -f.qty := by rw [wrap64_id (by omega) (by omega)]; omega
        have hwp : IntKind.i64.wrap (0 - pdF f.qty f.price) = -pdF f.qty f.price := by rw [wrap64_id (by omega) (by omega)]; omega
        have hax := hF.amt (by assumption)
        refine AWP.region ?_; simp only [go_sem])
    | (
        refine AWP.here 18 84 2 rfl ?_
        (try simp only [r1])
        refine AWP.region ?_; simp only [go_sem])
    | (
        refine AWP.here 20 86 23 rfl ?_
        (try simp only [r1])
        refine AWP.regionO [0, 1, 2, 3, 4, 5, 6, 7, 8, 9, 10, 11, 12, 13, 14, 15, 16, 17, 18, 19, 20, 21, 22] [] (by kernel_rfl) (by kernel_rfl) rfl ?_; simp only [go_sem, hwq, hwp, r2, Int.toNat_natCast])
    | (
        refine AWP.here 22 110 13 rfl ?_
        have hw3 : IntKind.i64.wrap (-f.qty + x.qty) = -f.qty + x.qty := wrap64_id (by omega) (by omega)
        have hw4 : IntKind.i64.wrap (-pdF f.qty f.price + pdF x.qty x.price) = -pdF f.qty f.price + pdF x.qty x.price := wrap64_id (by omega) (by omega)
        refine AWP.regionO [0, 1, 2, 3, 4, 5, 6, 7, 8, 9, 10, 11, 12] [] (by kernel_rfl) (by kernel_rfl) rfl ?_; simp only [go_sem, hwq, hwp])
    | (refine AWP.region ?_; simp only [go_sem])
    | (refine AWP.here 7 27 12 rfl ?_; refine AWP.regionO [0, 1, 2, 3, 4, 9, 5, 6, 7, 8, 10, 11] [5] (by kernel_rfl) (by kernel_rfl) rfl ?_; simp only [go_sem])
    | (refine AWP.here 9 39 16 rfl ?_; refine AWP.regionO [0, 1, 2, 3, 4, 6, 7, 8, 9, 10, 12, 13, 5, 11, 14, 15] [8, 9] (by kernel_rfl) (by kernel_rfl) rfl ?_; simp only [go_sem])
    | (refine AWP.here 15 60 9 rfl ?_; refine AWP.regionO [0, 1, 2, 3, 4, 5, 6, 7, 8] [] (by kernel_rfl) (by kernel_rfl) rfl ?_; simp only [go_sem])
    | (refine AWP.here 20 86 23 rfl ?_; refine AWP.regionO [0, 1, 2, 3, 4, 5, 6, 7, 8, 9, 10, 11, 12, 13, 14, 15, 16, 17, 18, 19, 20, 21, 22] [] (by kernel_rfl) (by kernel_rfl) rfl ?_; simp only [go_sem])
    | (refine AWP.here 22 110 13 rfl ?_; refine AWP.regionO [0, 1, 2, 3, 4, 5, 6, 7, 8, 9, 10, 11, 12] [] (by kernel_rfl) (by kernel_rfl) rfl ?_; simp only [go_sem])
    | (refine hK _ ?_; clear hK K)
    | refine AWP.block ?_
    | refine AWP.cond rfl (fun c => ?_) (fun c => ?_) <;> first | exact Bool.noConfusion c | (try simp only [dD] at c)
    | refine AWP.skip ?_
    | (refine AWP.exit ?_; simp only [go_sem])
    | (refine ACall.one (awake13_c) (by kernel_rfl) rfl ?_; simp only [go_sem])
    | (refine ACall.one (come_c k x (by omega) (by omega) (by omega)) (by kernel_rfl) rfl ?_; simp only [go_sem])
    | (refine ACall.one (lof_c k x.acc x.sym (by omega) (by omega) (by omega)) (by kernel_rfl) rfl ?_; simp only [go_sem])
    | (refine ACall.one (lof_c (comeF k x).1 x.acc x.sym (by omega) (by omega) (by omega)) (by kernel_rfl) rfl ?_; simp only [go_sem])
    | (refine ACall.one (prod_c _ _) (by kernel_rfl) rfl ?_; simp only [go_sem])
    | (refine ACall.one (r12at_c k.fills x.ref (by omega)) (by kernel_rfl) rfl ?_; simp only [go_sem])
    | (refine AGuard.splitN (fun h => ?_) (fun h => ?_) <;> simp only [h, go_sem] <;> (try simp only [dD] at h))
    | (refine AGuard.split (fun h => ?_) (fun h => ?_) <;> simp only [h, go_sem] <;> (try simp only [dD] at h))
    | (refine AGet.haveM (by assumption) ?_; (try simp only [go_sem]))
    | (refine AGet.have' (by assumption) ?_; (try simp only [go_sem]))
    | ((first | refine AGet.nth ?_ (fun b hb => ?_) | refine AGet.nth1 ?_ (fun b hb => ?_) | with_reducible refine And.intro ?_ ?_); (focus (first | omega | assumption | exact List.length_pos_iff.2 (by assumption) | (simp only [List.length_append, List.length_cons, List.length_nil, List.length_map, List.length_take, List.length_drop] at *; omega) | (rw [wrap64_id (by omega) (by omega)]; omega) | (simp; done) | (simp [spare_len]; done) | (exact ⟨by omega, by omega⟩))); (try simp only [hb, go_sem]))
    | (
        refine AWP.here 5 16 8 rfl ?_
        refine AWP.nilPlainLeaf 0 0 8 _ rfl rfl ?_
        refine AWP.nilPlainLeaf 0 1 9 _ rfl rfl ?_
        refine AWP.nilPlainLeaf 0 2 1 _ rfl rfl ?_
        simp only [go_sem]
        refine AWP.loopM (ι := Nat × Bk) [2, 5, 6, 7, 8, 9, 10, 11, 12, 13, 16, 17, 18, 19, 20, 21, 22, 23, 24, 25, 26, 27, 28, 29, 30, 31, 32, 33, 34, 35, 36, 37, 38, 39, 40, 41, 42, 43, 44, 45, 46, 47, 48, 49, 50, 51, 52, 53, 54, 55, 56, 57, 58, 59, 60, 61, 62, 63, 64, 65, 66, 67, 68, 69, 70, 71, 72, 73, 74, 75, 76, 77, 78, 79, 80, 81, 82, 83, 84, 85, 86, 87, 88, 89, 90, 91, 92, 93, 94, 95, 96, 97, 98, 99, 100, 101, 102, 103, 104, 105, 106, 107, 108, 109, 110, 111, 112, 113, 114, 115, 116, 117, 118, 119, 120, 121, 122, 123, 124, 125, 126, 127, 128, 129, 130, 131, 132, 133, 134, 135, 136, 137, 138, 139, 140, 141, 142, 143, 144, 145, 146, 147, 148, 149, 150, 151, 152, 153] (fun ⟨i, k⟩ => [(4, i64 i)]) (fun ⟨i, k⟩ => [some [.agg [odsV k.orders, dnsV k.fills, .sl none 1 (k.ids.map str), i64 k.clock, i64 k.bad]]]) (fun ⟨i, k⟩ => []) (fun ⟨i, k⟩ => i ≤ l.length ∧ i ≤ 60 ∧ rightBk k = true ∧ k.ids.length ≤ i ∧ k.fills.length ≤ i ∧ SmallD k.fills) (fun ⟨i, k⟩ => l.length - i) ((0, emptyB)) ?_ ?_ ?_
        · (try simp only [go_sem]); (repeat' (first | refine And.intro ?_ ?_ | exact .inl rfl | exact .inr rfl | exact .inr ⟨rfl, rfl⟩ | trivial | exact .inr (oblA rfl) | exact .inr ⟨rfl, oblA rfl⟩ | exact .inr bel_strs | exact .inr ⟨rfl, bel_strs⟩ | exact .inr ⟨by simp, bel_strs⟩ | (simp; done) | exact .inr ⟨rfl, by simp⟩ | exact .inr ⟨by simp, by simp⟩)); done
        · exact ⟨by simp, by simp, empty_right, by simp [emptyB], by simp [emptyB], fun f hf => by simp [emptyB] at hf⟩
        rintro ⟨i, k⟩ ⟨h1, h2, h3, h4, h5, h6⟩
        simp only [go_sem]
        have hk := (right_fy h3).2.1)
    | (
        refine ⟨(i + 1, (comeF k x).1), ?_, ⟨by show i + 1 ≤ l.length; omega, by show i + 1 ≤ 60; omega, comeF_right h3, by show (comeF k x).1.ids.length ≤ i + 1; omega, by show (comeF k x).1.fills.length ≤ i + 1; omega, (hF.over (by omega) (by omega)).2.1⟩, by show l.length - (i + 1) < l.length - i; omega⟩
        (try simp only [go_sem]); (try rw [wrap64_id (by omega) (by omega)]); (repeat' (first | refine And.intro ?_ ?_ | exact .inl rfl | exact .inr rfl | exact .inr ⟨rfl, rfl⟩ | trivial | exact .inr (oblA rfl) | exact .inr ⟨rfl, oblA rfl⟩ | exact .inr bel_strs | exact .inr ⟨rfl, bel_strs⟩ | exact .inr ⟨by simp, bel_strs⟩ | (simp; done) | exact .inr ⟨rfl, by simp⟩ | exact .inr ⟨by simp, by simp⟩)); done)
    | (
        refine AWP.ret ?_
        refine AEnd.is ?_; simp only [go_sem, out_v, out_s, out_n, v_int, v_bool, v_str] <;> (first
        | rfl
        | (exfalso; have hov := hF.over (by omega) (by omega)
           first
           | (rw [hov.1] at h; simp at h; done)
           | (have e1 := hF.fill (by assumption) (by assumption) (by omega) (by omega); simp only [Q0, V0] at e1; (first | (have hsg : sgx x.buy = 1 := sgx_t (by assumption); rw [hsg] at e1) | (have hsg : sgx x.buy = -1 := sgx_f (by assumption); rw [hsg] at e1) | skip); (try rw [hwp] at c); (try rw [hw3] at h); (try rw [hw4] at c); (first | exact h (congrArg IntKind.i64.wrap (by omega)) | exact c (congrArg IntKind.i64.wrap (by omega))))
           | (have e1 := (r7 (by omega) (by omega)).1 (by assumption); simp only [Q0, V0] at e1; (first | (have hsg : sgx x.buy = 1 := sgx_t (by assumption); rw [hsg] at e1) | (have hsg : sgx x.buy = -1 := sgx_f (by assumption); rw [hsg] at e1) | skip); (try rw [hwp] at c); (try rw [hw3] at h); (try rw [hw4] at c); (first | exact h (congrArg IntKind.i64.wrap (by omega)) | exact c (congrArg IntKind.i64.wrap (by omega))))
           | (have e1 := (r7 (by omega) (by omega)).2 (by assumption); simp only [Q0, V0] at e1; (first | (have hsg : sgx x.buy = 1 := sgx_t (by assumption); rw [hsg] at e1) | (have hsg : sgx x.buy = -1 := sgx_f (by assumption); rw [hsg] at e1) | skip); (try rw [hwp] at c); (try rw [hw3] at h); (try rw [hw4] at c); (first | exact h (congrArg IntKind.i64.wrap (by omega)) | exact c (congrArg IntKind.i64.wrap (by omega))))
           | (have e1 := hF.same (by omega); simp only [Q0, V0] at e1; (first | (have hsg : sgx x.buy = 1 := sgx_t (by assumption); rw [hsg] at e1) | (have hsg : sgx x.buy = -1 := sgx_f (by assumption); rw [hsg] at e1) | skip); (try rw [hwp] at c); (try rw [hw3] at h); (try rw [hw4] at c); (first | exact h (congrArg IntKind.i64.wrap (by omega)) | exact c (congrArg IntKind.i64.wrap (by omega)))))
        | (exfalso; omega)
        | skip))
    | refine AWP.fin (by assumption) ?_)


end Go.Proofs.Ytlhdnenlgceeeaa
