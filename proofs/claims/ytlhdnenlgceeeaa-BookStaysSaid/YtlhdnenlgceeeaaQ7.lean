import Derived.Test.YtlhdnenlgceeeaaQ6
import Derived.Test.YtlhdnenlgceeeaaPm
set_option linter.unusedVariables false
set_option linter.unusedSimpArgs false
namespace Go.Proofs.Ytlhdnenlgceeeaa
open Go Go.Abs Go.RowKit Go.Bk
theorem there_old {l : List Bs} {x : Bs} {j : Nat} {th : Bool} (h : th = decide (x ∈ l.take j)) (ht : th = true) : true = decide (x ∈ l.take (j + 1)) := by
  subst ht
  have h : x ∈ l.take j := by simpa using h
  symm; rw [decide_eq_true_eq]
  exact List.take_subset_take_left l (Nat.le_succ j) h
theorem there_new {l : List Bs} {x y : Bs} {j : Nat} {th : Bool} (h : th = decide (x ∈ l.take j)) (ht : th = false) (hb : l[j]? = some y) : decide (y = x) = decide (x ∈ l.take (j + 1)) := by
  subst ht
  have h : x ∉ l.take j := by simpa using h
  rw [take_next hb]
  by_cases e : y = x
  · subst e; simp
  · have : x ≠ y := fun h => e h.symm
    simp [h, e, this]

set_option maxHeartbeats 8000000 in
set_option maxRecDepth 8000 in
theorem stays_c (l : List Ex) (hl : l.length ≤ 9223372036854775807) : ACalls E 7 [exsV l] (fun r t => r = bl true ∧ t = []) := by -- checkroll/checkrolllaw12.BookStays
  refine ACalls.of_awp (n := 158) (rs := [.tmp 2]) Try.func7 rfl Try.ntmps7 rfl ?_
  repeat' (first
    | refine AWP.seqk fun K hK => ?_
    | (
        refine AWP.here 7 23 12 rfl ?_
        obtain ⟨b, hb⟩ : ∃ b, l[i]? = some b := ⟨_, List.getElem?_eq_getElem (by omega)⟩
        have hF := stays_facts (x := b) h3 (by omega)
        have hn := (right_facts (comeF_right (x := b) h3)).2.1
        have hw : IntKind.i64.wrap ((k.ids.length : Int) + 1) = (k.ids.length : Int) + 1 := wrap64_id (by omega) (by omega)
        apply AWP.regionAnyJ (.take 0 (.take 1 (.take 2 (.take 3 (.take 4 (.fork (.alt 5 (.take 6 (.take 7 (.take 8 (.take 9 (.take 10 (.take 11 .done)))))) (.alt 9 (.take 5 (.take 6 (.take 7 (.take 8 (.take 10 (.take 11 .done)))))) .ends)))))))) [[], [], [], [1, 2], [1, 2, 3], [0, 1, 2, 3, 4], [0, 1, 2, 3, 4, 5], [0, 1, 2, 3, 4, 5, 6], [0, 1, 2, 3, 4, 5, 6], [], [0, 1, 2, 3, 4, 5, 6, 7, 9], [0, 1, 2, 3, 4, 5, 6, 7, 8, 9, 10]] [5] (by kernel_rfl) (by kernel_rfl) (by decide); simp only [go_sem])
    | (refine AWP.region ?_; simp only [go_sem])
    | (refine AWP.here 7 23 12 rfl ?_; apply AWP.regionAnyJ (.take 0 (.take 1 (.take 2 (.take 3 (.take 4 (.fork (.alt 5 (.take 6 (.take 7 (.take 8 (.take 9 (.take 10 (.take 11 .done)))))) (.alt 9 (.take 5 (.take 6 (.take 7 (.take 8 (.take 10 (.take 11 .done)))))) .ends)))))))) [[], [], [], [1, 2], [1, 2, 3], [0, 1, 2, 3, 4], [0, 1, 2, 3, 4, 5], [0, 1, 2, 3, 4, 5, 6], [0, 1, 2, 3, 4, 5, 6], [], [0, 1, 2, 3, 4, 5, 6, 7, 9], [0, 1, 2, 3, 4, 5, 6, 7, 8, 9, 10]] [5] (by kernel_rfl) (by kernel_rfl) (by decide); simp only [go_sem])
    | (refine AWP.here 12 38 15 rfl ?_; refine AWP.regionO [0, 1, 2, 3, 4, 5, 6, 7, 8, 9, 10, 11, 12, 13, 14] [] (by kernel_rfl) (by kernel_rfl) rfl ?_; simp only [go_sem])
    | (refine AWP.here 26 127 6 rfl ?_; apply AWP.regionAnyJ (.take 0 (.take 2 (.fork (.alt 1 (.take 3 (.take 4 (.take 5 .done))) (.alt 3 (.take 1 (.take 4 (.take 5 .done))) .ends))))) [[], [0], [], [2], [0, 1, 2, 3], [0, 1, 2, 3, 4]] [] (by kernel_rfl) (by kernel_rfl) (by decide); simp only [go_sem])
    | (refine AWP.here 13 52 34 rfl ?_; refine AWP.regionO [0, 1, 2, 3, 4, 5, 6, 7, 8, 9, 10, 11, 12, 13, 14, 15, 16, 17, 18, 19, 20, 21, 22, 23, 24, 25, 26, 27, 28, 29, 30, 31, 32, 33] [] (by kernel_rfl) (by kernel_rfl) rfl ?_; simp only [go_sem])
    | (refine hK _ ?_; clear hK K)
    | refine AWP.block ?_
    | refine AWP.cond rfl (fun c => ?_) (fun c => ?_) <;> first | exact Bool.noConfusion c | (try simp only [dD] at c)
    | refine AWP.skip ?_
    | (refine AWP.exit ?_; simp only [go_sem])
    | (refine ACall.one (awake12_c) (by kernel_rfl) rfl ?_; simp only [go_sem])
    | (refine ACall.one (come_c k b (by omega) (by omega) (by omega)) (by kernel_rfl) rfl ?_; simp only [go_sem])
    | (refine ACall.one (mexec_c _) (by kernel_rfl) rfl ?_; simp only [go_sem])
    | (refine ACall.one (same_c (comeF k b).1 k (by omega) (by omega) (by omega)) (by kernel_rfl) rfl ?_; simp only [go_sem])
    | (refine ACall.one (same_c ⟨(comeF k b).1.orders, (comeF k b).1.fills, k.ids, (comeF k b).1.clock, 0⟩ k (by show (comeF k b).1.orders.length ≤ _; omega) (by show (comeF k b).1.fills.length ≤ _; omega) (by show k.ids.length ≤ _; omega)) (by kernel_rfl) rfl ?_; simp only [go_sem])
    | (refine ACall.one (bright_c _ (by first | assumption | omega | (simp only [List.length_take]; omega)) (by first | assumption | omega | (simp only [List.length_take]; omega)) (by first | assumption | omega | (simp only [List.length_take]; omega))) (by kernel_rfl) rfl ?_; simp only [go_sem])
    | (refine AGuard.splitN (fun h => ?_) (fun h => ?_) <;> simp only [h, go_sem] <;> (try simp only [dD] at h))
    | (refine AGuard.split (fun h => ?_) (fun h => ?_) <;> simp only [h, go_sem] <;> (try simp only [dD] at h))
    | (refine AGet.haveM (by assumption) ?_; (try simp only [go_sem]))
    | (refine AGet.have' (by assumption) ?_; (try simp only [go_sem]))
    | ((first | refine AGet.nth ?_ (fun b hb => ?_) | refine AGet.nth1 ?_ (fun b hb => ?_) | with_reducible refine And.intro ?_ ?_); (focus (first | omega | assumption | exact List.length_pos_iff.2 (by assumption) | (simp only [List.length_append, List.length_cons, List.length_nil, List.length_map, List.length_take, List.length_drop] at *; omega) | (rw [wrap64_id (by omega) (by omega)]; omega) | (simp; done) | (simp [spare_len]; done) | (exact ⟨by omega, by omega⟩))); (try simp only [hb, go_sem]))
    | exact rfl
    | refine And.intro (a := ACall _ _ _ _ _ _ _ _) ?_ ?_
    | refine And.intro (a := AGet _ _) ?_ ?_
    | refine And.intro (a := AGuard _ _ _ _ _ _ _) ?_ ?_
    | (
        refine AWP.here 5 12 8 rfl ?_
        refine AWP.nilPlainLeaf 0 0 8 _ rfl rfl ?_
        refine AWP.nilPlainLeaf 0 1 9 _ rfl rfl ?_
        refine AWP.nilPlainLeaf 0 2 1 _ rfl rfl ?_
        simp only [go_sem]
        refine AWP.loopM (ι := Nat × Bk) [2, 5, 6, 7, 8, 9, 12, 13, 14, 15, 16, 17, 18, 19, 20, 21, 22, 23, 24, 25, 26, 27, 28, 29, 30, 31, 32, 33, 34, 35, 36, 37, 38, 39, 40, 41, 42, 43, 44, 45, 46, 47, 48, 49, 50, 51, 52, 53, 54, 55, 56, 57, 58, 59, 60, 61, 62, 63, 64, 65, 66, 67, 68, 69, 70, 71, 72, 73, 74, 75, 76, 77, 78, 79, 80, 81, 82, 83, 84, 85, 86, 87, 88, 89, 90, 91, 92, 93, 94, 95, 96, 97, 98, 99, 100, 101, 102, 103, 104, 105, 106, 107, 108, 109, 110, 111, 112, 113, 114, 115, 116, 117, 118, 119, 120, 121, 122, 123, 124, 125, 126, 127, 128, 129, 130, 131, 132, 133, 134, 135, 136, 137, 138, 139, 140, 141, 142, 143, 144, 145, 146, 147, 148, 149, 150, 151, 152, 153, 154, 155] (fun ⟨i, k⟩ => [(4, i64 i)]) (fun ⟨i, k⟩ => [some [.agg [odsV k.orders, dnsV k.fills, .sl none 1 (k.ids.map str), i64 k.clock, i64 k.bad]]]) (fun ⟨i, k⟩ => []) (fun ⟨i, k⟩ => i ≤ l.length ∧ i ≤ 60 ∧ rightBk k = true ∧ k.ids.length ≤ i) (fun ⟨i, k⟩ => l.length - i) ((0, emptyB)) ?_ ?_ ?_
        · (try simp only [go_sem]); (repeat' (first | refine And.intro ?_ ?_ | exact .inl rfl | exact .inr rfl | exact .inr ⟨rfl, rfl⟩ | trivial | exact .inr (oblA rfl) | exact .inr ⟨rfl, oblA rfl⟩ | exact .inr bel_strs | exact .inr ⟨rfl, bel_strs⟩ | exact .inr ⟨by simp, bel_strs⟩ | (simp; done) | exact .inr ⟨rfl, by simp⟩ | exact .inr ⟨by simp, by simp⟩))
        · exact ⟨by simp, by simp, empty_right, by simp [emptyB]⟩
        rintro ⟨i, k⟩ ⟨h1, h2, h3, h4⟩
        simp only [go_sem]
        have hk := (right_facts h3).2.1)
    | (
        refine AWP.here 10 31 5 rfl ?_
        refine AWP.loopM (ι := Nat × Bool) [31, 32, 33, 34, 35, 36, 37, 38, 39, 40, 41, 42, 43, 44, 45, 46, 47, 48, 49, 50, 51] (fun ⟨j, th⟩ => [(8, i64 j), (7, bl th)]) (fun ⟨j, th⟩ => [some [.agg [odsV k.orders, dnsV k.fills, .sl none 1 (k.ids.map str), i64 k.clock, i64 k.bad]], some [.agg [odsV (comeF k b).1.orders, dnsV (comeF k b).1.fills, .sl none 1 ((comeF k b).1.ids.map str), i64 (comeF k b).1.clock, i64 (comeF k b).1.bad]]]) (fun ⟨j, th⟩ => []) (fun ⟨j, th⟩ => j ≤ k.ids.length ∧ th = decide (b.id ∈ k.ids.take j)) (fun ⟨j, th⟩ => k.ids.length - j) ((0, false)) ?_ ?_ ?_
        · (try simp only [go_sem]); (repeat' (first | refine And.intro ?_ ?_ | exact .inl rfl | exact .inr rfl | exact .inr ⟨rfl, rfl⟩ | trivial | exact .inr (oblA rfl) | exact .inr ⟨rfl, oblA rfl⟩ | exact .inr bel_strs | exact .inr ⟨rfl, bel_strs⟩ | exact .inr ⟨by simp, bel_strs⟩ | (simp; done) | exact .inr ⟨rfl, by simp⟩ | exact .inr ⟨by simp, by simp⟩))
        · exact ⟨by simp, by simp⟩
        rintro ⟨j, th⟩ ⟨g1, g2⟩
        simp only [go_sem])
    | (
        refine ⟨(i + 1, (comeF k b).1), ?_, ⟨by show i + 1 ≤ l.length; omega, by show i + 1 ≤ 60; omega, comeF_right h3, by show (comeF k b).1.ids.length ≤ i + 1; omega⟩, by show l.length - (i + 1) < l.length - i; omega⟩
        (try simp only [go_sem]); (try rw [wrap64_id (by omega) (by omega)]); (repeat' (first | refine And.intro ?_ ?_ | exact .inl rfl | exact .inr rfl | exact .inr ⟨rfl, rfl⟩ | trivial | exact .inr (oblA rfl) | exact .inr ⟨rfl, oblA rfl⟩ | exact .inr bel_strs | exact .inr ⟨rfl, bel_strs⟩ | exact .inr ⟨by simp, bel_strs⟩ | (simp; done) | exact .inr ⟨rfl, by simp⟩ | exact .inr ⟨by simp, by simp⟩)))
    | (
        first
        | (refine ⟨(j + 1, true), ?_, ⟨by show j + 1 ≤ k.ids.length; omega, there_old g2 (by assumption)⟩, by show k.ids.length - (j + 1) < k.ids.length - j; omega⟩
           (try simp only [go_sem]); (try rw [wrap64_id (by omega) (by omega)]); (repeat' (first | refine And.intro ?_ ?_ | exact .inl rfl | exact .inr rfl | exact .inr ⟨rfl, rfl⟩ | trivial | exact .inr (oblA rfl) | exact .inr ⟨rfl, oblA rfl⟩ | exact .inr bel_strs | exact .inr ⟨rfl, bel_strs⟩ | exact .inr ⟨by simp, bel_strs⟩ | (simp; done) | exact .inr ⟨rfl, by simp⟩ | exact .inr ⟨by simp, by simp⟩)))
        | (refine ⟨(j + 1, _), ?_, ⟨by show j + 1 ≤ k.ids.length; omega, there_new g2 (by assumption) hb⟩, by show k.ids.length - (j + 1) < k.ids.length - j; omega⟩
           (try simp only [go_sem]); (try rw [wrap64_id (by omega) (by omega)]); (repeat' (first | refine And.intro ?_ ?_ | exact .inl rfl | exact .inr rfl | exact .inr ⟨rfl, rfl⟩ | trivial | exact .inr (oblA rfl) | exact .inr ⟨rfl, oblA rfl⟩ | exact .inr bel_strs | exact .inr ⟨rfl, bel_strs⟩ | exact .inr ⟨by simp, bel_strs⟩ | (simp; done) | exact .inr ⟨rfl, by simp⟩ | exact .inr ⟨by simp, by simp⟩))))
    | (
        refine AWP.ret ?_
        refine AEnd.is ?_; simp only [go_sem, out_v, out_s, out_n, v_int, v_bool, v_str] <;> (first
        | (exfalso; rw [List.take_of_length_le (by omega)] at g2; obtain ⟨f0, f1, f2, f3, f4⟩ := hF; clear hl hk hn hb; simp_all; done)
        | (exfalso; rw [List.take_of_length_le (by omega)] at g2; obtain ⟨f0, f1, f2, f3, f4⟩ := hF; clear hl hk hn hb; simp_all; omega)
        | (symm; assumption)
        | assumption))
    | refine AWP.fin (by assumption) ?_)


end Go.Proofs.Ytlhdnenlgceeeaa
