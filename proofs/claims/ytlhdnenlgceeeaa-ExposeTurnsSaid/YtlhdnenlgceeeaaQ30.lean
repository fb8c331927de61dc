import Derived.Test.YtlhdnenlgceeeaaQ29
import Derived.Test.YtlhdnenlgceeeaaLm
set_option linter.unusedVariables false
set_option linter.unusedSimpArgs false
namespace Go.Proofs.Ytlhdnenlgceeeaa
open Go Go.Abs Go.RowKit Go.Bk

set_option maxHeartbeats 8000000 in
set_option maxRecDepth 40000 in
theorem eturns_c (bk : Bk) (l : List Od) (acc sym : Bs) (ho : bk.orders.length ≤ 9223372036854775807) (hf : bk.fills.length ≤ 9223372036854775807) (hi : bk.ids.length ≤ 9223372036854775807) (hl : l.length ≤ 9223372036854775807) : ACalls E 4 [bkV bk, odsV l, str acc, str sym] (fun r t => r = bl true ∧ t = []) := by -- checkroll/checkrolllaw16.ExposeTurns
  refine ACalls.of_awp (n := 132) (rs := [.tmp 8]) Try.func4 rfl Try.ntmps4 rfl ?_
  repeat' (first
    | (
        refine AWP.cutTo hc6 ?_
        (try simp only [List.length_map])
        first | (refine AWP.renum [0, 1, 3, 5] (by decide) rfl rfl ?_; simp only [go_sem, dn_ren, od_ren]; refine AWP.slotMu 35 2 9 ⟨_, _, _, rfl⟩ ?_; refine AWP.slotMu 39 3 8 ⟨_, _, _, rfl⟩ ?_; obtain ⟨mf, rfl⟩ : ∃ mf, mf = m1 := ⟨_, rfl⟩; obtain ⟨mo, rfl⟩ : ∃ mo, mo = m2 := ⟨_, rfl⟩) | (refine AWP.renum [0, 1, 4, 5] (by decide) rfl rfl ?_; simp only [go_sem, dn_ren, od_ren]; refine AWP.slotMu 35 2 9 ⟨_, _, _, rfl⟩ ?_; refine AWP.slotMu 39 3 8 ⟨_, _, _, rfl⟩ ?_; obtain ⟨mf, rfl⟩ : ∃ mf, mf = m1 := ⟨_, rfl⟩; obtain ⟨mo, rfl⟩ : ∃ mo, mo = m2 := ⟨_, rfl⟩) | (refine AWP.renum [0, 1, 5, 4] (by decide) rfl rfl ?_; simp only [go_sem, dn_ren, od_ren]; refine AWP.slotMu 35 2 9 ⟨_, _, _, rfl⟩ ?_; refine AWP.slotMu 39 3 8 ⟨_, _, _, rfl⟩ ?_; obtain ⟨mf, rfl⟩ : ∃ mf, mf = m2 := ⟨_, rfl⟩; obtain ⟨mo, rfl⟩ : ∃ mo, mo = m1 := ⟨_, rfl⟩) | (refine AWP.renum [0, 1, 5, 3] (by decide) rfl rfl ?_; simp only [go_sem, dn_ren, od_ren]; refine AWP.slotMu 35 2 9 ⟨_, _, _, rfl⟩ ?_; refine AWP.slotMu 39 3 8 ⟨_, _, _, rfl⟩ ?_; obtain ⟨mf, rfl⟩ : ∃ mf, mf = m2 := ⟨_, rfl⟩; obtain ⟨mo, rfl⟩ : ∃ mo, mo = m1 := ⟨_, rfl⟩)
        refine AWP.weaken ?_ (hc6 (mf, mo))
        (try simp only [go_sem]); (repeat' (first | refine And.intro ?_ ?_ | exact .inl rfl | exact .inr rfl | exact .inr ⟨rfl, rfl⟩ | trivial | exact .inr (oblA rfl) | exact .inr ⟨rfl, oblA rfl⟩ | exact .inr bel_strs | exact .inr bel_dns | exact .inr ⟨rfl, bel_dns⟩ | exact .inr bel_ods | exact .inr ⟨rfl, bel_ods⟩ | exact .inr ⟨rfl, bel_strs⟩ | exact .inr ⟨by simp, bel_strs⟩ | (simp; done) | exact .inr ⟨rfl, by simp⟩ | exact .inr ⟨by simp, by simp⟩)); done)
    | refine AWP.seqk fun K hK => ?_
    | (
        refine AWP.here 6 32 12 rfl ?_
        first
        | (have h0 := hc6; clear h0; refine AWP.regionAnyM [0, 3, 4, 7] (.take 1 (.take 2 (.take 5 (.take 6 (.fork (.alt 0 (.fork (.alt 3 (.take 8 (.take 4 (.take 7 (.take 9 (.take 10 (.take 11 .done)))))) (.alt 4 (.take 3 (.take 8 (.take 7 (.take 9 (.take 10 (.take 11 .done)))))) .ends))) (.alt 4 (.take 0 (.take 3 (.take 8 (.take 7 (.take 9 (.take 10 (.take 11 .done))))))) .ends))))))) [[], [], [1], [0, 1, 2], [], [], [5], [0, 1, 2, 3, 4, 5, 6], [0, 1, 2, 3], [0, 1, 2, 3, 4, 5, 6, 7, 8], [0, 1, 2, 3, 4, 5, 6, 7, 8, 9], [0, 1, 2, 3, 4, 5, 6, 7, 8, 9, 10]] [] (by kernel_rfl) (by kernel_rfl) ?_; simp only [go_sem, List.contains_cons, List.contains_nil, Nat.reduceBEq, Bool.or_false, Bool.false_or, Bool.or_true, Bool.true_or, if_true, if_false, Bool.false_eq_true, reduceIte])
        | (refine AWP.cutAt (ι := Nat × Nat) [32, 33, 34, 35, 36, 37, 38, 39, 40, 41] (fun ⟨mf, mo⟩ => []) (fun ⟨mf, mo⟩ => [some [.agg [odsV bk.orders, dnsV bk.fills, .sl none 1 (bk.ids.map str), i64 bk.clock, i64 bk.bad]], some [.agg [.mu 3 8 0 bk.orders.length (bk.orders.length + mo), .mu 2 9 0 bk.fills.length (bk.fills.length + mf), .sl none 1 (bk.ids.map str), i64 bk.clock, i64 bk.bad]], some (bk.fills.map dnV ++ spare 9 mf), some (bk.orders.map odV ++ spare 8 mo)]) (fun ⟨mf, mo⟩ => []) hK (fun ii => ?_) (fun hc6 => ?_)))
    | (refine Cut.mk ?_; obtain ⟨mf, mo⟩ := ii; simp only [go_sem])
    | (
        refine AWP.here 5 31 3 rfl ?_
        have hr : rightBk bk = true := by assumption
        have hk := (right_fy hr).2.1
        refine AWP.region ?_; simp only [go_sem])
    | (
        refine AWP.here 10 49 13 rfl ?_
        obtain ⟨f, hx⟩ : ∃ f, bk.fills[i]? = some f := ⟨_, List.getElem?_eq_getElem (by omega)⟩
        have hx2 : ((turnN bk.fills i).map dnV ++ spare 9 mf)[i]? = some (dnV f) := by rw [List.getElem?_append_left (by rw [List.length_map, turnN_len]; omega), List.getElem?_map, turnN_get hx]; rfl
        refine AWP.regionO [0, 1, 2, 3, 4, 5, 6, 7, 8, 9, 10, 11, 12] [] (by kernel_rfl) (by kernel_rfl) rfl ?_; simp only [go_sem])
    | (
        refine AWP.here 9 47 3 rfl ?_
        (try rw [row_turn hx])
        refine AWP.region ?_; simp only [go_sem])
    | (
        refine AWP.here 14 68 13 rfl ?_
        obtain ⟨p, hy⟩ : ∃ p, bk.orders[j]? = some p := ⟨_, List.getElem?_eq_getElem (by omega)⟩
        have hy2 : ((turnO bk.orders j).map odV ++ spare 8 mo)[j]? = some (odV p) := by rw [List.getElem?_append_left (by rw [List.length_map, turnO_len]; omega), List.getElem?_map, turnO_get hy]; rfl
        refine AWP.regionO [0, 1, 2, 3, 4, 5, 6, 7, 8, 9, 10, 11, 12] [] (by kernel_rfl) (by kernel_rfl) rfl ?_; simp only [go_sem])
    | (
        refine AWP.here 13 66 3 rfl ?_
        (try rw [row_turnO hy])
        refine AWP.region ?_; simp only [go_sem])
    | (
        refine AWP.here 15 80 12 rfl ?_
        rw [turnO_all (by omega)]
        refine AWP.publishLeaf 1 1 (jd := 2) (k := 9) (n := bk.fills.length) (cap := bk.fills.length + mf) _ ((bk.fills.map trn).map dnV ++ spare 9 mf) (by decide) rfl rfl rfl (by simp [spare_len]) (by rw [tr_take]; exact cl_dn _) ?_
        rw [tr_take]
        simp only [go_sem]
        refine AWP.publishLeaf 1 0 (jd := 3) (k := 8) (n := bk.orders.length) (cap := bk.orders.length + mo) _ ((bk.orders.map trO).map odV ++ spare 8 mo) (by decide) rfl rfl rfl (by simp [spare_len]) (by rw [tr_takeO]; exact cl_od _) ?_
        rw [tr_takeO]
        simp only [go_sem]
        refine AWP.regionO [0, 1, 2, 4, 5, 6, 8, 9, 3, 7, 10, 11] [12, 13] (by kernel_rfl) (by kernel_rfl) rfl ?_; simp only [go_sem])
    | (
        refine AWP.here 16 88 12 rfl ?_
        rw [of_turn hr]
        refine AWP.region ?_; simp only [go_sem])
    | (
        refine AWP.here 24 116 11 rfl ?_
        obtain ⟨o, hc⟩ : ∃ o, l[q]? = some o := ⟨_, List.getElem?_eq_getElem (by omega)⟩
        have hsl := cut_one hc
        have hw5 : IntKind.i64.wrap ((q : Int) + 1) = ((q + 1 : Nat) : Int) := by rw [wrap64_id (by omega) (by omega)]; simp
        refine AWP.regionO [0, 1, 2, 3, 4, 5, 6, 7, 8, 9, 10] [] (by kernel_rfl) (by kernel_rfl) rfl ?_; simp only [go_sem, hw5, Int.toNat_natCast, hsl])
    | (refine AWP.region ?_; simp only [go_sem])
    | (refine AWP.here 6 32 12 rfl ?_; refine AWP.regionAnyT (.take 1 (.take 2 (.take 5 (.take 6 (.fork (.alt 0 (.fork (.alt 3 (.take 8 (.take 4 (.take 7 (.take 9 (.take 10 (.take 11 .done)))))) (.alt 4 (.take 3 (.take 8 (.take 7 (.take 9 (.take 10 (.take 11 .done)))))) .ends))) (.alt 4 (.take 0 (.take 3 (.take 8 (.take 7 (.take 9 (.take 10 (.take 11 .done))))))) .ends))))))) [[], [], [1], [0, 1, 2], [], [], [5], [0, 1, 2, 3, 4, 5, 6], [0, 1, 2, 3], [0, 1, 2, 3, 4, 5, 6, 7, 8], [0, 1, 2, 3, 4, 5, 6, 7, 8, 9], [0, 1, 2, 3, 4, 5, 6, 7, 8, 9, 10]] [] (by kernel_rfl) (by kernel_rfl) ?_; simp only [go_sem])
    | (refine AWP.here 10 49 13 rfl ?_; refine AWP.regionO [0, 1, 2, 3, 4, 5, 6, 7, 8, 9, 10, 11, 12] [] (by kernel_rfl) (by kernel_rfl) rfl ?_; simp only [go_sem])
    | (refine AWP.here 14 68 13 rfl ?_; refine AWP.regionO [0, 1, 2, 3, 4, 5, 6, 7, 8, 9, 10, 11, 12] [] (by kernel_rfl) (by kernel_rfl) rfl ?_; simp only [go_sem])
    | (refine AWP.here 15 80 12 rfl ?_; refine AWP.regionO [0, 1, 2, 4, 5, 6, 8, 9, 3, 7, 10, 11] [12, 13] (by kernel_rfl) (by kernel_rfl) rfl ?_; simp only [go_sem])
    | (refine AWP.here 24 116 11 rfl ?_; refine AWP.regionO [0, 1, 2, 3, 4, 5, 6, 7, 8, 9, 10] [] (by kernel_rfl) (by kernel_rfl) rfl ?_; simp only [go_sem])
    | (refine AWP.here 25 126 7 rfl ?_; refine AWP.regionO [0, 1, 2, 3, 4, 5, 6] [] (by kernel_rfl) (by kernel_rfl) rfl ?_; simp only [go_sem])
    | (refine hK _ ?_; clear hK K)
    | refine AWP.block ?_
    | refine AWP.cond rfl (fun c => ?_) (fun c => ?_) <;> first | exact Bool.noConfusion c | (try simp only [dD] at c)
    | refine AWP.skip ?_
    | (refine AWP.exit ?_; simp only [go_sem])
    | (refine ACall.one (awake16_c) (by kernel_rfl) rfl ?_; simp only [go_sem])
    | (refine ACall.one (r12short_c bk) (by kernel_rfl) rfl ?_; simp only [go_sem])
    | (refine ACall.one (r11short_c l) (by kernel_rfl) rfl ?_; simp only [go_sem])
    | (refine ACall.one (bright_c bk ho hf hi) (by kernel_rfl) rfl ?_; simp only [go_sem])
    | (refine ACall.one (eof_c bk acc sym ho hf hi) (by kernel_rfl) rfl ?_; simp only [go_sem])
    | (refine ACall.one (eof_c ⟨bk.orders.map trO, bk.fills.map trn, bk.ids, bk.clock, bk.bad⟩ acc sym (by simp; omega) (by simp; omega) hi) (by kernel_rfl) rfl ?_; simp only [go_sem])
    | (refine ACall.one (r11right_c l hl) (by kernel_rfl) rfl ?_; simp only [go_sem])
    | ((try simp only [hsl]); refine ACall.one (pend_c [o] acc sym (by simp)) (by kernel_rfl) rfl ?_; simp only [go_sem])
    | (refine ACall.one (pend_c l acc sym hl) (by kernel_rfl) rfl ?_; simp only [go_sem])
    | (refine ACall.one (plus_c u (pendF [o] acc sym)) (by kernel_rfl) rfl ?_; simp only [go_sem])
    | (refine AGuard.splitN (fun h => ?_) (fun h => ?_) <;> simp only [h, go_sem] <;> (try simp only [dD] at h))
    | (refine AGuard.split (fun h => ?_) (fun h => ?_) <;> simp only [h, go_sem] <;> (try simp only [dD] at h))
    | (refine AGet.haveM (by assumption) ?_; (try simp only [go_sem]))
    | (refine AGet.have' (by assumption) ?_; (try simp only [go_sem]))
    | ((first | refine AGet.nth ?_ (fun b hb => ?_) | refine AGet.nth1 ?_ (fun b hb => ?_) | with_reducible refine And.intro ?_ ?_); (focus (first | omega | assumption | exact List.length_pos_iff.2 (by assumption) | (simp only [List.length_append, List.length_cons, List.length_nil, List.length_map, List.length_take, List.length_drop] at *; omega) | (rw [wrap64_id (by omega) (by omega)]; omega) | (simp; done) | (simp [spare_len]; done) | (exact ⟨by omega, by omega⟩))); (try simp only [hb, go_sem]))
    | exact rfl
    | refine And.intro (a := ACall _ _ _ _ _ _ _ _) ?_ ?_
    | refine And.intro (a := AGet _ _) ?_ ?_
    | refine And.intro (a := AGuard _ _ _ _ _ _ _) ?_ ?_
    | (
        refine AWP.here 8 42 5 rfl ?_
        refine AWP.loopM (ι := Nat) [42, 43, 44, 45, 46, 47, 48, 49, 50, 51, 52, 53, 54, 55, 56, 57, 58, 59, 60] (fun (i : Nat) => [(10, i64 i)]) (fun (i : Nat) => [some [.agg [odsV bk.orders, dnsV bk.fills, .sl none 1 (bk.ids.map str), i64 bk.clock, i64 bk.bad]], some [.agg [.mu 3 8 0 bk.orders.length (bk.orders.length + mo), .mu 2 9 0 bk.fills.length (bk.fills.length + mf), .sl none 1 (bk.ids.map str), i64 bk.clock, i64 bk.bad]], some ((turnN bk.fills i).map dnV ++ spare 9 mf), some (bk.orders.map odV ++ spare 8 mo)]) (fun (i : Nat) => []) (fun (i : Nat) => i ≤ bk.fills.length) (fun (i : Nat) => bk.fills.length - i) (0) ?_ ?_ ?_
        · (try simp only [go_sem]); (try rw [turnN_zero]); (repeat' (first | refine And.intro ?_ ?_ | exact .inl rfl | exact .inr rfl | exact .inr ⟨rfl, rfl⟩ | trivial | exact .inr (oblA rfl) | exact .inr ⟨rfl, oblA rfl⟩ | exact .inr bel_strs | exact .inr bel_dns | exact .inr ⟨rfl, bel_dns⟩ | exact .inr bel_ods | exact .inr ⟨rfl, bel_ods⟩ | exact .inr ⟨rfl, bel_strs⟩ | exact .inr ⟨by simp, bel_strs⟩ | (simp; done) | exact .inr ⟨rfl, by simp⟩ | exact .inr ⟨by simp, by simp⟩)); done
        · exact Nat.zero_le _
        rintro i h1
        simp only [go_sem])
    | (
        refine AWP.here 12 61 5 rfl ?_
        refine AWP.loopM (ι := Nat) [61, 62, 63, 64, 65, 66, 67, 68, 69, 70, 71, 72, 73, 74, 75, 76, 77, 78, 79] (fun (j : Nat) => [(11, i64 j)]) (fun (j : Nat) => [some [.agg [odsV bk.orders, dnsV bk.fills, .sl none 1 (bk.ids.map str), i64 bk.clock, i64 bk.bad]], some [.agg [.mu 3 8 0 bk.orders.length (bk.orders.length + mo), .mu 2 9 0 bk.fills.length (bk.fills.length + mf), .sl none 1 (bk.ids.map str), i64 bk.clock, i64 bk.bad]], some ((bk.fills.map trn).map dnV ++ spare 9 mf), some ((turnO bk.orders j).map odV ++ spare 8 mo)]) (fun (j : Nat) => []) (fun (j : Nat) => j ≤ bk.orders.length) (fun (j : Nat) => bk.orders.length - j) (0) ?_ ?_ ?_
        · (try simp only [go_sem]); (try rw [turnO_zero]); (try rw [turnN_all (by omega)]); (repeat' (first | refine And.intro ?_ ?_ | exact .inl rfl | exact .inr rfl | exact .inr ⟨rfl, rfl⟩ | trivial | exact .inr (oblA rfl) | exact .inr ⟨rfl, oblA rfl⟩ | exact .inr bel_strs | exact .inr bel_dns | exact .inr ⟨rfl, bel_dns⟩ | exact .inr bel_ods | exact .inr ⟨rfl, bel_ods⟩ | exact .inr ⟨rfl, bel_strs⟩ | exact .inr ⟨by simp, bel_strs⟩ | (simp; done) | exact .inr ⟨rfl, by simp⟩ | exact .inr ⟨by simp, by simp⟩)); done
        · exact Nat.zero_le _
        rintro j g1
        simp only [go_sem])
    | (
        refine AWP.here 22 110 4 rfl ?_
        refine AWP.loopM (ι := Nat × Ws) [110, 111, 112, 113, 114, 115, 116, 117, 118, 119, 120, 121, 122, 123, 124, 125] (fun ⟨q, u⟩ => [(15, i64 q)]) (fun ⟨q, u⟩ => [some [.agg [odsV bk.orders, dnsV bk.fills, .sl none 1 (bk.ids.map str), i64 bk.clock, i64 bk.bad]], some [.agg [odsV (bk.orders.map trO), dnsV (bk.fills.map trn), .sl none 1 (bk.ids.map str), i64 bk.clock, i64 bk.bad]], none, none, some [.agg [i64 (ofF bk acc sym).1, i64 (ofF bk acc sym).2]], some [.agg [i64 (swapW (ofF bk acc sym)).1, i64 (swapW (ofF bk acc sym)).2]], some [.agg [i64 u.1, i64 u.2]]]) (fun ⟨q, u⟩ => []) (fun ⟨q, u⟩ => q ≤ l.length ∧ u = upP l acc sym q) (fun ⟨q, u⟩ => l.length - q) ((0, ((0, 0) : Ws))) ?_ ?_ ?_
        · (try simp only [go_sem]); (repeat' (first | refine And.intro ?_ ?_ | exact .inl rfl | exact .inr rfl | exact .inr ⟨rfl, rfl⟩ | trivial | exact .inr (oblA rfl) | exact .inr ⟨rfl, oblA rfl⟩ | exact .inr bel_strs | exact .inr ⟨rfl, bel_strs⟩ | exact .inr ⟨by simp, bel_strs⟩ | (simp; done) | exact .inr ⟨rfl, by simp⟩ | exact .inr ⟨by simp, by simp⟩)); done
        · exact ⟨Nat.zero_le _, rfl⟩
        rintro ⟨q, u⟩ ⟨k1, k2⟩
        simp only [go_sem])
    | (
        refine ⟨i + 1, ?_, ?_, ?_⟩
        · (try simp only [go_sem]); (try rw [wrap64_id (by omega) (by omega)]); (try rw [row_turn hx]); (repeat' (first | refine And.intro ?_ ?_ | exact .inl rfl | exact .inr rfl | exact .inr ⟨rfl, rfl⟩ | trivial | exact .inr (oblA rfl) | exact .inr ⟨rfl, oblA rfl⟩ | exact .inr bel_strs | exact .inr bel_dns | exact .inr ⟨rfl, bel_dns⟩ | exact .inr bel_ods | exact .inr ⟨rfl, bel_ods⟩ | exact .inr ⟨rfl, bel_strs⟩ | exact .inr ⟨by simp, bel_strs⟩ | (simp; done) | exact .inr ⟨rfl, by simp⟩ | exact .inr ⟨by simp, by simp⟩)); done
        · omega
        · (try simp only []); omega)
    | (
        refine ⟨j + 1, ?_, ?_, ?_⟩
        · (try simp only [go_sem]); (try rw [wrap64_id (by omega) (by omega)]); (try rw [row_turnO hy]); (repeat' (first | refine And.intro ?_ ?_ | exact .inl rfl | exact .inr rfl | exact .inr ⟨rfl, rfl⟩ | trivial | exact .inr (oblA rfl) | exact .inr ⟨rfl, oblA rfl⟩ | exact .inr bel_strs | exact .inr bel_dns | exact .inr ⟨rfl, bel_dns⟩ | exact .inr bel_ods | exact .inr ⟨rfl, bel_ods⟩ | exact .inr ⟨rfl, bel_strs⟩ | exact .inr ⟨by simp, bel_strs⟩ | (simp; done) | exact .inr ⟨rfl, by simp⟩ | exact .inr ⟨by simp, by simp⟩)); done
        · omega
        · (try simp only []); omega)
    | (
        refine ⟨(q + 1, plusW u (pendF [o] acc sym)), ?_, ⟨by show q + 1 ≤ l.length; omega, pend_step (by assumption) hc k2⟩, by show l.length - (q + 1) < l.length - q; omega⟩
        (try simp only [go_sem]); (try rw [wrap64_id (by omega) (by omega)]); (repeat' (first | refine And.intro ?_ ?_ | exact .inl rfl | exact .inr rfl | exact .inr ⟨rfl, rfl⟩ | trivial | exact .inr (oblA rfl) | exact .inr ⟨rfl, oblA rfl⟩ | exact .inr bel_strs | exact .inr bel_dns | exact .inr ⟨rfl, bel_dns⟩ | exact .inr bel_ods | exact .inr ⟨rfl, bel_ods⟩ | exact .inr ⟨rfl, bel_strs⟩ | exact .inr ⟨by simp, bel_strs⟩ | (simp; done) | exact .inr ⟨rfl, by simp⟩ | exact .inr ⟨by simp, by simp⟩)); done)
    | (
        refine AWP.ret ?_
        refine AEnd.is ?_; simp only [go_sem, out_v, out_s, out_n, v_int, v_bool, v_str] <;> (first | rfl | exact c rfl | exact h rfl | (simp; done) | (rw [← upP_end (by assumption) (by omega) k2]; simp; done) | (rw [pend_no (by assumption)]; simp; done) | skip))
    | ((fail_if_success (have := m1)); (with_reducible intro m1); (try simp only [go_sem]))
    | ((fail_if_success (have := m2)); (with_reducible intro m2); (try simp only [go_sem]))
    | (with_reducible refine And.intro ?_ ?_)
    | refine AWP.fin (by assumption) ?_
    | fail)


end Go.Proofs.Ytlhdnenlgceeeaa
