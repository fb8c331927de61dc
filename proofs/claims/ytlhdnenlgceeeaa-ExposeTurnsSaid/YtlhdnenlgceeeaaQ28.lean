import Derived.Test.YtlhdnenlgceeeaaQ26
import Derived.Test.YtlhdnenlgceeeaaLm
import Derived.Test.YtlhdnenlgceeeaaPq
set_option linter.unusedVariables false
set_option linter.unusedSimpArgs false
namespace Go.Proofs.Ytlhdnenlgceeeaa
open Go Go.Abs Go.RowKit Go.Bk
theorem bel_dns {no nt m : Nat} {l : List Dn} : ∀ es, some (l.map dnV ++ spare 9 m) = some es → ∀ e ∈ es, ∀ z ∈ e.leaves, z.bel no nt = true := bel_row fun x z hz => by
  simp only [AV.leaves, List.mem_cons, List.not_mem_nil, or_false] at hz
  rcases hz with rfl | rfl | rfl | rfl | rfl | rfl | rfl | rfl | rfl <;> rfl
theorem row_turn {l : List Dn} {i m : Nat} {f : Dn} (h : l[i]? = some f) : ((turnN l i).map dnV ++ spare 9 m).set i (AV.agg [str f.id, str f.ord, str f.acc, str f.sym, bl (!f.buy), i64 f.qty, i64 f.price, i64 f.time, bl f.live]) = (turnN l (i + 1)).map dnV ++ spare 9 m := by
  have hi := get_lt h
  rw [List.set_append_left _ _ (by rw [List.length_map, turnN_len]; exact hi), ← turnN_next h, List.map_set]; rfl
theorem tr_take {l : List Dn} {m : Nat} : ((l.map trn).map dnV ++ spare 9 m).take l.length = (l.map trn).map dnV := List.take_left' (by simp)

set_option maxHeartbeats 4000000 in
set_option maxRecDepth 8000 in
theorem r12short_c (bk : Bk) : ACalls E 19 [bkV bk] (fun r t => r = bl (decide (bk.orders.length ≤ 80 ∧ bk.fills.length ≤ 60 ∧ bk.ids.length ≤ 300)) ∧ t = []) := by -- checkroll/checkrollref12.Short
  refine ACalls.of_awp (n := 19) (rs := [.tmp 2]) Try.func19 rfl Try.ntmps19 rfl ?_
  repeat' (first
    | refine AWP.seqk fun K hK => ?_
    | (refine AWP.region ?_; simp only [go_sem])
    | (refine hK _ ?_; clear hK K)
    | refine AWP.block ?_
    | refine AWP.cond rfl (fun c => ?_) (fun c => ?_) <;> first | exact Bool.noConfusion c | (try simp only [dD] at c)
    | refine AWP.skip ?_
    | (refine AWP.exit ?_; simp only [go_sem])
    | (refine AGuard.splitN (fun h => ?_) (fun h => ?_) <;> simp only [h, go_sem] <;> (try simp only [dD] at h))
    | (refine AGuard.split (fun h => ?_) (fun h => ?_) <;> simp only [h, go_sem] <;> (try simp only [dD] at h))
    | (refine AGet.haveM (by assumption) ?_; (try simp only [go_sem]))
    | (refine AGet.have' (by assumption) ?_; (try simp only [go_sem]))
    | ((first | refine AGet.nth ?_ (fun b hb => ?_) | refine AGet.nth1 ?_ (fun b hb => ?_) | with_reducible refine And.intro ?_ ?_); (focus (first | omega | assumption | exact List.length_pos_iff.2 (by assumption) | (simp only [List.length_append, List.length_cons, List.length_nil, List.length_map, List.length_take, List.length_drop] at *; omega) | (rw [wrap64_id (by omega) (by omega)]; omega) | (simp; done) | (simp [spare_len]; done) | (exact ⟨by omega, by omega⟩))); (try simp only [hb, go_sem]))
    | (
        refine AWP.ret ?_
        refine AEnd.is ?_; simp only [go_sem, out_v, out_s, out_n, v_int, v_bool, v_str] <;> (first | (exact decide_eq_decide.2 (by omega)) | (symm; exact decide_eq_true (by omega)) | (symm; exact decide_eq_false (by omega)) | (simp; omega) | skip))
    | refine AWP.fin (by assumption) ?_)

set_option maxHeartbeats 8000000 in
set_option maxRecDepth 8000 in
theorem lturns_c (bk : Bk) (acc sym : Bs) (ho : bk.orders.length ≤ 9223372036854775807) (hf : bk.fills.length ≤ 9223372036854775807) (hi : bk.ids.length ≤ 9223372036854775807) : ACalls E 13 [bkV bk, str acc, str sym] (fun r t => r = bl true ∧ t = []) := by -- checkroll/checkrolllaw13.LedgerTurns
  refine ACalls.of_awp (n := 104) (rs := [.tmp 6]) Try.func13 rfl Try.ntmps13 rfl ?_
  repeat' (first
    | refine AWP.seqk fun K hK => ?_
    | (
        refine AWP.here 5 23 6 rfl ?_
        have hr : rightBk bk = true := by assumption
        have hsh : bk.orders.length ≤ 80 ∧ bk.fills.length ≤ 60 ∧ bk.ids.length ≤ 300 := by omega
        apply AWP.regionAnyJ (.take 0 (.fork (.alt 1 (.take 2 (.take 3 (.take 4 (.take 5 .done)))) (.alt 2 (.fork (.alt 1 (.take 3 (.take 4 (.take 5 .done))) (.alt 3 (.fork (.alt 1 (.take 4 (.take 5 .done)) (.alt 4 (.take 1 (.take 5 .done)) .ends))) .ends))) (.alt 3 (.fork (.alt 1 (.take 2 (.take 4 (.take 5 .done))) (.alt 2 (.fork (.alt 1 (.take 4 (.take 5 .done)) (.alt 4 (.take 1 (.take 5 .done)) .ends))) .ends))) .ends))))) [[], [], [], [], [0, 2, 3], [0, 1, 2, 3, 4]] [7, 8] (by kernel_rfl) (by kernel_rfl) (by decide); simp only [go_sem])
    | (
        refine AWP.here 7 9 1 rfl ?_
        (try simp only [List.length_map])
        refine AWP.renum [0, 1, 2, 4] (by decide) rfl rfl ?_
        simp only [go_sem, dn_ren]
        refine AWP.region ?_; simp only [go_sem])
    | (
        refine AWP.here 10 38 13 rfl ?_
        obtain ⟨f, hx⟩ : ∃ f, bk.fills[i]? = some f := ⟨_, List.getElem?_eq_getElem (by omega)⟩
        have hx2 : ((turnN bk.fills i).map dnV ++ spare 9 m)[i]? = some (dnV f) := by rw [List.getElem?_append_left (by rw [List.length_map, turnN_len]; omega), List.getElem?_map, turnN_get hx]; rfl
        have hll := liveN_len bk.fills i
        refine AWP.regionO [0, 1, 2, 3, 4, 5, 6, 7, 8, 9, 10, 11, 12] [] (by kernel_rfl) (by kernel_rfl) rfl ?_; simp only [go_sem])
    | (
        refine AWP.here 11 50 6 rfl ?_
        (try rw [row_turn hx])
        refine AWP.region ?_; simp only [go_sem])
    | (
        refine AWP.here 13 66 18 rfl ?_
        rw [turnN_all (by omega), liveN_all (by omega)]
        have hfl := List.length_filter_le (fun f : Dn => f.live) bk.fills
        refine AWP.publishLeaf 1 1 (jd := 3) (k := 9) (n := bk.fills.length) (cap := bk.fills.length + m) _ ((bk.fills.map trn).map dnV ++ spare 9 m) (by decide) rfl rfl rfl (by simp [spare_len]) (by rw [tr_take]; exact cl_dn _) ?_
        rw [tr_take]
        simp only [go_sem]
        refine AWP.regionO [0, 1, 2, 4, 5, 6, 8, 9, 10, 12, 13, 14, 3, 7, 11, 15, 16, 17] [10, 11, 12] (by kernel_rfl) (by kernel_rfl) rfl ?_; simp only [go_sem])
    | (
        refine AWP.here 14 78 27 rfl ?_
        have hp := pos_bnds bk acc sym
        have hpn := pos_names bk acc sym
        have hq1 : IntKind.i64.wrap (0 - (posF bk acc sym).qty) = -(posF bk acc sym).qty := by rw [wrap64_id (by omega) (by omega)]; omega
        have hq2 : IntKind.i64.wrap (0 - (posF bk acc sym).value) = -(posF bk acc sym).value := by rw [wrap64_id (by omega) (by omega)]; omega
        rw [pos_turn hr, pos_live hr]
        refine AWP.region ?_; simp only [go_sem, hq1, hq2])
    | (
        refine AWP.here 6 25 8 rfl ?_
        refine AWP.regionL ?_
        refine AWPL.mkMu ap29 ?_
        simp only [go_sem]
        refine AWPL.at 7 2 rfl ?_
        simp only [go_sem]
        refine AWPL.appMu sr29 ap29 rfl rfl rfl (by simp; omega) (by simp; omega) ?_
        intro m
        simp only [go_sem]
        refine AWPL.of ?_
        simp only [go_sem])
    | (refine AWP.region ?_; simp only [go_sem])
    | (refine AWP.here 5 23 6 rfl ?_; apply AWP.regionAnyJ (.take 0 (.fork (.alt 1 (.take 2 (.take 3 (.take 4 (.take 5 .done)))) (.alt 2 (.fork (.alt 1 (.take 3 (.take 4 (.take 5 .done))) (.alt 3 (.fork (.alt 1 (.take 4 (.take 5 .done)) (.alt 4 (.take 1 (.take 5 .done)) .ends))) .ends))) (.alt 3 (.fork (.alt 1 (.take 2 (.take 4 (.take 5 .done))) (.alt 2 (.fork (.alt 1 (.take 4 (.take 5 .done)) (.alt 4 (.take 1 (.take 5 .done)) .ends))) .ends))) .ends))))) [[], [], [], [], [0, 2, 3], [0, 1, 2, 3, 4]] [7, 8] (by kernel_rfl) (by kernel_rfl) (by decide); simp only [go_sem])
    | (refine AWP.here 10 38 13 rfl ?_; refine AWP.regionO [0, 1, 2, 3, 4, 5, 6, 7, 8, 9, 10, 11, 12] [] (by kernel_rfl) (by kernel_rfl) rfl ?_; simp only [go_sem])
    | (refine AWP.here 12 56 11 rfl ?_; refine AWP.regionAnyT (.take 0 (.take 1 (.take 2 (.take 3 (.take 4 (.take 5 (.take 6 (.take 7 (.take 8 (.take 9 (.take 10 .done))))))))))) [[], [0], [], [2], [], [2, 3, 4], [2, 3, 4, 5], [2, 3, 4, 5, 6], [0, 1, 2, 3, 4, 5, 6, 7], [0, 1, 2, 3, 4, 5, 6, 7, 8], [0, 1, 2, 3, 4, 5, 6, 7, 8, 9]] [] (by kernel_rfl) (by kernel_rfl) ?_; simp only [go_sem])
    | (refine AWP.here 13 66 18 rfl ?_; refine AWP.regionO [0, 1, 2, 4, 5, 6, 8, 9, 10, 12, 13, 14, 3, 7, 11, 15, 16, 17] [10, 11, 12] (by kernel_rfl) (by kernel_rfl) rfl ?_; simp only [go_sem])
    | (refine hK _ ?_; clear hK K)
    | refine AWP.block ?_
    | refine AWP.cond rfl (fun c => ?_) (fun c => ?_) <;> first | exact Bool.noConfusion c | (try simp only [dD] at c)
    | refine AWP.skip ?_
    | (refine AWP.exit ?_; simp only [go_sem])
    | (refine ACall.one (awake13_c) (by kernel_rfl) rfl ?_; simp only [go_sem])
    | (refine ACall.one (r12short_c bk) (by kernel_rfl) rfl ?_; simp only [go_sem])
    | (refine ACall.one (bright_c bk ho hf hi) (by kernel_rfl) rfl ?_; simp only [go_sem])
    | (refine ACall.one (lof_c bk acc sym ho hf hi) (by kernel_rfl) rfl ?_; simp only [go_sem])
    | (refine ACall.one (lof_c ⟨bk.orders, bk.fills.map trn, bk.ids, bk.clock, bk.bad⟩ acc sym ho (by simp; omega) hi) (by kernel_rfl) rfl ?_; simp only [go_sem])
    | (refine ACall.one (lof_c ⟨bk.orders, bk.fills.filter (·.live), bk.ids, bk.clock, bk.bad⟩ acc sym ho (by show (bk.fills.filter (·.live)).length ≤ _; omega) hi) (by kernel_rfl) rfl ?_; simp only [go_sem])
    | (refine AGuard.splitN (fun h => ?_) (fun h => ?_) <;> simp only [h, go_sem] <;> (try simp only [dD] at h))
    | (refine AGuard.split (fun h => ?_) (fun h => ?_) <;> simp only [h, go_sem] <;> (try simp only [dD] at h))
    | (refine AGet.haveM (by assumption) ?_; (try simp only [go_sem]))
    | (refine AGet.have' (by assumption) ?_; (try simp only [go_sem]))
    | ((first | refine AGet.nth ?_ (fun b hb => ?_) | refine AGet.nth1 ?_ (fun b hb => ?_) | with_reducible refine And.intro ?_ ?_); (focus (first | omega | assumption | exact List.length_pos_iff.2 (by assumption) | (simp only [List.length_append, List.length_cons, List.length_nil, List.length_map, List.length_take, List.length_drop] at *; omega) | (rw [wrap64_id (by omega) (by omega)]; omega) | (simp; done) | (simp [spare_len]; done) | (exact ⟨by omega, by omega⟩))); (try simp only [hb, go_sem]))
    | exact rfl
    | refine And.intro (a := ACall _ _ _ _ _ _ _ _) ?_ ?_
    | refine And.intro (a := AGet _ _) ?_ ?_
    | refine And.intro (a := AGuard _ _ _ _ _ _ _) ?_ ?_
    | (
        refine AWP.here 8 31 5 rfl ?_
        refine AWP.nilTokLeaf 2 1 9 _ rfl rfl ?_
        simp only [go_sem]
        refine AWP.loopM (ι := Nat) [31, 32, 33, 34, 35, 36, 37, 38, 39, 40, 41, 42, 43, 44, 45, 46, 47, 48, 49, 50, 51, 52, 53, 54, 55, 56, 57, 58, 59, 60, 61, 62, 63, 64, 65] (fun (i : Nat) => [(9, i64 i)]) (fun (i : Nat) => [some [.agg [odsV bk.orders, dnsV bk.fills, .sl none 1 (bk.ids.map str), i64 bk.clock, i64 bk.bad]], some [.agg [odsV bk.orders, .mu 3 9 0 bk.fills.length (bk.fills.length + m), .sl none 1 (bk.ids.map str), i64 bk.clock, i64 bk.bad]], some [.agg [odsV bk.orders, .sl (some 0) 9 ((liveN bk.fills i).map dnV), .sl none 1 (bk.ids.map str), i64 bk.clock, i64 bk.bad]], some ((turnN bk.fills i).map dnV ++ spare 9 m)]) (fun (i : Nat) => [(liveN bk.fills i).length]) (fun (i : Nat) => i ≤ bk.fills.length) (fun (i : Nat) => bk.fills.length - i) (0) ?_ ?_ ?_
        · (try simp only [go_sem]); (try rw [turnN_zero]); (repeat' (first | refine And.intro ?_ ?_ | exact .inl rfl | exact .inr rfl | exact .inr ⟨rfl, rfl⟩ | trivial | exact .inr (oblA rfl) | exact .inr ⟨rfl, oblA rfl⟩ | exact .inr bel_strs | exact .inr bel_dns | exact .inr ⟨rfl, bel_dns⟩ | exact .inr ⟨by simp, bel_dns⟩ | exact .inr ⟨rfl, bel_strs⟩ | exact .inr ⟨by simp, bel_strs⟩ | (simp; done) | exact .inr ⟨rfl, by simp⟩ | exact .inr ⟨by simp, by simp⟩)); done
        · exact Nat.zero_le _
        rintro i h1
        simp only [go_sem])
    | (
        first
        | (refine ⟨i + 1, ?_, by show i + 1 ≤ bk.fills.length; omega, by show bk.fills.length - (i + 1) < bk.fills.length - i; omega⟩
           rw [liveN_next hx (by assumption)]
           (try simp only [go_sem]); (try rw [wrap64_id (by omega) (by omega)]); (try simp only [List.map_append, List.map_cons, List.map_nil, List.length_append, List.length_cons, List.length_nil]); (repeat' (first | refine And.intro ?_ ?_ | exact .inl rfl | exact .inr rfl | exact .inr ⟨rfl, rfl⟩ | trivial | exact .inr (oblA rfl) | exact .inr ⟨rfl, oblA rfl⟩ | exact .inr bel_strs | exact .inr bel_dns | exact .inr ⟨rfl, bel_dns⟩ | exact .inr ⟨by simp, bel_dns⟩ | exact .inr ⟨rfl, bel_strs⟩ | exact .inr ⟨by simp, bel_strs⟩ | (simp; done) | exact .inr ⟨rfl, by simp⟩ | exact .inr ⟨by simp, by simp⟩)); done)
        | (refine ⟨i + 1, ?_, by show i + 1 ≤ bk.fills.length; omega, by show bk.fills.length - (i + 1) < bk.fills.length - i; omega⟩
           rw [liveN_skip hx (by assumption)]
           (try simp only [go_sem]); (try rw [wrap64_id (by omega) (by omega)]); (try simp only [List.map_append, List.map_cons, List.map_nil, List.length_append, List.length_cons, List.length_nil]); (repeat' (first | refine And.intro ?_ ?_ | exact .inl rfl | exact .inr rfl | exact .inr ⟨rfl, rfl⟩ | trivial | exact .inr (oblA rfl) | exact .inr ⟨rfl, oblA rfl⟩ | exact .inr bel_strs | exact .inr bel_dns | exact .inr ⟨rfl, bel_dns⟩ | exact .inr ⟨by simp, bel_dns⟩ | exact .inr ⟨rfl, bel_strs⟩ | exact .inr ⟨by simp, bel_strs⟩ | (simp; done) | exact .inr ⟨rfl, by simp⟩ | exact .inr ⟨by simp, by simp⟩)); done))
    | (
        refine AWP.ret ?_
        refine AEnd.is ?_; simp only [go_sem, out_v, out_s, out_n, v_int, v_bool, v_str] <;> (first | rfl | (simp; done) | (exfalso; simp_all; done) | skip))
    | refine AWP.fin (by assumption) ?_)


end Go.Proofs.Ytlhdnenlgceeeaa
