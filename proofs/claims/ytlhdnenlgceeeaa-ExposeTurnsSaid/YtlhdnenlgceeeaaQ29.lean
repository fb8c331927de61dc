import Derived.Test.YtlhdnenlgceeeaaQ28
import Derived.Test.YtlhdnenlgceeeaaQ20
import Derived.Test.YtlhdnenlgceeeaaLm
import Derived.Test.YtlhdnenlgceeeaaPq
set_option linter.unusedVariables false
set_option linter.unusedSimpArgs false
namespace Go.Proofs.Ytlhdnenlgceeeaa
open Go Go.Abs Go.RowKit Go.Bk
theorem may_amts {o : Od} (h : mayB o = true) : 0 ≤ o.done ∧ o.done ≤ o.qty ∧ o.qty ≤ 1099511627776 := by
  simp only [mayB, smallB, Bool.and_eq_true, decide_eq_true_eq] at h; omega
theorem all_no {α : Type} {l : List α} {p : α → Bool} {i : Nat} {x : α} (hb : l[i]? = some x) (h : p x = false) : l.all p = false := List.all_eq_false.2 ⟨x, List.mem_of_getElem? hb, by simp [h]⟩
theorem AWP.slotMu {E : Env} {c : Code} {Q : Exit → St → Prop} {s : St} (i id k : Nat) (h : ∃ off len cap, s.tmps[i]? = some (.mu id k off len cap)) (hw : AWP E c Q s) : AWP E c Q s := hw
theorem bel_ods {no nt m : Nat} {l : List Od} : ∀ es, some (l.map odV ++ spare 8 m) = some es → ∀ e ∈ es, ∀ z ∈ e.leaves, z.bel no nt = true := bel_row fun x z hz => by
  simp only [AV.leaves, List.mem_cons, List.not_mem_nil, or_false] at hz
  rcases hz with rfl | rfl | rfl | rfl | rfl | rfl | rfl | rfl <;> rfl
theorem od_ren (σ : Nat → Option Nat) (l : List Od) (m : Nat) : (l.map odV ++ spare 8 m).map (AV.ren σ) = l.map odV ++ spare 8 m := ren_row fun _ => rfl
theorem row_turnO {l : List Od} {i m : Nat} {f : Od} (h : l[i]? = some f) : ((turnO l i).map odV ++ spare 8 m).set i (AV.agg [str f.id, str f.acc, str f.sym, bl (!f.buy), i64 f.qty, i64 f.price, i64 f.done, bl f.opn]) = (turnO l (i + 1)).map odV ++ spare 8 m := by
  have hi := get_lt h
  rw [List.set_append_left _ _ (by rw [List.length_map, turnO_len]; exact hi), ← turnO_next h, List.map_set]; rfl
theorem tr_takeO {l : List Od} {m : Nat} : ((l.map trO).map odV ++ spare 8 m).take l.length = (l.map trO).map odV := List.take_left' (by simp)
theorem cut_one {l : List Od} {q : Nat} {o : Od} (h : l[q]? = some o) : (l.take (q + 1)).drop q = [o] := by
  rw [take_next h, List.drop_append_of_le_length (by rw [List.length_take]; have := get_lt h; omega)]
  rw [List.drop_eq_nil_of_le (by rw [List.length_take]; omega)]; rfl

set_option maxHeartbeats 4000000 in
set_option maxRecDepth 8000 in
theorem r11short_c (l : List Od) : ACalls E 20 [odsV l] (fun r t => r = bl (decide (l.length ≤ 80) && l.all (fun o : Od => decide (o.id.length ≤ 100) && decide (o.acc.length ≤ 100) && decide (o.sym.length ≤ 100))) ∧ t = []) := by -- checkroll/checkrollref11.Short
  refine ACalls.of_awp (n := 38) (rs := [.tmp 2]) Try.func20 rfl Try.ntmps20 rfl ?_
  repeat' (first
    | refine AWP.seqk fun K hK => ?_
    | (refine AWP.region ?_; simp only [go_sem])
    | (refine hK _ ?_; clear hK K)
    | refine AWP.block ?_
    | refine AWP.cond rfl (fun c => ?_) (fun c => ?_) <;> first | exact Bool.noConfusion c | (try simp only [dD] at c)
    | refine AWP.skip ?_
    | (refine AWP.exit ?_; simp only [go_sem])
    | (refine AGuard.splitN (fun h => ?_) (fun h => ?_) <;> simp only [h, go_sem] <;> (try simp only [dD] at h))
    | (refine AGuard.split (fun h => ?_) (fun h => ?_) <;> simp only [h, go_sem] <;> (try simp only [dD] at h))
    | (refine AGet.haveM (by assumption) ?_; (try simp only [go_sem]))
    | (refine AGet.have' (by assumption) ?_; (try simp only [go_sem]))
    | ((first | refine AGet.nth ?_ (fun b hb => ?_) | refine AGet.nth1 ?_ (fun b hb => ?_) | with_reducible refine And.intro ?_ ?_); (focus (first | omega | assumption | exact List.length_pos_iff.2 (by assumption) | (simp only [List.length_append, List.length_cons, List.length_nil, List.length_map, List.length_take, List.length_drop] at *; omega) | (rw [wrap64_id (by omega) (by omega)]; omega) | (simp; done) | (simp [spare_len]; done) | (exact ⟨by omega, by omega⟩))); (try simp only [hb, go_sem]))
    | (
        refine AWP.here 4 7 4 rfl ?_
        refine AWP.loopN (ι := Nat) [2, 7, 8, 9, 10, 11, 12, 13, 14, 15, 16, 17, 18, 19, 20, 21, 22, 23, 24, 25, 26, 27, 28, 29, 30, 31, 32, 33, 34, 35, 36, 37] (fun (i : Nat) => [(3, i64 i)]) (fun (i : Nat) => i ≤ l.length ∧ l.length ≤ 80 ∧ (l.take i).all (fun o : Od => decide (o.id.length ≤ 100) && decide (o.acc.length ≤ 100) && decide (o.sym.length ≤ 100)) = true) (fun (i : Nat) => l.length - i) (0) ?_ ?_ ?_
        · (try simp only [go_sem]); (repeat' (first | refine And.intro ?_ ?_ | exact .inl rfl | exact .inr rfl | exact .inr ⟨rfl, rfl⟩ | trivial | exact .inr (oblA rfl) | exact .inr ⟨rfl, oblA rfl⟩ | exact .inr bel_strs | exact .inr ⟨rfl, bel_strs⟩ | exact .inr ⟨by simp, bel_strs⟩ | (simp; done) | exact .inr ⟨rfl, by simp⟩ | exact .inr ⟨by simp, by simp⟩)); done
        · exact ⟨Nat.zero_le _, by omega, by simp⟩
        rintro i ⟨h1, h2, h3⟩
        simp only [go_sem])
    | (
        refine ⟨i + 1, ?_, ?_, ?_⟩
        · (try simp only [go_sem]); (try rw [wrap64_id (by omega) (by omega)]); (repeat' (first | refine And.intro ?_ ?_ | exact .inl rfl | exact .inr rfl | exact .inr ⟨rfl, rfl⟩ | trivial | exact .inr (oblA rfl) | exact .inr ⟨rfl, oblA rfl⟩ | exact .inr bel_strs | exact .inr ⟨rfl, bel_strs⟩ | exact .inr ⟨by simp, bel_strs⟩ | (simp; done) | exact .inr ⟨rfl, by simp⟩ | exact .inr ⟨by simp, by simp⟩)); done
        · exact ⟨by omega, h2, all_take hb h3 (by simp; omega)⟩
        · (try simp only []); omega)
    | (
        refine AWP.ret ?_
        refine AEnd.is ?_; simp only [go_sem, out_v, out_s, out_n, v_int, v_bool, v_str] <;> (first
        | (rw [decide_eq_false (by omega)]; rfl)
        | (rw [all_no hb (by simp; omega), Bool.and_false]; done)
        | (rw [List.take_of_length_le (by omega)] at h3; rw [h3, decide_eq_true (by omega)]; rfl)
        | skip))
    | refine AWP.fin (by assumption) ?_)

set_option maxHeartbeats 4000000 in
set_option maxRecDepth 8000 in
theorem pend_c (l : List Od) (acc sym : Bs) (hl : l.length ≤ 9223372036854775807) : ACalls E 24 [odsV l, str acc, str sym] (fun r t => r = wV (pendF l acc sym) ∧ t = []) := by -- checkroll/expose.Pending
  refine ACalls.of_awp (n := 42) (rs := [.cell 6 42]) Try.func24 rfl Try.ntmps24 rfl ?_
  repeat' (first
    | refine AWP.seqk fun K hK => ?_
    | (
        refine AWP.here 6 18 4 rfl ?_
        obtain ⟨o, hc⟩ : ∃ o, l[j]? = some o := ⟨_, List.getElem?_eq_getElem (by omega)⟩
        have hm := may_amts (right_at hr hc)
        have hw : IntKind.i64.wrap (o.qty - o.done) = o.qty - o.done := wrap64_id (by omega) (by omega)
        refine AWP.region ?_; simp only [go_sem])
    | (
        refine AWP.here 8 30 11 rfl ?_
        refine AWP.regionO [0, 1, 2, 3, 4, 5, 6, 7, 8, 9, 10] [] (by kernel_rfl) (by kernel_rfl) rfl ?_; simp only [go_sem, hw])
    | (refine AWP.region ?_; simp only [go_sem])
    | (refine AWP.here 8 30 11 rfl ?_; refine AWP.regionO [0, 1, 2, 3, 4, 5, 6, 7, 8, 9, 10] [] (by kernel_rfl) (by kernel_rfl) rfl ?_; simp only [go_sem])
    | (refine hK _ ?_; clear hK K)
    | refine AWP.block ?_
    | refine AWP.cond rfl (fun c => ?_) (fun c => ?_) <;> first | exact Bool.noConfusion c | (try simp only [dD] at c)
    | refine AWP.skip ?_
    | (refine AWP.exit ?_; simp only [go_sem])
    | (refine ACall.one (oright_c l hl) (by kernel_rfl) rfl ?_; simp only [go_sem])
    | (refine ACall.one (side_c o.buy (o.qty - o.done)) (by kernel_rfl) rfl ?_; simp only [go_sem])
    | (refine ACall.one (plus_c u (sideW o.buy (o.qty - o.done))) (by kernel_rfl) rfl ?_; simp only [go_sem])
    | (refine AGuard.splitN (fun h => ?_) (fun h => ?_) <;> simp only [h, go_sem] <;> (try simp only [dD] at h))
    | (refine AGuard.split (fun h => ?_) (fun h => ?_) <;> simp only [h, go_sem] <;> (try simp only [dD] at h))
    | (refine AGet.haveM (by assumption) ?_; (try simp only [go_sem]))
    | (refine AGet.have' (by assumption) ?_; (try simp only [go_sem]))
    | ((first | refine AGet.nth ?_ (fun b hb => ?_) | refine AGet.nth1 ?_ (fun b hb => ?_) | with_reducible refine And.intro ?_ ?_); (focus (first | omega | assumption | exact List.length_pos_iff.2 (by assumption) | (simp only [List.length_append, List.length_cons, List.length_nil, List.length_map, List.length_take, List.length_drop] at *; omega) | (rw [wrap64_id (by omega) (by omega)]; omega) | (simp; done) | (simp [spare_len]; done) | (exact ⟨by omega, by omega⟩))); (try simp only [hb, go_sem]))
    | (
        refine AWP.here 5 17 1 rfl ?_
        refine AWP.loopM (ι := Nat × Ws) [9, 17, 18, 19, 20, 21, 22, 23, 24, 25, 26, 27, 28, 29, 30, 31, 32, 33, 34, 35, 36, 37, 38, 39, 40] (fun ⟨j, u⟩ => [(16, i64 j)]) (fun ⟨j, u⟩ => [some [.agg [i64 0, i64 0]], some [.agg [i64 u.1, i64 u.2]]]) (fun ⟨j, u⟩ => []) (fun ⟨j, u⟩ => j ≤ l.length ∧ u = upP l acc sym j) (fun ⟨j, u⟩ => l.length - j) ((0, ((0, 0) : Ws))) ?_ ?_ ?_
        · (try simp only [go_sem]); (repeat' (first | refine And.intro ?_ ?_ | exact .inl rfl | exact .inr rfl | exact .inr ⟨rfl, rfl⟩ | trivial | exact .inr (oblA rfl) | exact .inr ⟨rfl, oblA rfl⟩ | exact .inr bel_strs | exact .inr ⟨rfl, bel_strs⟩ | exact .inr ⟨by simp, bel_strs⟩ | (simp; done) | exact .inr ⟨rfl, by simp⟩ | exact .inr ⟨by simp, by simp⟩)); done
        · exact ⟨Nat.zero_le _, rfl⟩
        rintro ⟨j, u⟩ ⟨g1, g2⟩
        simp only [go_sem]
        have hr : rightO l = true := by assumption)
    | (
        first
        | (refine ⟨(j + 1, u), ?_, ⟨by show j + 1 ≤ l.length; omega, upP_no hc g2 (by first | exact noo1 (by assumption) | exact noo2 (by assumption))⟩, by show l.length - (j + 1) < l.length - j; omega⟩
           (try simp only [go_sem]); (try rw [wrap64_id (by omega) (by omega)]); (repeat' (first | refine And.intro ?_ ?_ | exact .inl rfl | exact .inr rfl | exact .inr ⟨rfl, rfl⟩ | trivial | exact .inr (oblA rfl) | exact .inr ⟨rfl, oblA rfl⟩ | exact .inr bel_strs | exact .inr ⟨rfl, bel_strs⟩ | exact .inr ⟨by simp, bel_strs⟩ | (simp; done) | exact .inr ⟨rfl, by simp⟩ | exact .inr ⟨by simp, by simp⟩)); done)
        | (refine ⟨(j + 1, plusW u (sideW o.buy (o.qty - o.done))), ?_, ⟨by show j + 1 ≤ l.length; omega, upP_yes hr hc g2 ⟨by assumption, by assumption⟩⟩, by show l.length - (j + 1) < l.length - j; omega⟩
           (try simp only [go_sem]); (try rw [wrap64_id (by omega) (by omega)]); (repeat' (first | refine And.intro ?_ ?_ | exact .inl rfl | exact .inr rfl | exact .inr ⟨rfl, rfl⟩ | trivial | exact .inr (oblA rfl) | exact .inr ⟨rfl, oblA rfl⟩ | exact .inr bel_strs | exact .inr ⟨rfl, bel_strs⟩ | exact .inr ⟨by simp, bel_strs⟩ | (simp; done) | exact .inr ⟨rfl, by simp⟩ | exact .inr ⟨by simp, by simp⟩)); done))
    | (
        refine AWP.ret ?_
        refine AEnd.is ?_; simp only [go_sem, out_v, out_s, out_n, v_int, v_bool, v_str] <;> (first
        | (rw [← upP_end hr (by omega) g2]; done)
        | (rw [← upP_end hr (by omega) g2]; simp; done)
        | (rw [pend_no (by assumption)]; done)
        | (rw [pend_no (by assumption)]; simp; done)
        | skip))
    | refine AWP.fin (by assumption) ?_)


end Go.Proofs.Ytlhdnenlgceeeaa
