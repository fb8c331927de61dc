/- Texts of one chain, put together (T9, MrF, MrG, MrH, Q13, Q14, Q15, Q16, K1, MrI, K2, RwBase, RwBook, RwDays). -/
import Derived.Test.YtajeeghgiilhiaaGreatKqK
import Derived.Test.YtajeeghgiilhiaaGreatKqI
import Derived.Test.YtajeeghgiilhiaaGreatKqD
import Derived.Test.YtajeeghgiilhiaaGreatRows
import Derived.Test.YtajeeghgiilhiaaGreatKqH
import Derived.ProofKit
import Derived.LaidMore
import Derived.OpenShut
import Derived.Stop.Joined
import Derived.HandedShaped
import Derived.Lib.SmallJoins
section
set_option linter.unusedVariables false
set_option linter.unusedSimpArgs false
namespace Go.Proofs.YtajeeghgiilhiaaGreat
open Go Go.Abs Go.RowKit Go.Bk
theorem vr_nilHead {im : Im} {k : Nat} {cs : List AV} {v : Value} (h : VR0 im (.agg (.nilS :: cs)) v) : VR0 im (.agg (.sl none k [] :: cs)) v := by
  cases h with
  | agg _ vs hn h =>
    refine .agg _ vs hn (fun i c u hc hu => ?_)
    cases i with
    | zero => cases hc; exact (h 0 .nilS u rfl hu).of_nil
    | succ i => exact h (i + 1) c u hc hu
theorem aw_fl1 : ((awN.fills.length : Nat) : Int) = 1 := rfl
theorem aw_fl0 : awN.fills[0]? = some ⟨[98], [], [99], [115], true, 2, 6, 15, true⟩ := rfl
theorem nil_arg1 {f : FuncId} {cs : List AV} {k : Nat} {R : AV → List Nat → Prop} (h : ACalls E f [.agg (.sl none k [] :: cs)] R) : ACalls E f [.agg (.nilS :: cs)] R := by
  intro w im vs h0 hg h1 h2
  refine h w im vs h0 hg h1 ?_
  obtain ⟨hn, hp⟩ := h2
  refine ⟨hn, fun i x v hx hv => ?_⟩
  rcases i with _ | i
  · cases hx
    exact vr_nilHead (hp 0 _ v rfl hv)
  · simp at hx
theorem lall_n (bk : Bk) (ho : bk.orders = []) (hf : bk.fills.length ≤ 1000000) (hi : bk.ids.length ≤ 9223372036854775807) : ACalls E 56 [.agg [.nilS, dnsV bk.fills, .sl none 1 (bk.ids.map str), i64 bk.clock, i64 bk.bad]] (fun r t => r = posV (allP bk) ∧ t = []) := by
  obtain ⟨od, fl, ids, cl, bad⟩ := bk
  simp only at ho
  subst ho
  intro w im vs h0 hg h1 h2
  refine lall_c _ (by simp) hf hi w im vs h0 hg h1 ?_
  obtain ⟨hn, hp⟩ := h2
  refine ⟨hn, fun i x v hx hv => ?_⟩
  rcases i with _ | i
  · cases hx
    exact vr_nilHead (k := 8) (hp 0 _ v rfl hv)
  · simp at hx
set_option maxHeartbeats 4000000 in
set_option maxRecDepth 8000 in
theorem rclone_c (bk : Bk) (ho : bk.orders.length ≤ 1000000) (hf : bk.fills.length ≤ 1000000) (hi : bk.ids.length ≤ 1000000) : ACalls E 54 [bkV bk] (fun r t => r = bkV bk ∧ t = []) := by -- checkroll/roll.clone
  refine ACalls.of_awp (n := 16) (rs := [.cell 2 26]) Tryz.func54 rfl Tryz.ntmps54 rfl ?_
  repeat' (first
    | refine AWP.seqk fun K hK => ?_
    | (refine AWP.region ?_; simp only [go_sem])
    | (refine hK _ ?_; clear hK K)
    | refine AWP.block ?_
    | refine AWP.cond rfl (fun c => ?_) (fun c => ?_) <;> first | exact Bool.noConfusion c | (try simp only [dD] at c)
    | refine AWP.skip ?_
    | (refine AWP.exit ?_; simp only [go_sem])
    | (refine ACall.one (oclone_p bk.orders ho) (by kernel_rfl) rfl ?_; simp only [go_sem])
    | (refine ACall.one (dclone_p bk.fills hf) (by kernel_rfl) rfl ?_; simp only [go_sem])
    | (refine ACall.one (sclone_p bk.ids hi) (by kernel_rfl) rfl ?_; simp only [go_sem])
    | (refine AGet.haveM (by assumption) ?_; (try simp only [go_sem]))
    | (refine AGet.have' (by assumption) ?_; (try simp only [go_sem]))
    | ((first | refine AGet.nth ?_ (fun b hb => ?_) | refine AGet.nth1 ?_ (fun b hb => ?_) | with_reducible refine And.intro ?_ ?_); (focus (first | omega | assumption | exact List.length_pos_iff.2 (by assumption) | (simp only [List.length_append, List.length_cons, List.length_nil, List.length_map, List.length_take, List.length_drop] at *; omega) | (rw [wrap64_id (by omega) (by omega)]; omega) | (simp; done) | (simp [spare_len]; done) | (exact ⟨by omega, by omega⟩))); (try simp only [hb, go_sem]))
    | (
        refine AWP.ret ?_
        refine AEnd.is ?_; simp only [go_sem, out_v, out_s, out_n, v_int, v_bool, v_str] <;> (first | rfl | (simp; done) | skip))
    | refine AWP.fin (by assumption) ?_
    | fail)

set_option maxHeartbeats 4000000 in
set_option maxRecDepth 8000 in
theorem xfinal_c (bk : Bk) (f : Dn) (ho : bk.orders.length ≤ 1000000) (hf : bk.fills.length ≤ 1000000) (hi : bk.ids.length ≤ 1000000) : ACalls E 55 [bkV bk, dnV f] (fun r t => r = bl (rightBk bk && finalF bk f) ∧ t = []) := by -- checkroll/expose.Final
  refine ACalls.of_awp (n := 12) (rs := [.tmp 4]) Tryz.func55 rfl Tryz.ntmps55 rfl ?_
  repeat' (first
    | refine AWP.seqk fun K hK => ?_
    | (refine AWP.region ?_; simp only [go_sem])
    | (refine hK _ ?_; clear hK K)
    | refine AWP.block ?_
    | refine AWP.cond rfl (fun c => ?_) (fun c => ?_) <;> first | exact Bool.noConfusion c | (try simp only [dD] at c)
    | refine AWP.skip ?_
    | (refine AWP.exit ?_; simp only [go_sem])
    | (refine ACall.one (bright_c bk (by omega) (by omega) (by omega)) (by kernel_rfl) rfl ?_; simp only [go_sem])
    | (refine ACall.one (final_c bk f) (by kernel_rfl) rfl ?_; simp only [go_sem])
    | (refine AGuard.splitN (fun h => ?_) (fun h => ?_) <;> simp only [h, go_sem] <;> (try simp only [dD] at h))
    | (refine AGuard.split (fun h => ?_) (fun h => ?_) <;> simp only [h, go_sem] <;> (try simp only [dD] at h))
    | (refine AGet.haveM (by assumption) ?_; (try simp only [go_sem]))
    | (refine AGet.have' (by assumption) ?_; (try simp only [go_sem]))
    | ((first | refine AGet.nth ?_ (fun b hb => ?_) | refine AGet.nth1 ?_ (fun b hb => ?_) | with_reducible refine And.intro ?_ ?_); (focus (first | omega | assumption | exact List.length_pos_iff.2 (by assumption) | (simp only [List.length_append, List.length_cons, List.length_nil, List.length_map, List.length_take, List.length_drop] at *; omega) | (rw [wrap64_id (by omega) (by omega)]; omega) | (simp; done) | (simp [spare_len]; done) | (exact ⟨by omega, by omega⟩))); (try simp only [hb, go_sem]))
    | (
        refine AWP.ret ?_
        refine AEnd.is ?_; simp only [go_sem, out_v, out_s, out_n, v_int, v_bool, v_str] <;> (first | rfl | (simp_all; done) | skip))
    | refine AWP.fin (by assumption) ?_
    | fail)

theorem xfinal_y (bk : Bk) (f : Dn) (ho : bk.orders.length ≤ 1000000) (hf : bk.fills.length ≤ 1000000) (hi : bk.ids.length ≤ 1000000) (hr : rightBk bk = true) : ACalls E 55 [bkV bk, dnV f] (fun r t => r = bl (finalF bk f) ∧ t = []) := by
  have h := xfinal_c bk f ho hf hi
  rwa [hr, Bool.true_and] at h

set_option maxHeartbeats 8000000 in
set_option maxRecDepth 8000 in
theorem rclose_c (bk : Bk) (ho : bk.orders.length ≤ 1000000) (hf : bk.fills.length ≤ 1000000) (hi : bk.ids.length ≤ 1000000) : ACalls E 13 [bkV bk] (fun r t => r = .tup [bkV (closeF bk).1, posV (closeF bk).2.1, i64 (closeF bk).2.2] ∧ t = []) := by -- checkroll/roll.Close
  refine ACalls.of_awp (n := 50) (rs := [.cell 2 26, .tmp 3, .tmp 4]) Tryz.func13 rfl Tryz.ntmps13 rfl ?_
  repeat' (first
    | refine AWP.seqk fun K hK => ?_
    | (
        refine AWP.here 7 22 4 rfl ?_
        obtain ⟨f, hb⟩ : ∃ f, bk.fills[i]? = some f := ⟨_, List.getElem?_eq_getElem (by omega)⟩
        refine AWP.region ?_; simp only [go_sem])
    | (
        refine AWP.here 12 36 8 rfl ?_
        have e1 : fs = finsB bk := by rw [h2, List.take_of_length_le (by omega)]; rfl
        have e2 : rs = restB bk := by rw [h3, List.take_of_length_le (by omega)]; rfl
        rw [e1, e2]
        refine AWP.region ?_; simp only [go_sem])
    | (refine AWP.region ?_; simp only [go_sem])
    | (refine hK _ ?_; clear hK K)
    | refine AWP.block ?_
    | refine AWP.cond rfl (fun c => ?_) (fun c => ?_) <;> first | exact Bool.noConfusion c | (try simp only [dD] at c)
    | refine AWP.skip ?_
    | (refine AWP.exit ?_; simp only [go_sem])
    | (refine ACall.one (rclone_c bk ho hf hi) (by kernel_rfl) rfl ?_; simp only [go_sem])
    | (refine ACall.one (bright_c bk (by omega) (by omega) (by omega)) (by kernel_rfl) rfl ?_; simp only [go_sem])
    | (refine ACall.one (xfinal_y bk f ho hf hi hrb) (by kernel_rfl) rfl ?_; simp only [go_sem])
    | (refine ACall.one (lall_n (doneB bk) rfl (by have := List.length_filter_le (fun f => finalF bk f) bk.fills; simp only [doneB, finsB]; omega) (by simp only [doneB]; omega)) (by kernel_rfl) rfl ?_; simp only [go_sem])
    | (refine ACall.one (rover_c (allP (doneB bk)) (by have := allP_len (doneB bk); have := List.length_filter_le (fun f => finalF bk f) bk.fills; simp only [doneB, finsB] at *; omega)) (by kernel_rfl) rfl ?_; simp only [go_sem])
    | (refine AGet.haveM (by assumption) ?_; (try simp only [go_sem]))
    | (refine AGet.have' (by assumption) ?_; (try simp only [go_sem]))
    | ((first | refine AGet.nth ?_ (fun b hb => ?_) | refine AGet.nth1 ?_ (fun b hb => ?_) | with_reducible refine And.intro ?_ ?_); (focus (first | omega | assumption | exact List.length_pos_iff.2 (by assumption) | (simp only [List.length_append, List.length_cons, List.length_nil, List.length_map, List.length_take, List.length_drop] at *; omega) | (rw [wrap64_id (by omega) (by omega)]; omega) | (simp; done) | (simp [spare_len]; done) | (exact ⟨by omega, by omega⟩))); (try simp only [hb, go_sem]))
    | (
        refine AWP.here 6 21 1 rfl ?_
        refine AWP.nilTok 6 9 rfl ?_
        refine AWP.nilTok 7 9 rfl ?_
        simp only [go_sem]
        refine AWP.loopM (ι := Nat × List Dn × List Dn) [9, 21, 22, 23, 24, 25, 26, 27, 28, 29, 30, 31, 32, 33, 34, 35] (fun ⟨i, fs, rs⟩ => [(20, i64 i), (6, .sl (some 0) 9 (fs.map dnV)), (7, .sl (some 1) 9 (rs.map dnV))]) (fun ⟨i, fs, rs⟩ => [some [.agg [odsV bk.orders, dnsV bk.fills, .sl none 1 (bk.ids.map str), i64 bk.clock, i64 bk.bad]], some [.agg [.nilS, .nilS, .nilS, i64 0, i64 0]], some [.agg [odsV bk.orders, dnsV bk.fills, .sl none 1 (bk.ids.map str), i64 bk.clock, i64 bk.bad]]]) (fun ⟨i, fs, rs⟩ => [fs.length, rs.length]) (fun ⟨i, fs, rs⟩ => i ≤ bk.fills.length ∧ fs = (bk.fills.take i).filter (fun f => finalF bk f) ∧ rs = (bk.fills.take i).filter (fun f => !finalF bk f)) (fun ⟨i, fs, rs⟩ => bk.fills.length - i) ((0, [], [])) ?_ ?_ ?_
        · (try simp only [go_sem]); (repeat' (first | refine And.intro ?_ ?_ | exact .inl rfl | exact .inr rfl | exact .inr ⟨rfl, rfl⟩ | trivial | exact .inr (oblA rfl) | exact .inr ⟨rfl, oblA rfl⟩ | exact .inr bel_strs | exact .inr ⟨rfl, bel_strs⟩ | exact .inr ⟨by simp, bel_strs⟩ | (simp; done) | exact .inr ⟨rfl, by simp⟩ | exact .inr ⟨by simp, by simp⟩)); done
        · exact ⟨by omega, rfl, rfl⟩
        rintro ⟨i, fs, rs⟩ ⟨h1, h2, h3⟩
        simp only [go_sem]
        have hrb : rightBk bk = true := by assumption
        have hfl : fs.length ≤ i := by rw [h2]; exact Nat.le_trans (List.length_filter_le _ _) (by rw [List.length_take]; omega)
        have hrl : rs.length ≤ i := by rw [h3]; exact Nat.le_trans (List.length_filter_le _ _) (by rw [List.length_take]; omega))
    | (
        first
        | (refine ⟨(i + 1, fs ++ [f], rs), ?_, ⟨by show i + 1 ≤ _; omega, by show fs ++ [f] = _; rw [h2]; exact (fil_yes hb (by assumption)).symm, by show rs = _; rw [h3]; exact (fil_no hb (by simp_all)).symm⟩, by show bk.fills.length - (i + 1) < bk.fills.length - i; omega⟩
           (try simp only [go_sem]); (try rw [wrap64_id (by omega) (by omega)]); (repeat' (first | refine And.intro ?_ ?_ | exact .inl rfl | exact .inr rfl | exact .inr ⟨rfl, rfl⟩ | trivial | exact .inr (oblA rfl) | exact .inr ⟨rfl, oblA rfl⟩ | exact .inr bel_strs | exact .inr ⟨rfl, bel_strs⟩ | exact .inr ⟨by simp, bel_strs⟩ | (simp; done) | exact .inr ⟨rfl, by simp⟩ | exact .inr ⟨by simp, by simp⟩)); done)
        | (refine ⟨(i + 1, fs, rs ++ [f]), ?_, ⟨by show i + 1 ≤ _; omega, by show fs = _; rw [h2]; exact (fil_no hb (by assumption)).symm, by show rs ++ [f] = _; rw [h3]; exact (fil_yes hb (by simp_all)).symm⟩, by show bk.fills.length - (i + 1) < bk.fills.length - i; omega⟩
           (try simp only [go_sem]); (try rw [wrap64_id (by omega) (by omega)]); (repeat' (first | refine And.intro ?_ ?_ | exact .inl rfl | exact .inr rfl | exact .inr ⟨rfl, rfl⟩ | trivial | exact .inr (oblA rfl) | exact .inr ⟨rfl, oblA rfl⟩ | exact .inr bel_strs | exact .inr ⟨rfl, bel_strs⟩ | exact .inr ⟨by simp, bel_strs⟩ | (simp; done) | exact .inr ⟨rfl, by simp⟩ | exact .inr ⟨by simp, by simp⟩)); done))
    | (
        refine AWP.ret ?_
        refine AEnd.is ?_; simp only [go_sem, out_v, out_s, out_n, v_int, v_bool, v_str] <;> (first | (rw [dayc_no (by assumption)]; first | exact ⟨⟨rfl, rfl, rfl, rfl, rfl⟩, trivial, rfl⟩ | (simp; done)) | (rw [dayc_over hrb (by assumption)]; first | exact ⟨⟨rfl, rfl, rfl, rfl, rfl⟩, trivial, rfl⟩ | (simp; done)) | (rw [dayc_ok hrb (by assumption)]; first | exact ⟨⟨rfl, rfl, rfl, rfl, rfl⟩, rfl, rfl⟩ | (simp; done)) | skip))
    | refine AWP.fin (by assumption) ?_
    | fail)

set_option maxHeartbeats 4000000 in
set_option maxRecDepth 8000 in
theorem rhas_c (bk : Bk) (car : List Po) (a s : Bs) (hcar : car.length ≤ 1000000) (ho : bk.orders.length ≤ 1000000) (hf : bk.fills.length ≤ 1000000) (hi : bk.ids.length ≤ 1000000) : ACalls E 24 [bkV bk, posV car, str a, str s] (fun r t => r = poV (hasR bk car a s) ∧ t = []) := by -- checkroll/roll.Has
  have hml := merge_len [[posF bk a s], [getP car (a, s)]]
  simp only [List.flatten_cons, List.flatten_nil, List.append_nil, List.cons_append, List.nil_append, List.length_cons, List.length_nil] at hml
  refine ACalls.of_awp (n := 39) (rs := [.cell 8 49]) Tryz.func24 rfl Tryz.ntmps24 rfl ?_
  repeat' (first
    | refine AWP.seqk fun K hK => ?_
    | (refine AWP.region ?_; simp only [go_sem])
    | (refine hK _ ?_; clear hK K)
    | refine AWP.block ?_
    | refine AWP.cond rfl (fun c => ?_) (fun c => ?_) <;> first | exact Bool.noConfusion c | (try simp only [dD] at c)
    | refine AWP.skip ?_
    | (refine AWP.exit ?_; simp only [go_sem])
    | (refine ACall.one (lof_c bk a s (by omega) (by omega) (by omega)) (by kernel_rfl) rfl ?_; simp only [go_sem])
    | (refine ACall.one (mget_c car a s (by omega)) (by kernel_rfl) rfl ?_; simp only [go_sem])
    | (refine ACall.one (mget_c (mergeF [[posF bk a s], [getP car (a, s)]]).1 a s (by omega)) (by kernel_rfl) rfl ?_; simp only [go_sem])
    | (refine ACall.one (mall_c [[posF bk a s], [getP car (a, s)]] (by simp) (by simp)) (by kernel_rfl) rfl ?_; simp only [go_sem])
    | (refine AGet.haveM (by assumption) ?_; (try simp only [go_sem]))
    | (refine AGet.have' (by assumption) ?_; (try simp only [go_sem]))
    | ((first | refine AGet.nth ?_ (fun b hb => ?_) | refine AGet.nth1 ?_ (fun b hb => ?_) | with_reducible refine And.intro ?_ ?_); (focus (first | omega | assumption | exact List.length_pos_iff.2 (by assumption) | (simp only [List.length_append, List.length_cons, List.length_nil, List.length_map, List.length_take, List.length_drop] at *; omega) | (rw [wrap64_id (by omega) (by omega)]; omega) | (simp; done) | (simp [spare_len]; done) | (exact ⟨by omega, by omega⟩))); (try simp only [hb, go_sem]))
    | (
        refine AWP.ret ?_
        refine AEnd.is ?_; simp only [go_sem, out_v, out_s, out_n, v_int, v_bool, v_str] <;> (first | (unfold hasR; rw [if_pos (by assumption)]; done) | (unfold hasR; rw [if_pos (by assumption)]; simp; done) | (unfold hasR; rw [if_neg (by simp_all)]; done) | (unfold hasR; rw [if_neg (by simp_all)]; simp; done) | skip))
    | refine AWP.fin (by assumption) ?_
    | fail)

set_option maxHeartbeats 4000000 in
set_option maxRecDepth 8000 in
theorem rworst_c (bk : Bk) (car : List Po) (a s : Bs) (hcar : car.length ≤ 1000000) (ho : bk.orders.length ≤ 1000000) (hf : bk.fills.length ≤ 1000000) (hi : bk.ids.length ≤ 1000000) : ACalls E 21 [bkV bk, posV car, str a, str s] (fun r t => r = wV (worstR bk car a s) ∧ t = []) := by -- checkroll/roll.Worst
  refine ACalls.of_awp (n := 30) (rs := [.cell 8 45]) Tryz.func21 rfl Tryz.ntmps21 rfl ?_
  repeat' (first
    | refine AWP.seqk fun K hK => ?_
    | (refine AWP.region ?_; simp only [go_sem])
    | (refine hK _ ?_; clear hK K)
    | refine AWP.block ?_
    | refine AWP.cond rfl (fun c => ?_) (fun c => ?_) <;> first | exact Bool.noConfusion c | (try simp only [dD] at c)
    | refine AWP.skip ?_
    | (refine AWP.exit ?_; simp only [go_sem])
    | (refine ACall.one (eof_c bk a s (by omega) (by omega) (by omega)) (by kernel_rfl) rfl ?_; simp only [go_sem])
    | (refine ACall.one (mget_c car a s (by omega)) (by kernel_rfl) rfl ?_; simp only [go_sem])
    | (refine ACall.one (plus_c (ofF bk a s) ((getP car (a, s)).qty, IntKind.i64.wrap (0 - (getP car (a, s)).qty))) (by kernel_rfl) rfl ?_; simp only [go_sem])
    | (refine AGet.haveM (by assumption) ?_; (try simp only [go_sem]))
    | (refine AGet.have' (by assumption) ?_; (try simp only [go_sem]))
    | ((first | refine AGet.nth ?_ (fun b hb => ?_) | refine AGet.nth1 ?_ (fun b hb => ?_) | with_reducible refine And.intro ?_ ?_); (focus (first | omega | assumption | exact List.length_pos_iff.2 (by assumption) | (simp only [List.length_append, List.length_cons, List.length_nil, List.length_map, List.length_take, List.length_drop] at *; omega) | (rw [wrap64_id (by omega) (by omega)]; omega) | (simp; done) | (simp [spare_len]; done) | (exact ⟨by omega, by omega⟩))); (try simp only [hb, go_sem]))
    | (
        refine AWP.ret ?_
        refine AEnd.is ?_; simp only [go_sem, out_v, out_s, out_n, v_int, v_bool, v_str] <;> (first | (unfold worstR; rw [if_pos (by assumption)]; exact ⟨rfl, rfl⟩) | (unfold worstR; rw [if_neg (by simp_all)]; exact ⟨rfl, rfl⟩) | (unfold worstR; rw [if_pos (by assumption)]; done) | (unfold worstR; rw [if_neg (by simp_all)]; done) | (unfold worstR; rw [if_neg (by simp_all)]; simp; done) | skip))
    | refine AWP.fin (by assumption) ?_
    | fail)

set_option maxHeartbeats 4000000 in
set_option maxRecDepth 8000 in
theorem awake25_c  : ACalls E 10 [] (fun r t => r = bl true ∧ t = []) := by -- checkroll/checkrolllaw25.awake
  refine ACalls.of_awp (n := 67) (rs := [.tmp 0]) Tryz.func10 rfl Tryz.ntmps10 rfl ?_
  repeat' (first
    | refine AWP.seqk fun K hK => ?_
    | (refine AWP.region ?_; simp only [go_sem, aw_close, aw_has, aw_worst, aw_fl1, aw_fl0, decide_true])
    | (refine hK _ ?_; clear hK K)
    | refine AWP.block ?_
    | refine AWP.cond rfl (fun c => ?_) (fun c => ?_) <;> first | exact Bool.noConfusion c | (try simp only [dD] at c)
    | refine AWP.skip ?_
    | (refine AWP.exit ?_; simp only [go_sem, aw_close, aw_has, aw_worst, aw_fl1, aw_fl0, decide_true])
    | (refine ACall.one (nil_arg1 (k := 8) (rclose_c awB (by decide) (by decide) (by decide))) (by kernel_rfl) rfl ?_; simp only [go_sem, aw_close, aw_has, aw_worst, aw_fl1, aw_fl0, decide_true])
    | (refine ACall.one (rhas_c awN [⟨[99], [115], 4, 20, false⟩] [99] [115] (by decide) (by decide) (by decide) (by decide)) (by kernel_rfl) rfl ?_; simp only [go_sem, aw_close, aw_has, aw_worst, aw_fl1, aw_fl0, decide_true])
    | (refine ACall.one (rworst_c awN [⟨[99], [115], 4, 20, false⟩] [99] [115] (by decide) (by decide) (by decide) (by decide)) (by kernel_rfl) rfl ?_; simp only [go_sem, aw_close, aw_has, aw_worst, aw_fl1, aw_fl0, decide_true])
    | (refine AGuard.splitN (fun h => ?_) (fun h => ?_) <;> simp only [h, go_sem, aw_close, aw_has, aw_worst, aw_fl1, aw_fl0, decide_true] <;> (try simp only [dD] at h))
    | (refine AGuard.split (fun h => ?_) (fun h => ?_) <;> simp only [h, go_sem, aw_close, aw_has, aw_worst, aw_fl1, aw_fl0, decide_true] <;> (try simp only [dD] at h))
    | (refine AGet.haveM (by assumption) ?_; (try simp only [go_sem, aw_close, aw_has, aw_worst, aw_fl1, aw_fl0, decide_true]))
    | (refine AGet.have' (by assumption) ?_; (try simp only [go_sem, aw_close, aw_has, aw_worst, aw_fl1, aw_fl0, decide_true]))
    | ((first | refine AGet.nth ?_ (fun b hb => ?_) | refine AGet.nth1 ?_ (fun b hb => ?_) | with_reducible refine And.intro ?_ ?_); (focus (first | omega | assumption | exact List.length_pos_iff.2 (by assumption) | (simp only [List.length_append, List.length_cons, List.length_nil, List.length_map, List.length_take, List.length_drop] at *; omega) | (rw [wrap64_id (by omega) (by omega)]; omega) | (simp; done) | (simp [spare_len]; done) | (exact ⟨by omega, by omega⟩))); (try simp only [hb, go_sem, aw_close, aw_has, aw_worst, aw_fl1, aw_fl0, decide_true]))
    | (
        refine AWP.ret ?_
        refine AEnd.is ?_; simp only [go_sem, out_v, out_s, out_n, v_int, v_bool, v_str] <;> (first | rfl | (simp; done) | skip))
    | refine AWP.fin (by assumption) ?_
    | fail)

end Go.Proofs.YtajeeghgiilhiaaGreat
end
section
/- A close changes neither what is had nor the worst; what comes then is told as if it hadn't been closed. No program. -/
set_option linter.unusedVariables false
set_option linter.unusedSimpArgs false
namespace Go.Bk
open Go Go.Abs
/-- The same fills but for some that are final. -/
inductive Drp (c : Int) : List Dn → List Dn → List Dn → Prop
  | nil : Drp c [] [] []
  | keep (f : Dn) {X F G : List Dn} : Drp c X F G → Drp c X (f :: F) (f :: G)
  | drop (f : Dn) {X F G : List Dn} : 10 < c - f.time → Drp c X F G → Drp c (f :: X) (f :: F) G
structure Twin (X : List Dn) (b n : Bk) : Prop where
  orders : n.orders = b.orders
  ids : n.ids = b.ids
  clock : n.clock = b.clock
  bad : n.bad = b.bad
  fills : Drp b.clock X b.fills n.fills
theorem Drp.mono {c d : Int} (h : c ≤ d) {X F G : List Dn} (hd : Drp c X F G) : Drp d X F G := by
  induction hd with
  | nil => exact .nil
  | keep f _ ih => exact .keep f ih
  | drop f hf _ ih => exact .drop f (by omega) ih
theorem Drp.snoc {c : Int} {X F G : List Dn} (hd : Drp c X F G) (f : Dn) : Drp c X (F ++ [f]) (G ++ [f]) := by
  induction hd with
  | nil => exact .keep f .nil
  | keep f _ ih => exact .keep f ih
  | drop f hf _ ih => exact .drop f hf ih
theorem Drp.refl {c : Int} : ∀ (F : List Dn), Drp c [] F F
  | [] => .nil
  | f :: F => .keep f (Drp.refl F)
theorem Drp.sub {c : Int} {X F G : List Dn} (hd : Drp c X F G) : G.Sublist F := by
  induction hd with
  | nil => exact .slnil
  | keep f _ ih => exact ih.cons_cons f
  | drop f _ _ ih => exact ih.cons f
theorem Drp.trans {c : Int} {X F G : List Dn} (h : Drp c X F G) : ∀ {Y H : List Dn}, Drp c Y G H → ∃ Z, Z.Perm (X ++ Y) ∧ Drp c Z F H := by
  induction h with
  | nil => intro Y H h2; exact ⟨Y, by simp, h2⟩
  | keep f _ ih =>
    intro Y H h2
    cases h2 with
    | keep _ h2 => obtain ⟨Z, h3, h4⟩ := ih h2; exact ⟨Z, h3, .keep f h4⟩
    | drop _ hf h2 => obtain ⟨Z, h3, h4⟩ := ih h2; exact ⟨f :: Z, (h3.cons f).trans List.perm_middle.symm, .drop f hf h4⟩
  | drop f hf _ ih => intro Y H h2; obtain ⟨Z, h3, h4⟩ := ih h2; exact ⟨f :: Z, h3.cons f, .drop f hf h4⟩
theorem Drp.filter {c : Int} (p : Dn → Bool) : ∀ (F : List Dn), (∀ f ∈ F, p f = false → 10 < c - f.time) → Drp c (F.filter fun f => !p f) F (F.filter p)
  | [], _ => .nil
  | f :: F, hp => by
    have ih := Drp.filter p F fun g hg => hp g (List.mem_cons_of_mem _ hg)
    cases h : p f with
    | true => rw [List.filter_cons_of_pos (p := p) h, List.filter_cons_of_neg (p := fun f => !p f) (by simp [h])]; exact .keep f ih
    | false => rw [List.filter_cons_of_neg (p := p) (by simp [h]), List.filter_cons_of_pos (p := fun f => !p f) (by simp [h])]; exact .drop f (hp f (by simp) h) ih
theorem Drp.perm {c : Int} {X F G : List Dn} (h : Drp c X F G) : F.Perm (X ++ G) := by
  induction h with
  | nil => exact .nil
  | keep f _ ih => exact (ih.cons f).trans List.perm_middle.symm
  | drop f _ _ ih => exact ih.cons f
theorem atF_cons {f : Dn} {F : List Dn} {id : Bs} : atF (f :: F) id = if f.id = id then some 0 else (atF F id).map (· + 1) := by
  unfold atF; rw [List.findIdx?_cons]; simp only [decide_eq_true_eq]
theorem atF_none_of {F : List Dn} {id : Bs} (h : id ∉ F.map (·.id)) : atF F id = none := by
  unfold atF; rw [List.findIdx?_eq_none_iff]
  intro f hf
  simp only [decide_eq_false_iff_not]
  intro e; exact h (List.mem_map.2 ⟨f, hf, e⟩)
/-- Where a fill stands in both, or it is final, or it is nowhere. -/
theorem Drp.find {c : Int} {X F G : List Dn} (hd : Drp c X F G) (nd : (F.map (·.id)).Nodup) (id : Bs) :
    (∃ i j f, atF F id = some i ∧ atF G id = some j ∧ F.getD i zeroD = f ∧ G.getD j zeroD = f ∧ ∀ f', Drp c X (F.set i f') (G.set j f')) ∨
    (∃ i f, atF F id = some i ∧ atF G id = none ∧ F.getD i zeroD = f ∧ 10 < c - f.time) ∨ (atF F id = none ∧ atF G id = none) := by
  induction hd with
  | nil => exact .inr (.inr ⟨rfl, rfl⟩)
  | keep f h ih =>
    rw [List.map_cons, List.nodup_cons] at nd
    by_cases e : f.id = id
    · refine .inl ⟨0, 0, f, by rw [atF_cons, if_pos e], by rw [atF_cons, if_pos e], rfl, rfl, fun f' => .keep f' h⟩
    · rcases ih nd.2 with ⟨i, j, g, h1, h2, h3, h4, h5⟩ | ⟨i, g, h1, h2, h3, h4⟩ | ⟨h1, h2⟩
      · exact .inl ⟨i + 1, j + 1, g, by rw [atF_cons, if_neg e, h1]; rfl, by rw [atF_cons, if_neg e, h2]; rfl, by simpa using h3, by simpa using h4, fun f' => .keep f (h5 f')⟩
      · exact .inr (.inl ⟨i + 1, g, by rw [atF_cons, if_neg e, h1]; rfl, by rw [atF_cons, if_neg e, h2]; rfl, by simpa using h3, h4⟩)
      · exact .inr (.inr ⟨by rw [atF_cons, if_neg e, h1]; rfl, by rw [atF_cons, if_neg e, h2]; rfl⟩)
  | drop f hf h ih =>
    rw [List.map_cons, List.nodup_cons] at nd
    by_cases e : f.id = id
    · refine .inr (.inl ⟨0, f, by rw [atF_cons, if_pos e], atF_none_of ?_, rfl, hf⟩)
      intro hm
      obtain ⟨g, hg, e2⟩ := List.mem_map.1 hm
      exact nd.1 (List.mem_map.2 ⟨g, h.sub.subset hg, e2.trans e.symm⟩)
    · rcases ih nd.2 with ⟨i, j, g, h1, h2, h3, h4, h5⟩ | ⟨i, g, h1, h2, h3, h4⟩ | ⟨h1, h2⟩
      · exact .inl ⟨i + 1, j, g, by rw [atF_cons, if_neg e, h1]; rfl, h2, by simpa using h3, h4, fun f' => .drop f hf (h5 f')⟩
      · exact .inr (.inl ⟨i + 1, g, by rw [atF_cons, if_neg e, h1]; rfl, h2, by simpa using h3, h4⟩)
      · exact .inr (.inr ⟨by rw [atF_cons, if_neg e, h1]; rfl, h2⟩)
/-- What two alike tell of the same execution. -/
structure Alike2 (c : Int) (X F G : List Dn) (p q : Bk × Int) : Prop where
  code : p.2 = q.2
  orders : q.1.orders = p.1.orders
  ids : q.1.ids = p.1.ids
  clock : q.1.clock = p.1.clock
  bad : q.1.bad = p.1.bad
  clk : p.1.clock = c
  fills : Drp c X p.1.fills q.1.fills
  len : p.1.fills.length + G.length = q.1.fills.length + F.length
section
variable {o : List Od} {X F G : List Dn} {ids : List Bs} {cl bad : Int}
theorem Alike2.put (h : Drp cl X F G) (o' : List Od) (e : Int) : Alike2 cl X F G (⟨o', F, ids, cl, bad⟩, e) (⟨o', G, ids, cl, bad⟩, e) := ⟨rfl, rfl, rfl, rfl, rfl, rfl, h, by simp only []; omega⟩
theorem amend_twin (h : Drp cl X F G) (nd : (F.map (·.id)).Nodup) (x : Ex) (hx : ¬ x.time < cl) : Alike2 cl X F G (amendF ⟨o, F, ids, cl, bad⟩ x) (amendF ⟨o, G, ids, cl, bad⟩ x) := by
  unfold amendF
  rcases h.find nd x.ref with ⟨i, j, f, h1, h2, h3, h4, h5⟩ | ⟨i, f, h1, h2, h3, h4⟩ | ⟨h1, h2⟩
  · simp only [h1, h2, h3, h4]
    by_cases c1 : f.live = false ∨ 10 < x.time - f.time
    · rw [if_pos c1, if_pos c1]; exact .put h _ 6
    · rw [if_neg c1, if_neg c1]
      by_cases c2 : f.ord ≠ x.ord ∨ f.acc ≠ x.acc ∨ f.sym ≠ x.sym ∨ f.buy ≠ x.buy
      · rw [if_pos c2, if_pos c2]; exact .put h _ 3
      · rw [if_neg c2, if_neg c2]
        by_cases c3 : x.kind = 7
        · rw [if_pos c3, if_pos c3]
          exact ⟨rfl, rfl, rfl, rfl, rfl, rfl, h5 _, by simp only [List.length_set]; omega⟩
        · rw [if_neg c3, if_neg c3]
          by_cases c4 : f.qty < x.qty
          · rw [if_pos c4, if_pos c4]; exact .put h _ 4
          · rw [if_neg c4, if_neg c4]
            by_cases c5 : (findF o f.ord).2 = false ∨ fairF { (findF o f.ord).1 with buy := f.buy } x.price = false
            · rw [if_pos c5, if_pos c5]; exact .put h _ 5
            · rw [if_neg c5, if_neg c5]
              exact ⟨rfl, rfl, rfl, rfl, rfl, rfl, h5 _, by simp only [List.length_set]; omega⟩
  · simp only [h1, h2, h3]
    rw [if_pos (.inr (by omega))]
    exact .put h _ 6
  · simp only [h1, h2]
    exact .put h _ 6
theorem fill_twin (h : Drp cl X F G) (x : Ex) : Alike2 cl X F G (fillF ⟨o, F, ids, cl, bad⟩ x) (fillF ⟨o, G, ids, cl, bad⟩ x) := by
  unfold fillF
  dsimp only
  by_cases c1 : (fillO o x.ord x.qty x.price).2 = 0
  · rw [if_pos c1, if_pos c1]
    exact ⟨rfl, rfl, rfl, rfl, rfl, rfl, h.snoc _, by simp only [List.length_append]; omega⟩
  · rw [if_neg c1, if_neg c1]
    by_cases c2 : (fillO o x.ord x.qty x.price).2 = 1
    · rw [if_pos c2, if_pos c2]; exact .put h _ 4
    · rw [if_neg c2, if_neg c2]
      by_cases c3 : (fillO o x.ord x.qty x.price).2 = 9
      · rw [if_pos c3, if_pos c3]; exact .put h _ 5
      · rw [if_neg c3, if_neg c3]; exact .put h _ 2
theorem repl_twin (h : Drp cl X F G) (x : Ex) : Alike2 cl X F G (replaceF ⟨o, F, ids, cl, bad⟩ x) (replaceF ⟨o, G, ids, cl, bad⟩ x) := by
  unfold replaceF
  dsimp only
  by_cases c1 : (changeO o x.ref x.ord x.qty x.price).2 = 0
  · rw [if_pos c1, if_pos c1]; exact .put h _ 0
  · rw [if_neg c1, if_neg c1]
    by_cases c2 : (changeO o x.ref x.ord x.qty x.price).2 = 1
    · rw [if_pos c2, if_pos c2]; exact .put h _ 4
    · rw [if_neg c2, if_neg c2]; exact .put h _ 2
theorem apply_twin (h : Drp cl X F G) (nd : (F.map (·.id)).Nodup) (x : Ex) : Alike2 cl X F G (applyF ⟨o, F, ids, cl, bad⟩ x) (applyF ⟨o, G, ids, cl, bad⟩ x) := by
  unfold applyF
  dsimp only
  by_cases c1 : x.time < cl
  · rw [if_pos c1, if_pos c1]; exact .put h _ 1
  · rw [if_neg c1, if_neg c1]
    by_cases c2 : x.kind = 1
    · rw [if_pos c2, if_pos c2]
      by_cases c3 : (newO o (orderOf x)).2 = 0
      · rw [if_pos c3, if_pos c3]; exact .put h _ 0
      · rw [if_neg c3, if_neg c3]; exact .put h _ 2
    · rw [if_neg c2, if_neg c2]
      by_cases c3 : x.kind = 7 ∨ x.kind = 8
      · rw [if_pos c3, if_pos c3]; exact amend_twin h nd x c1
      · rw [if_neg c3, if_neg c3]
        generalize (if x.kind = 4 then x.ref else x.ord) = key
        by_cases c4 : (findF o key).2 = false ∨ (findF o key).1.opn = false
        · rw [if_pos c4, if_pos c4]; exact .put h _ 2
        · rw [if_neg c4, if_neg c4]
          by_cases c5 : (findF o key).1.acc ≠ x.acc ∨ (findF o key).1.sym ≠ x.sym ∨ (findF o key).1.buy ≠ x.buy
          · rw [if_pos c5, if_pos c5]; exact .put h _ 3
          · rw [if_neg c5, if_neg c5]
            by_cases c6 : x.kind = 2
            · rw [if_pos c6, if_pos c6]; exact fill_twin h x
            · rw [if_neg c6, if_neg c6]
              by_cases c7 : x.kind = 4
              · rw [if_pos c7, if_pos c7]; exact repl_twin h x
              · rw [if_neg c7, if_neg c7]
                by_cases c8 : (closeO o x.ord).2 = 0
                · rw [if_pos c8, if_pos c8]; exact .put h _ 0
                · rw [if_neg c8, if_neg c8]; exact .put h _ 2
theorem apply_late {b : Bk} {x : Ex} (h : (applyF b x).2 = 0) : b.clock ≤ x.time := (applyF_does h).1
theorem take_twin (h : Drp cl X F G) (nd : (F.map (·.id)).Nodup) (x : Ex) : (takeF ⟨o, F, ids, cl, bad⟩ x).2 = (takeF ⟨o, G, ids, cl, bad⟩ x).2 ∧ Twin X (takeF ⟨o, F, ids, cl, bad⟩ x).1 (takeF ⟨o, G, ids, cl, bad⟩ x).1 ∧ (takeF ⟨o, F, ids, cl, bad⟩ x).1.fills.length + G.length = (takeF ⟨o, G, ids, cl, bad⟩ x).1.fills.length + F.length := by
  unfold takeF
  dsimp only
  by_cases c1 : bad ≠ 0 ∨ 256 ≤ ids.length
  · rw [if_pos c1, if_pos c1]; exact ⟨rfl, ⟨rfl, rfl, rfl, rfl, h⟩, by simp only []; omega⟩
  · rw [if_neg c1, if_neg c1]
    by_cases c2 : hasF ids x.id = true
    · rw [if_pos c2, if_pos c2]; exact ⟨rfl, ⟨rfl, rfl, rfl, rfl, h⟩, by simp only []; omega⟩
    · rw [if_neg c2, if_neg c2]
      have ha := apply_twin (o := o) (ids := ids ++ [x.id]) (bad := bad) h nd x
      have hc := ha.code
      by_cases c3 : (applyF ⟨o, F, ids ++ [x.id], cl, bad⟩ x).2 ≠ 0
      · rw [if_pos c3, if_pos (by rw [← hc]; exact c3)]
        exact ⟨rfl, ⟨ha.orders, ha.ids, ha.clock, hc.symm, by simp only []; rw [ha.clk]; exact ha.fills⟩, ha.len⟩
      · rw [if_neg c3, if_neg (by rw [← hc]; exact c3)]
        exact ⟨rfl, ⟨ha.orders, ha.ids, rfl, ha.bad, ha.fills.mono (apply_late (Decidable.not_not.1 c3))⟩, ha.len⟩
end
theorem come_twin {X : List Dn} {b n : Bk} (h : Twin X b n) (hb : rightBk b = true) (hn : rightBk n = true) (x : Ex) : (comeF b x).2 = (comeF n x).2 ∧ Twin X (comeF b x).1 (comeF n x).1 ∧ (comeF b x).1.fills.length + n.fills.length = (comeF n x).1.fills.length + b.fills.length := by
  unfold comeF
  rw [hb, hn, Bool.true_and]
  have nd : (b.fills.map (·.id)).Nodup := by
    unfold rightBk at hb
    simp only [Bool.and_eq_true, decide_eq_true_eq] at hb
    exact hb.2
  obtain ⟨o, F, ids, cl, bad⟩ := b
  obtain ⟨o', G, ids', cl', bad'⟩ := n
  obtain ⟨h1, h2, h3, h4, h5⟩ := h
  simp only at h1 h2 h3 h4
  subst h1; subst h2; subst h3; subst h4
  by_cases c : execB x = true
  · rw [if_pos c, if_pos c]; exact take_twin h5 nd x
  · rw [if_neg c, if_neg c]; exact ⟨rfl, ⟨rfl, rfl, rfl, rfl, h5⟩, by simp only []; omega⟩
end Go.Bk
end
section
/- What is had, and the worst, over a close. No program. -/
set_option linter.unusedVariables false
set_option linter.unusedSimpArgs false
namespace Go.Bk
open Go Go.Abs
def nB (b : Bk) : Bk := ⟨b.orders, restB b, b.ids, b.clock, b.bad⟩
theorem final_old {b : Bk} {f : Dn} (h1 : 0 ≤ f.time) (h2 : f.time ≤ b.clock) (h3 : b.clock ≤ 4611686018427387904) : finalF b f = decide (10 < b.clock - f.time) := by
  unfold finalF
  rw [if_neg (by omega), wrap64_id (by omega) (by omega)]
theorem right_clock {b : Bk} (hr : rightBk b = true) : 0 ≤ b.clock ∧ b.clock ≤ 4611686018427387904 := by
  have := (rightBk_iff.1 hr).1
  omega
theorem sub_right {b n : Bk} (hr : rightBk b = true) (ho : rightO n.orders = true) (hi : n.ids = b.ids) (hc : n.clock = b.clock) (hb : 0 ≤ n.bad ∧ n.bad ≤ 6) (hs : n.fills.Sublist b.fills) : rightBk n = true := by
  obtain ⟨h1, h2, h3, h4⟩ := rightBk_iff.1 hr
  have hl := hs.length_le
  refine rightBk_iff.2 ⟨?_, by rw [hi]; exact h2, fun f hf => ?_, h4.sublist (hs.map _)⟩
  · rw [hi, hc]
    exact ⟨ho, by omega, h1.2.2.1, h1.2.2.2.1, h1.2.2.2.2.1, hb.1, hb.2⟩
  · have := h3 f (hs.subset hf)
    unfold fillB at *; rw [hi, hc]; exact this
theorem nB_right {b : Bk} (hr : rightBk b = true) : rightBk (nB b) = true := by
  have h := (rightBk_iff.1 hr).1
  exact sub_right hr h.1 rfl rfl ⟨h.2.2.2.2.2.1, h.2.2.2.2.2.2⟩ (List.filter_sublist (p := fun f => !finalF b f))
theorem done_right {b : Bk} (hr : rightBk b = true) : rightBk (doneB b) = true := sub_right (n := doneB b) hr (by show rightO [] = true; decide) rfl rfl ⟨Int.le_refl 0, by show (0:Int) ≤ 6; omega⟩ (List.filter_sublist (p := fun f => finalF b f))
theorem nB_twin {b : Bk} (hr : rightBk b = true) : Twin (finsB b) b (nB b) := ⟨rfl, rfl, rfl, rfl, by
  have hc := right_clock hr
  have h := Drp.filter (c := b.clock) (fun f => !finalF b f) b.fills fun f hf e => by
    have ha := right_amounts hr f hf
    rw [final_old ha.2.2.1 ha.2.2.2 hc.2] at e
    simpa using e
  simp only [Bool.not_not] at h
  exact h⟩
/-- A position is right. -/
theorem sumF_num (l : List Int) : numB (sumF l).1 = true := numB_iff.2 (sumF_bnd' l)
theorem pos_okP (b : Bk) (a s : Bs) : okP (posF b a s) = true := by
  unfold posF posG
  split
  · split
    · simp [okP, sumF_num]
    · simp [okP, numB]
  · simp [okP, numB]
theorem pos_nm (b : Bk) (a s : Bs) : nmP (posF b a s) = (a, s) := by
  unfold posF posG
  split
  · split <;> rfl
  · rfl
theorem rise_of {l : List Po} (h1 : ∀ p ∈ l, okP p = true) (h2 : Rising l) : riseP l = true := by
  induction l with
  | nil => rfl
  | cons p l ih =>
    obtain ⟨h3, h4⟩ := List.pairwise_cons.1 h2
    have := ih (fun q hq => h1 q (List.mem_cons_of_mem _ hq)) h4
    have e := h1 p (by simp)
    cases l with
    | nil => simp only [riseP, e, Bool.and_true]
    | cons q l => have e2 := h3 q (by simp); simp only [riseP, e] at this ⊢; simp_all [ltP]
theorem all_rise (b : Bk) : riseP (allP b) = true := by
  unfold allP
  split
  · refine rise_of (fun p hp => ?_) ?_
    · obtain ⟨n, _, rfl⟩ := List.mem_map.1 hp
      exact pos_okP b n.1 n.2
    · unfold Rising
      rw [List.pairwise_map]
      refine (nms_rise _).imp fun {x y} h => ?_
      unfold ltP
      rw [pos_nm, pos_nm]; exact h
  · rfl
/-- No fill of a name: nothing is had. -/
theorem pos_zero {b : Bk} (hr : rightBk b = true) {a s : Bs} (h : (a, s) ∉ nmsB b) : posF b a s = ⟨a, s, 0, 0, false⟩ := by
  have : matsF a s b.fills = [] := List.filter_eq_nil_iff.2 fun f hf => by
    rw [matB_iff]
    rintro ⟨_, h2, h3⟩
    exact h (List.mem_map.2 ⟨f, hf, by rw [h2, h3]⟩)
  unfold posF; rw [if_pos hr, this]; rfl
theorem get_all {b : Bk} (hr : rightBk b = true) (a s : Bs) : getP (allP b) (a, s) = posF b a s := by
  have hm : allP b = (cmpct (srtN (nmsB b))).map fun n => posF b n.1 n.2 := by unfold allP; rw [if_pos hr]
  by_cases h : (a, s) ∈ nmsB b
  · have h2 : (a, s) ∈ cmpct (srtN (nmsB b)) := cmpct_mem.2 (srtN_mem.2 h)
    have h3 : posF b a s ∈ allP b := by rw [hm]; exact List.mem_map.2 ⟨_, h2, rfl⟩
    have hs := same_one (rise_rising (all_rise b)) h3
    rw [pos_nm] at hs
    unfold getP
    have hf : (allP b).find? (fun p => decide (nmP p = (a, s))) = some (posF b a s) := by
      have := List.find?_filter (p := fun p => decide (nmP p = (a, s))) (q := fun _ => true) (xs := allP b)
      unfold sameF at hs
      rw [← List.head?_filter, hs]; rfl
    rw [hf]
  · rw [pos_zero hr h]
    unfold getP
    have hf : (allP b).find? (fun p => decide (nmP p = (a, s))) = none := by
      rw [List.find?_eq_none]
      intro p hp
      rw [hm] at hp
      obtain ⟨n, hn, rfl⟩ := List.mem_map.1 hp
      rw [pos_nm]
      simp only [decide_eq_true_eq]
      intro e
      exact h (srtN_mem.1 (cmpct_mem.1 (by rw [← e]; exact hn)))
    rw [hf]
/-- Two of one name, told together. -/
theorem two_get {p q : Po} {n : Nm} (hp : okP p = true) (hq : okP q = true) (np : nmP p = n) (nq : nmP q = n) : mergeF [[p], [q]] = ([togF n [p, q]], 0) := by
  have h : ([[p], [q]] : List (List Po)).all riseP = true := by simp [riseP, hp, hq]
  refine Prod.ext ?_ (merge_ok h)
  refine Merged.uniq (merge_spec h) ⟨List.pairwise_singleton .., fun x => ?_⟩
  have hsame : sameF n [p, q] = [p, q] := by unfold sameF; rw [List.filter_cons_of_pos (by simp [np]), List.filter_cons_of_pos (by simp [nq])]; rfl
  simp only [List.flatten_cons, List.flatten_nil, List.append_nil, List.cons_append, List.nil_append, List.mem_singleton]
  constructor
  · rintro rfl
    refine ⟨⟨p, by simp, by rw [togF_nm]; exact np⟩, ?_⟩
    rw [togF_nm]; unfold oneF; rw [hsame]
  · rintro ⟨⟨y, hy, e⟩, hx⟩
    have hn : nmP x = n := by
      rcases List.mem_cons.1 hy with rfl | hy
      · rw [← e]; exact np
      · rw [List.mem_singleton.1 hy] at e; rw [← e]; exact nq
    rw [hn] at hx; unfold oneF at hx; rw [hsame] at hx; exact hx
theorem has_eq {b : Bk} {car : List Po} {a s : Bs} (h : okP (getP car (a, s)) = true) (hn : nmP (getP car (a, s)) = (a, s)) : hasR b car a s = togF (a, s) [posF b a s, getP car (a, s)] := by
  unfold hasR
  generalize getP car (a, s) = q at *
  rw [two_get (pos_okP b a s) h (pos_nm b a s) hn, if_neg (by simp)]
  have e : nmP (togF (a, s) [posF b a s, q]) = (a, s) := togF_nm
  simp only [getP, List.find?_cons, e, decide_true]
theorem sumF_two {x y : Int} (hx : numB x = true) (hy : numB y = true) : sumF [x, y] = if numB (x + y) then (x + y, true) else (0, false) := by
  unfold sumF
  simp only [List.all_cons, List.all_nil, hx, hy, Bool.true_and, Bool.and_true, sumL, Int.add_zero]
theorem tog_two {p q : Po} {n : Nm} (hp : okP p = true) (hq : okP q = true) : togF n [p, q] = if p.over || q.over then ⟨n.1, n.2, 0, 0, true⟩ else if numB (p.qty + q.qty) && numB (p.value + q.value) then ⟨n.1, n.2, p.qty + q.qty, p.value + q.value, false⟩ else ⟨n.1, n.2, 0, 0, true⟩ := by
  simp only [okP, Bool.and_eq_true] at hp hq
  unfold togF
  simp only [List.any_cons, List.any_nil, Bool.or_false, List.map_cons, List.map_nil, sumF_two hp.1.1 hq.1.1, sumF_two hp.1.2 hq.1.2]
  by_cases c1 : (p.over || q.over) = true
  · rw [if_pos c1, if_pos c1]
  · rw [if_neg c1, if_neg c1]
    cases e1 : numB (p.qty + q.qty) <;> cases e2 : numB (p.value + q.value) <;> simp
end Go.Bk
end
section
/- What is carried holds what was dropped: what is had, and the worst, are the same. No program. -/
set_option linter.unusedVariables false
set_option linter.unusedSimpArgs false
namespace Go.Bk
open Go Go.Abs
def qS (a s : Bs) (X : List Dn) : Int := sumL ((matsF a s X).map sgn)
def vS (a s : Bs) (X : List Dn) : Int := sumL ((matsF a s X).map fun f => sgn f * f.price)
theorem qS_app {a s : Bs} (X Y : List Dn) : qS a s (X ++ Y) = qS a s X + qS a s Y := by unfold qS matsF; rw [List.filter_append, List.map_append, sumL_app]
theorem vS_app {a s : Bs} (X Y : List Dn) : vS a s (X ++ Y) = vS a s X + vS a s Y := by unfold vS matsF; rw [List.filter_append, List.map_append, sumL_app]
theorem qS_perm {a s : Bs} {X Y : List Dn} (h : X.Perm Y) : qS a s X = qS a s Y := by unfold qS matsF; exact sumL_perm ((h.filter _).map _)
theorem vS_perm {a s : Bs} {X Y : List Dn} (h : X.Perm Y) : vS a s X = vS a s Y := by unfold vS matsF; exact sumL_perm ((h.filter _).map _)
/-- The carried positions hold the fills of X. -/
structure Held (C : List Po) (X : List Dn) : Prop where
  rise : riseP C = true
  is : ∀ a s, getP C (a, s) = ⟨a, s, qS a s X, vS a s X, false⟩
theorem held_nil : Held [] [] := ⟨rfl, fun a s => rfl⟩
theorem Held.perm {C : List Po} {X Y : List Dn} (h : Held C X) (hp : X.Perm Y) : Held C Y := ⟨h.rise, fun a s => by rw [h.is, qS_perm hp, vS_perm hp]⟩
theorem getP_cases (l : List Po) (n : Nm) : (getP l n ∈ l ∧ nmP (getP l n) = n) ∨ getP l n = ⟨n.1, n.2, 0, 0, false⟩ := by
  unfold getP
  cases h : l.find? (fun p => decide (nmP p = n)) with
  | none => exact .inr rfl
  | some p => exact .inl ⟨List.mem_of_find?_eq_some h, by simpa using List.find?_some h⟩
theorem getP_ok {l : List Po} (h : riseP l = true) (n : Nm) : okP (getP l n) = true := by
  rcases getP_cases l n with ⟨h1, _⟩ | h1
  · exact rise_ok h _ h1
  · rw [h1]; rfl
theorem getP_nm (l : List Po) (n : Nm) : nmP (getP l n) = n := by
  rcases getP_cases l n with ⟨_, h1⟩ | h1
  · exact h1
  · rw [h1]; rfl
theorem getP_over {l : List Po} (h : l.any (·.over) = false) (n : Nm) : (getP l n).over = false := by
  rcases getP_cases l n with ⟨h1, _⟩ | h1
  · have := List.any_eq_false.1 h _ h1
    simpa using this
  · rw [h1]
theorem valF_val {f : Dn} (h : (valF f).2 = true) : (valF f).1 = sgn f * f.price := by
  unfold valF mulF at *
  split
  · rfl
  · rename_i h2; rw [if_neg h2] at h; exact absurd h (by simp)
theorem pos_val {b : Bk} (hr : rightBk b = true) {a s : Bs} (h : (posF b a s).over = false) : posF b a s = ⟨a, s, qS a s b.fills, vS a s b.fills, false⟩ := by
  unfold posF at *
  rw [if_pos hr] at *
  unfold posG at *
  split
  · rename_i h2
    simp only [Bool.and_eq_true, List.all_eq_true] at h2
    rw [sumF_val h2.2.1, sumF_val h2.2.2]
    have e : (matsF a s b.fills).map (fun f => (valF f).1) = (matsF a s b.fills).map fun f => sgn f * f.price := List.map_congr_left fun f hf => valF_val (h2.1 f hf)
    rw [e]; rfl
  · rename_i h2; rw [if_neg h2] at h; exact absurd h (by simp)
theorem has_val {b : Bk} {C : List Po} {X : List Dn} (hr : rightBk b = true) (hh : Held C X) {a s : Bs} (h : (hasR b C a s).over = false) : hasR b C a s = ⟨a, s, qS a s b.fills + qS a s X, vS a s b.fills + vS a s X, false⟩ := by
  have e := (has_eq (b := b) (getP_ok hh.rise (a, s)) (getP_nm C (a, s))).trans (tog_two (pos_okP b a s) (getP_ok hh.rise (a, s)))
  rw [e] at h ⊢
  clear e
  split
  · rename_i h2; rw [if_pos h2] at h; exact absurd h (by simp)
  · rename_i h2
    rw [if_neg h2] at h
    simp only [Bool.or_eq_true, not_or, Bool.not_eq_true] at h2
    rw [pos_val hr h2.1, hh.is] at h ⊢
    split
    · rfl
    · rename_i h3; rw [if_neg h3] at h; exact absurd h (by simp)
/-- What is had. -/
theorem has_twin {b n : Bk} {C D : List Po} {X Y : List Dn} (hb : rightBk b = true) (hn : rightBk n = true) (ht : Twin X b n) (hc : Held C (X ++ Y)) (hd : Held D Y) {a s : Bs} (h1 : (hasR b D a s).over = false) (h2 : (hasR n C a s).over = false) : hasR b D a s = hasR n C a s := by
  rw [has_val hb hd h1, has_val hn hc h2, qS_app, vS_app, qS_perm ht.fills.perm, vS_perm ht.fills.perm, qS_app, vS_app]
  congr 1 <;> omega
theorem fill_one {fin : Bool} {a s : Bs} {f : Dn} (h : fin = true) : fillA fin a s f = (qS a s [f], -qS a s [f]) := by
  unfold fillA qS matsF
  by_cases c : f.live = true ∧ f.acc = a ∧ f.sym = s
  · rw [if_pos c, List.filter_cons_of_pos (matB_iff.2 c)]
    simp only [List.filter_nil, List.map_cons, List.map_nil, sumL, sgn, h]
    cases f.buy <;> simp
  · have : matB a s f = false := by cases hm : matB a s f with
      | false => rfl
      | true => exact absurd (matB_iff.1 hm) c
    rw [if_neg c, List.filter_cons_of_neg (by simp [this])]
    simp [sumL]
theorem qS_cons {a s : Bs} (f : Dn) (X : List Dn) : qS a s (f :: X) = qS a s [f] + qS a s X := qS_app [f] X
theorem fills_twin {b n : Bk} (hc : n.clock = b.clock) (hk : b.clock ≤ 4611686018427387904) {c : Int} (e : c = b.clock) {X F G : List Dn} (h : Drp c X F G) (hf : ∀ f ∈ F, 0 ≤ f.time ∧ f.time ≤ b.clock) {a s : Bs} : sumW (fillsA b a s F) = ((sumW (fillsA n a s G)).1 + qS a s X, (sumW (fillsA n a s G)).2 - qS a s X) := by
  induction h with
  | nil => rfl
  | keep f _ ih =>
    have ih := ih fun g hg => hf g (List.mem_cons_of_mem _ hg)
    have e2 : finalF b f = finalF n f := by unfold finalF; rw [hc]
    simp only [fillsA, List.map_cons, sumW] at *
    rw [ih, e2]
    refine Prod.ext ?_ ?_ <;> dsimp only <;> omega
  | @drop f X F G ht _ ih =>
    have ih := ih fun g hg => hf g (List.mem_cons_of_mem _ hg)
    have h1 := hf f (by simp)
    have e2 : finalF b f = true := by rw [final_old h1.1 h1.2 hk]; simp; omega
    simp only [fillsA, List.map_cons, sumW] at *
    rw [ih, fill_one e2, qS_cons f X]
    refine Prod.ext ?_ ?_ <;> dsimp only <;> omega
theorem worst_twin {b n : Bk} {C : List Po} {X : List Dn} (hb : rightBk b = true) (hn : rightBk n = true) (ht : Twin X b n) (hc : Held C X) (a s : Bs) : worstR n C a s = ofF b a s := by
  have hk := right_clock hb
  have hq := getP_ok hc.rise (a, s)
  unfold worstR
  rw [hc.is] at *
  simp only [okP, Bool.and_eq_true] at hq
  have hq := numB_iff.1 hq.1.1
  have h := of_bnd (b := n) (acc := a) (sym := s)
  rw [if_neg (by simp)]
  dsimp only
  rw [wrap64_id (by omega) (by omega), plus_eq h (m := 4611686018427387904) (by simp only [Bnd]; omega) (by omega)]
  unfold ofF
  rw [if_pos hn, if_pos hb]
  unfold ofE
  rw [ht.orders, fills_twin ht.clock hk.2 rfl ht.fills (fun f hf => ⟨(right_amounts hb f hf).2.2.1, (right_amounts hb f hf).2.2.2⟩)]
  refine Prod.ext ?_ ?_ <;> dsimp only <;> omega
/-- A close. -/
theorem close_held {b : Bk} (hr : rightBk b = true) (h : (allP (doneB b)).any (·.over) = false) : Held (allP (doneB b)) (finsB b) := ⟨all_rise _, fun a s => by
  have h1 := getP_over h (a, s)
  rw [get_all (done_right hr) a s] at *
  rw [pos_val (done_right hr) h1]; rfl⟩
end Go.Bk
end
section
set_option linter.unusedVariables false
set_option linter.unusedSimpArgs false
namespace Go.Proofs.YtajeeghgiilhiaaGreat
open Go Go.Abs Go.RowKit Go.Bk
end Go.Proofs.YtajeeghgiilhiaaGreat
end
section
set_option linter.unusedVariables false
set_option linter.unusedSimpArgs false
namespace Go.Proofs.YtajeeghgiilhiaaGreat
open Go Go.Abs Go.RowKit Go.Bk
theorem nl {v : Bool} {p : Prop} (h : v = true) (h2 : ¬ p) : ¬ (v = false ∨ p) := by simp [h, h2]

end Go.Proofs.YtajeeghgiilhiaaGreat
end
section
set_option linter.unusedVariables false
set_option linter.unusedSimpArgs false
namespace Go.Proofs.YtajeeghgiilhiaaGreat
open Go Go.Abs Go.RowKit Go.Bk
end Go.Proofs.YtajeeghgiilhiaaGreat
end
section
set_option linter.unusedVariables false
set_option linter.unusedSimpArgs false
namespace Go.Proofs.YtajeeghgiilhiaaGreat
open Go Go.Abs Go.RowKit Go.Bk
end Go.Proofs.YtajeeghgiilhiaaGreat
end
section
set_option linter.unusedVariables false
set_option linter.unusedSimpArgs false
namespace Go.Proofs.YtajeeghgiilhiaaGreat
open Go Go.Abs Go.RowKit Go.Bk
theorem rclose_no {b : Bk} {e : Int} (h : closeF b = (b, [], e)) (ho : b.orders.length ≤ 1000000) (hf : b.fills.length ≤ 1000000) (hi : b.ids.length ≤ 1000000) : ACalls E 13 [bkV b] (fun r t => r = .tup [bkV b, posV [], i64 e] ∧ t = []) := by
  have := rclose_c b ho hf hi
  rwa [h] at this
theorem rclose_yes {b n : Bk} {l : List Po} (h : closeF b = (n, l, 0)) (ho : b.orders.length ≤ 1000000) (hf : b.fills.length ≤ 1000000) (hi : b.ids.length ≤ 1000000) : ACalls E 13 [bkV b] (fun r t => r = .tup [bkV n, posV l, i64 0] ∧ t = []) := by
  have := rclose_c b ho hf hi
  rwa [h] at this
theorem rhas_n (bk : Bk) (a s : Bs) (ho : bk.orders.length ≤ 1000000) (hf : bk.fills.length ≤ 1000000) (hi : bk.ids.length ≤ 1000000) : ACalls E 24 [bkV bk, .nilS, str a, str s] (fun r t => r = poV (hasR bk [] a s) ∧ t = []) := by
  intro w im vs h0 hg h1 h2
  refine rhas_c bk [] a s (by simp) ho hf hi w im vs h0 hg h1 ?_
  obtain ⟨hn, hx⟩ := h2
  refine ⟨hn, fun i x v h3 h4 => ?_⟩
  rcases i with _ | _ | i
  · exact hx 0 x v h3 h4
  · cases h3; exact (hx 1 .nilS v rfl h4).of_nil
  · exact hx (i + 2) x v h3 h4
end Go.Proofs.YtajeeghgiilhiaaGreat
end
section
/- Days: what is carried and what is in the book together. No program. -/
set_option linter.unusedVariables false
set_option linter.unusedSimpArgs false
namespace Go.Bk
open Go Go.Abs
theorem get_mem {l : List Po} (h : riseP l = true) {p : Po} (hp : p ∈ l) : getP l (nmP p) = p := by
  have hs := same_one (rise_rising h) hp
  unfold getP
  have hf : l.find? (fun q => decide (nmP q = nmP p)) = some p := by
    unfold sameF at hs
    rw [← List.head?_filter, hs]; rfl
  rw [hf]
theorem get_sum {l : List Po} (h : riseP l = true) (ho : ∀ p ∈ l, p.over = false) (n : Nm) : getP l n = ⟨n.1, n.2, sumQ l n, sumV l n, false⟩ := by
  by_cases hm : ∃ p ∈ l, nmP p = n
  · obtain ⟨p, hp, rfl⟩ := hm
    have hs := same_one (rise_rising h) hp
    rw [get_mem h hp]
    unfold sumQ sumV
    rw [hs]
    have := ho p hp
    obtain ⟨a, s, q, v, o⟩ := p
    simp only at this
    simp [sumL, nmP, this]
  · have hs : sameF n l = [] := by
      unfold sameF
      rw [List.filter_eq_nil_iff]
      intro p hp
      simp only [decide_eq_true_eq]
      exact fun e => hm ⟨p, hp, e⟩
    have hf : l.find? (fun p => decide (nmP p = n)) = none := by
      rw [List.find?_eq_none]
      intro p hp
      simp only [decide_eq_true_eq]
      exact fun e => hm ⟨p, hp, e⟩
    unfold getP sumQ sumV
    rw [hf, hs]; rfl
theorem Held.overs {C : List Po} {X : List Dn} (h : Held C X) : ∀ p ∈ C, p.over = false := fun p hp => by
  have e := h.is (nmP p).1 (nmP p).2
  rw [show ((nmP p).1, (nmP p).2) = nmP p from rfl, get_mem h.rise hp] at e
  rw [e]
theorem Held.sums {C : List Po} {X : List Dn} (h : Held C X) (a s : Bs) : sumQ C (a, s) = qS a s X ∧ sumV C (a, s) = vS a s X := by
  have e := h.is a s
  rw [get_sum h.rise h.overs] at e
  injection e with _ _ e1 e2
  exact ⟨e1, e2⟩
theorem tog_okP (n : Nm) (l : List Po) : okP (togF n l) = true := by
  unfold togF
  split
  · simp [okP, numB]
  · split
    · simp [okP, sumF_num]
    · simp [okP, numB]
theorem merged_rise {l all : List Po} (h : Merged l all) : riseP l = true := by
  refine rise_of (fun p hp => ?_) h.rise
  have := ((h.mem p).1 hp).2
  rw [this]
  exact tog_okP _ _
theorem carry_nine {a b : List Po} (ha : riseP a = true) (hb : riseP b = true) (h : (carryF a b).2 ≠ 0) : (carryF a b).2 = 9 := by
  have hr : [a, b].all riseP = true := by simp [ha, hb]
  have he : (mergeF [a, b]).2 = 0 := merge_ok hr
  unfold carryF at *
  rw [if_neg (by rw [he]; simp)] at *
  split
  · rfl
  · rename_i h2; rw [if_neg h2] at h; exact absurd rfl h
theorem carry_held {C D : List Po} {X Y : List Dn} (hc : Held C X) (hd : Held D Y) (h : (carryF C D).2 = 0) : Held (carryF C D).1 (X ++ Y) := by
  obtain ⟨h1, h2⟩ := carry_ok h
  refine ⟨merged_rise h1, fun a s => ?_⟩
  rw [get_sum (merged_rise h1) h2]
  have hs := merged_sum h1 h2 (a, s)
  rw [hs.1, hs.2.1, sumQ_app, sumV_app, (hc.sums a s).1, (hc.sums a s).2, (hd.sums a s).1, (hd.sums a s).2, qS_app, vS_app]
structure Inv (W D : Bk) (C : List Po) : Prop where
  rw : rightBk W = true
  rd : rightBk D = true
  held : ∃ X, Twin X W D ∧ Held C X
theorem inv_start : Inv emptyB emptyB [] := ⟨empty_right, empty_right, [], ⟨rfl, rfl, rfl, rfl, .nil⟩, held_nil⟩
theorem Inv.come {W D : Bk} {C : List Po} (h : Inv W D C) (x : Ex) : Inv (comeF W x).1 (comeF D x).1 C := by
  obtain ⟨X, ht, hc⟩ := h.held
  exact ⟨comeF_right h.rw, comeF_right h.rd, X, (come_twin ht h.rw h.rd x).2.1, hc⟩
theorem Twin.trans {X Y : List Dn} {W D N : Bk} (h : Twin X W D) (h2 : Twin Y D N) : ∃ Z, Z.Perm (X ++ Y) ∧ Twin Z W N := by
  have h3 := h2.fills
  rw [h.clock] at h3
  obtain ⟨Z, hz, hd⟩ := h.fills.trans h3
  exact ⟨Z, hz, h2.orders.trans h.orders, h2.ids.trans h.ids, h2.clock.trans h.clock, h2.bad.trans h.bad, hd⟩
theorem Inv.close {W D : Bk} {C : List Po} (h : Inv W D C) (ho : (allP (doneB D)).any (·.over) = false) (hc : (carryF C (allP (doneB D))).2 = 0) : Inv W (nB D) (carryF C (allP (doneB D))).1 := by
  obtain ⟨X, ht, hh⟩ := h.held
  obtain ⟨Z, hz, hd⟩ := ht.trans (nB_twin h.rd)
  exact ⟨h.rw, nB_right h.rd, Z, hd, (carry_held hh (close_held h.rd ho) hc).perm hz.symm⟩
theorem Inv.has {W D : Bk} {C : List Po} (h : Inv W D C) (a s : Bs) (h1 : (hasR W [] a s).over = false) (h2 : (hasR D C a s).over = false) : hasR W [] a s = hasR D C a s := by
  obtain ⟨X, ht, hh⟩ := h.held
  exact has_twin (Y := []) h.rw h.rd ht (by simpa using hh) held_nil h1 h2
theorem Inv.worst {W D : Bk} {C : List Po} (h : Inv W D C) (a s : Bs) : ofF W a s = worstR D C a s := by
  obtain ⟨X, ht, hh⟩ := h.held
  exact (worst_twin h.rw h.rd ht hh a s).symm
theorem Inv.bad {W D : Bk} {C : List Po} (h : Inv W D C) : D.bad = W.bad := by
  obtain ⟨X, ht, hh⟩ := h.held
  exact ht.bad
theorem Inv.nine {W D : Bk} {C : List Po} (h : Inv W D C) (hc : (carryF C (allP (doneB D))).2 ≠ 0) : (carryF C (allP (doneB D))).2 = 9 := by
  obtain ⟨X, ht, hh⟩ := h.held
  exact carry_nine hh.rise (all_rise _) hc
theorem close_nine (b : Bk) (hr : rightBk b = true) : closeF b = (b, [], 9) ∨ (closeF b = (nB b, allP (doneB b), 0) ∧ (allP (doneB b)).any (·.over) = false) := by
  cases h2 : (allP (doneB b)).any (·.over) with
  | true => exact .inl (dayc_over hr h2)
  | false => exact .inr ⟨dayc_ok hr h2, rfl⟩
theorem right_lens2 {b : Bk} (hr : rightBk b = true) : b.orders.length ≤ 64 ∧ b.fills.length ≤ 256 ∧ b.ids.length ≤ 256 := by
  have h := (rightBk_iff.1 hr).1
  exact ⟨right_len h.1, h.2.1, h.2.2.1⟩
end Go.Bk
end
section
set_option linter.unusedVariables false
set_option linter.unusedSimpArgs false
namespace Go.Proofs.YtajeeghgiilhiaaGreat
open Go Go.Abs Go.RowKit Go.Bk
theorem carry_le (p q : List Po) : (carryF p q).1.length ≤ p.length + q.length := by
  have h := merge_len [p, q]
  simp only [List.flatten_cons, List.flatten_nil, List.append_nil, List.length_append] at h
  unfold carryF; split
  · simp
  · split
    · simp
    · exact h

set_option maxHeartbeats 64000000 in
set_option maxRecDepth 8000 in
theorem rollDays_c (l : List Ex) (cs : List Bool) (hl : l.length ≤ 9223372036854775807) (hc : cs.length ≤ 9223372036854775807) : ACalls E 7 [exsV l, .sl none 1 (cs.map bl)] (fun r t => r = bl true ∧ t = []) := by -- checkroll/checkrolllaw25.RollDays
  refine ACalls.of_awp (n := 148) (rs := [.tmp 4]) Tryz.func7 rfl Tryz.ntmps7 rfl ?_
  repeat' (first
    | refine AWP.seqk fun K hK => ?_
    | (
        refine AWP.here 10 28 10 rfl ?_
        obtain ⟨x, hb⟩ : ∃ x, l[i]? = some x := ⟨_, List.getElem?_eq_getElem (by omega)⟩
        have hI1 := hI.come x
        have w3 := right_lens2 hI1.rw
        have w4 := right_lens2 hI1.rd
        have w5 := allP_len (doneB (comeF D x).1)
        have w6 : (doneB (comeF D x).1).fills.length ≤ ((comeF D x).1).fills.length := List.length_filter_le _ _
        have w7 : (nB (comeF D x).1).orders.length = ((comeF D x).1).orders.length := rfl
        have w8 : (nB (comeF D x).1).ids.length = ((comeF D x).1).ids.length := rfl
        have w9 : (nB (comeF D x).1).fills.length ≤ ((comeF D x).1).fills.length := List.length_filter_le _ _
        have w10 := carry_le C (allP (doneB (comeF D x).1))
        refine AWP.regionO [0, 1, 2, 3, 4, 5, 6, 7, 8, 9] [] (by kernel_rfl) (by kernel_rfl) rfl ?_; simp only [go_sem, decide_true, ne_eq, not_true_eq_false, decide_false, Bool.not_true, Bool.not_false])
    | (
        refine AWP.here 18 73 3 rfl ?_
        have hz := hI1.nine (by assumption)
        refine AWP.region ?_; simp only [go_sem, decide_true, ne_eq, not_true_eq_false, decide_false, Bool.not_true, Bool.not_false])
    | (
        refine AWP.here 19 75 4 rfl ?_
        have hI2 := hI1.close hov (by simpa using ‹_›)
        refine AWP.region ?_; simp only [go_sem, decide_true, ne_eq, not_true_eq_false, decide_false, Bool.not_true, Bool.not_false])
    | (
        refine AWP.here 20 77 29 rfl ?_
        (first | (have hq := hov; clear hq) | (have hI2 := hI1))
        have n8 := hI2.has x.acc x.sym
        have n9 := hI2.worst x.acc x.sym
        have n10 := hI2.bad
        refine AWP.regionAs [0, 1, 2, 3, 4, 5, 6, 7, 8, 9, 10, 12, 13, 14, 15, 16, 17, 18, 19, 20, 21, 22, 23, 25, 26, 11, 24, 27, 28] [[], [], [], [1, 2], [1, 2, 3], [1, 2, 3, 4], [], [], [6, 7], [6, 7, 8], [6, 7, 8, 9], [0, 1, 2, 3, 4, 5, 6, 7, 8, 9, 10], [], [], [], [], [14, 15], [14, 15, 16], [14, 15, 16, 17], [], [], [19, 20], [19, 20, 21], [19, 20, 21, 22], [0, 1, 2, 3, 4, 5, 6, 7, 8, 9, 10, 11, 12, 13, 14, 15, 16, 17, 18, 19, 20, 21, 22, 23], [], [], [0, 1, 2, 3, 4, 5, 6, 7, 8, 9, 10, 11, 12, 13, 14, 15, 16, 17, 18, 19, 20, 21, 22, 23, 24, 25, 26], [0, 1, 2, 3, 4, 5, 6, 7, 8, 9, 10, 11, 12, 13, 14, 15, 16, 17, 18, 19, 20, 21, 22, 23, 24, 25, 26, 27]] [14, 15] (by kernel_rfl) (by kernel_rfl) (by decide) rfl ?_; simp only [go_sem, decide_true, ne_eq, not_true_eq_false, decide_false, Bool.not_true, Bool.not_false])
    | (refine AWP.region ?_; simp only [go_sem, decide_true, ne_eq, not_true_eq_false, decide_false, Bool.not_true, Bool.not_false])
    | (refine AWP.here 10 28 10 rfl ?_; refine AWP.regionO [0, 1, 2, 3, 4, 5, 6, 7, 8, 9] [] (by kernel_rfl) (by kernel_rfl) rfl ?_; simp only [go_sem, decide_true, ne_eq, not_true_eq_false, decide_false, Bool.not_true, Bool.not_false])
    | (refine AWP.here 11 37 10 rfl ?_; refine AWP.regionO [0, 1, 2, 3, 4, 5, 6, 7, 8, 9] [] (by kernel_rfl) (by kernel_rfl) rfl ?_; simp only [go_sem, decide_true, ne_eq, not_true_eq_false, decide_false, Bool.not_true, Bool.not_false])
    | (refine AWP.here 20 77 29 rfl ?_; refine AWP.regionAs [0, 1, 2, 3, 4, 5, 6, 7, 8, 9, 10, 12, 13, 14, 15, 16, 17, 18, 19, 20, 21, 22, 23, 25, 26, 11, 24, 27, 28] [[], [], [], [1, 2], [1, 2, 3], [1, 2, 3, 4], [], [], [6, 7], [6, 7, 8], [6, 7, 8, 9], [0, 1, 2, 3, 4, 5, 6, 7, 8, 9, 10], [], [], [], [], [14, 15], [14, 15, 16], [14, 15, 16, 17], [], [], [19, 20], [19, 20, 21], [19, 20, 21, 22], [0, 1, 2, 3, 4, 5, 6, 7, 8, 9, 10, 11, 12, 13, 14, 15, 16, 17, 18, 19, 20, 21, 22, 23], [], [], [0, 1, 2, 3, 4, 5, 6, 7, 8, 9, 10, 11, 12, 13, 14, 15, 16, 17, 18, 19, 20, 21, 22, 23, 24, 25, 26], [0, 1, 2, 3, 4, 5, 6, 7, 8, 9, 10, 11, 12, 13, 14, 15, 16, 17, 18, 19, 20, 21, 22, 23, 24, 25, 26, 27]] [14, 15] (by kernel_rfl) (by kernel_rfl) (by decide) rfl ?_; simp only [go_sem, decide_true, ne_eq, not_true_eq_false, decide_false, Bool.not_true, Bool.not_false])
    | (refine AWP.here 23 122 26 rfl ?_; refine AWP.regionAs [0, 1, 2, 3, 4, 5, 6, 7, 8, 9, 10, 12, 13, 14, 15, 16, 17, 18, 19, 20, 21, 22, 23, 11, 24, 25] [[], [], [], [1, 2], [1, 2, 3], [1, 2, 3, 4], [], [], [6, 7], [6, 7, 8], [6, 7, 8, 9], [0, 1, 2, 3, 4, 5, 6, 7, 8, 9, 10], [], [], [], [], [14, 15], [14, 15, 16], [14, 15, 16, 17], [], [], [19, 20], [19, 20, 21], [19, 20, 21, 22], [0, 1, 2, 3, 4, 5, 6, 7, 8, 9, 10, 11, 12, 13, 14, 15, 16, 17, 18, 19, 20, 21, 22, 23], [0, 1, 2, 3, 4, 5, 6, 7, 8, 9, 10, 11, 12, 13, 14, 15, 16, 17, 18, 19, 20, 21, 22, 23, 24]] [] (by kernel_rfl) (by kernel_rfl) (by decide) rfl ?_; simp only [go_sem, decide_true, ne_eq, not_true_eq_false, decide_false, Bool.not_true, Bool.not_false])
    | (refine hK _ ?_; clear hK K)
    | refine AWP.block ?_
    | refine AWP.cond rfl (fun c => ?_) (fun c => ?_) <;> first | exact Bool.noConfusion c | (try simp only [dD] at c)
    | refine AWP.skip ?_
    | (refine AWP.exit ?_; simp only [go_sem, decide_true, ne_eq, not_true_eq_false, decide_false, Bool.not_true, Bool.not_false])
    | (refine ACall.one (awake25_c) (by kernel_rfl) rfl ?_; simp only [go_sem, decide_true, ne_eq, not_true_eq_false, decide_false, Bool.not_true, Bool.not_false])
    | (refine ACall.one (come_c W x (by omega) (by omega) (by omega)) (by kernel_rfl) rfl ?_; simp only [go_sem, decide_true, ne_eq, not_true_eq_false, decide_false, Bool.not_true, Bool.not_false])
    | (refine ACall.one (come_c D x (by omega) (by omega) (by omega)) (by kernel_rfl) rfl ?_; simp only [go_sem, decide_true, ne_eq, not_true_eq_false, decide_false, Bool.not_true, Bool.not_false])
    | (rcases close_nine (comeF D x).1 hI1.rd with hcl | ⟨hcl, hov⟩ <;> first | (refine ACall.one (rclose_no hcl (by omega) (by omega) (by omega)) (by kernel_rfl) rfl ?_; simp only [go_sem, decide_true, ne_eq, not_true_eq_false, decide_false, Bool.not_true, Bool.not_false]) | (refine ACall.one (rclose_yes hcl (by omega) (by omega) (by omega)) (by kernel_rfl) rfl ?_; simp only [go_sem, decide_true, ne_eq, not_true_eq_false, decide_false, Bool.not_true, Bool.not_false]))
    | (refine ACall.one (rcarry_c C (allP (doneB (comeF D x).1)) (by omega) (by omega)) (by kernel_rfl) rfl ?_; simp only [go_sem, decide_true, ne_eq, not_true_eq_false, decide_false, Bool.not_true, Bool.not_false])
    | (refine ACall.one (rhas_n (comeF W x).1 x.acc x.sym (by omega) (by omega) (by omega)) (by kernel_rfl) rfl ?_; simp only [go_sem, decide_true, ne_eq, not_true_eq_false, decide_false, Bool.not_true, Bool.not_false])
    | (refine ACall.one (rhas_c (nB (comeF D x).1) (carryF C (allP (doneB (comeF D x).1))).1 x.acc x.sym (by omega) (by omega) (by omega) (by omega)) (by kernel_rfl) rfl ?_; simp only [go_sem, decide_true, ne_eq, not_true_eq_false, decide_false, Bool.not_true, Bool.not_false])
    | (refine ACall.one (rhas_c (comeF D x).1 C x.acc x.sym (by omega) (by omega) (by omega) (by omega)) (by kernel_rfl) rfl ?_; simp only [go_sem, decide_true, ne_eq, not_true_eq_false, decide_false, Bool.not_true, Bool.not_false])
    | (refine ACall.one (eof_c (comeF W x).1 x.acc x.sym (by omega) (by omega) (by omega)) (by kernel_rfl) rfl ?_; simp only [go_sem, decide_true, ne_eq, not_true_eq_false, decide_false, Bool.not_true, Bool.not_false])
    | (refine ACall.one (rworst_c (nB (comeF D x).1) (carryF C (allP (doneB (comeF D x).1))).1 x.acc x.sym (by omega) (by omega) (by omega) (by omega)) (by kernel_rfl) rfl ?_; simp only [go_sem, decide_true, ne_eq, not_true_eq_false, decide_false, Bool.not_true, Bool.not_false])
    | (refine ACall.one (rworst_c (comeF D x).1 C x.acc x.sym (by omega) (by omega) (by omega) (by omega)) (by kernel_rfl) rfl ?_; simp only [go_sem, decide_true, ne_eq, not_true_eq_false, decide_false, Bool.not_true, Bool.not_false])
    | (refine AGuard.splitN (fun h => ?_) (fun h => ?_) <;> simp only [h, go_sem, decide_true, ne_eq, not_true_eq_false, decide_false, Bool.not_true, Bool.not_false] <;> (try simp only [dD] at h))
    | (refine AGuard.split (fun h => ?_) (fun h => ?_) <;> simp only [h, go_sem, decide_true, ne_eq, not_true_eq_false, decide_false, Bool.not_true, Bool.not_false] <;> (try simp only [dD] at h))
    | (refine AGet.haveM (by assumption) ?_; (try simp only [go_sem, decide_true, ne_eq, not_true_eq_false, decide_false, Bool.not_true, Bool.not_false]))
    | (refine AGet.have' (by assumption) ?_; (try simp only [go_sem, decide_true, ne_eq, not_true_eq_false, decide_false, Bool.not_true, Bool.not_false]))
    | ((first | refine AGet.nth ?_ (fun b hb => ?_) | refine AGet.nth1 ?_ (fun b hb => ?_) | with_reducible refine And.intro ?_ ?_); (focus (first | omega | assumption | exact List.length_pos_iff.2 (by assumption) | (simp only [List.length_append, List.length_cons, List.length_nil, List.length_map, List.length_take, List.length_drop] at *; omega) | (rw [wrap64_id (by omega) (by omega)]; omega) | (simp; done) | (simp [spare_len]; done) | (exact ⟨by omega, by omega⟩))); (try simp only [hb, go_sem, decide_true, ne_eq, not_true_eq_false, decide_false, Bool.not_true, Bool.not_false]))
    | (
        refine AWP.here 8 21 4 rfl ?_
        refine AWP.nilPlainLeaf 0 0 8 _ rfl rfl ?_
        refine AWP.nilPlainLeaf 0 1 9 _ rfl rfl ?_
        refine AWP.nilPlainLeaf 0 2 1 _ rfl rfl ?_
        refine AWP.nilPlainLeaf 1 0 8 _ rfl rfl ?_
        refine AWP.nilPlainLeaf 1 1 9 _ rfl rfl ?_
        refine AWP.nilPlainLeaf 1 2 1 _ rfl rfl ?_
        refine AWP.nilPlain 7 5 rfl ?_
        simp only [go_sem, decide_true, ne_eq, not_true_eq_false, decide_false, Bool.not_true, Bool.not_false]
        refine AWP.loopM (ι := Nat × Bk × Bk × List Po) [4, 9, 10, 11, 12, 13, 14, 15, 21, 22, 23, 24, 25, 26, 27, 28, 29, 30, 31, 32, 33, 34, 35, 36, 37, 38, 39, 40, 41, 42, 43, 44, 45, 46, 47, 48, 49, 50, 51, 52, 53, 54, 55, 56, 57, 58, 59, 60, 61, 62, 63, 64, 65, 66, 67, 68, 69, 70, 71, 72, 73, 74, 75, 76, 77, 78, 79, 80, 81, 82, 83, 84, 85, 86, 87, 88, 89, 90, 91, 92, 93, 94, 95, 96, 97, 98, 99, 100, 101, 102, 103, 104, 105, 106, 107, 108, 109, 110, 111, 112, 113, 114, 115, 116, 117, 118, 119, 120, 121, 122, 123, 124, 125, 126, 127, 128, 129, 130, 131, 132, 133, 134, 135, 136, 137, 138, 139, 140, 141, 142, 143, 144, 145, 146, 147] (fun ⟨i, W, D, C⟩ => [(8, i64 i), (7, posV C)]) (fun ⟨i, W, D, C⟩ => [some [.agg [odsV W.orders, dnsV W.fills, .sl none 1 (W.ids.map str), i64 W.clock, i64 W.bad]], some [.agg [odsV D.orders, dnsV D.fills, .sl none 1 (D.ids.map str), i64 D.clock, i64 D.bad]]]) (fun ⟨i, W, D, C⟩ => []) (fun ⟨i, W, D, C⟩ => i ≤ l.length ∧ l.length ≤ 40 ∧ C.length ≤ 256 * i ∧ Inv W D C) (fun ⟨i, W, D, C⟩ => l.length - i) ((0, emptyB, emptyB, [])) ?_ ?_ ?_
        · (try simp only [go_sem]); (repeat' (first | refine And.intro ?_ ?_ | exact .inl rfl | exact .inr rfl | exact .inr ⟨rfl, rfl⟩ | trivial | exact .inr (oblA rfl) | exact .inr ⟨rfl, oblA rfl⟩ | exact .inr bel_strs | exact .inr ⟨rfl, bel_strs⟩ | exact .inr ⟨by simp, bel_strs⟩ | (simp; done) | exact .inr ⟨rfl, by simp⟩ | exact .inr ⟨by simp, by simp⟩)); done
        · exact ⟨by omega, by omega, by simp, inv_start⟩
        rintro ⟨i, W, D, C⟩ ⟨h1, h2, h3, hI⟩
        simp only [go_sem, decide_true, ne_eq, not_true_eq_false, decide_false, Bool.not_true, Bool.not_false]
        have w1 := right_lens2 hI.rw
        have w2 := right_lens2 hI.rd)
    | (
        first
        | (refine ⟨(i + 1, (comeF W x).1, (nB (comeF D x).1), (carryF C (allP (doneB (comeF D x).1))).1), ?_, ⟨by show i + 1 ≤ l.length; omega, h2, by show ((carryF C (allP (doneB (comeF D x).1))).1).length ≤ 256 * (i + 1); omega, by exact hI2⟩, by show l.length - (i + 1) < l.length - i; omega⟩
           (try simp only [go_sem]); (try rw [wrap64_id (by omega) (by omega)]); (repeat' (first | refine And.intro ?_ ?_ | exact .inl rfl | exact .inr rfl | exact .inr ⟨rfl, rfl⟩ | trivial | exact .inr (oblA rfl) | exact .inr ⟨rfl, oblA rfl⟩ | exact .inr bel_strs | exact .inr ⟨rfl, bel_strs⟩ | exact .inr ⟨by simp, bel_strs⟩ | (simp; done) | exact .inr ⟨rfl, by simp⟩ | exact .inr ⟨by simp, by simp⟩)); done)
        | (refine ⟨(i + 1, (comeF W x).1, (comeF D x).1, C), ?_, ⟨by show i + 1 ≤ l.length; omega, h2, by show C.length ≤ 256 * (i + 1); omega, by exact hI2⟩, by show l.length - (i + 1) < l.length - i; omega⟩
           (try simp only [go_sem]); (try rw [wrap64_id (by omega) (by omega)]); (repeat' (first | refine And.intro ?_ ?_ | exact .inl rfl | exact .inr rfl | exact .inr ⟨rfl, rfl⟩ | trivial | exact .inr (oblA rfl) | exact .inr ⟨rfl, oblA rfl⟩ | exact .inr bel_strs | exact .inr ⟨rfl, bel_strs⟩ | exact .inr ⟨by simp, bel_strs⟩ | (simp; done) | exact .inr ⟨rfl, by simp⟩ | exact .inr ⟨by simp, by simp⟩)); done))
    | (
        refine AWP.ret ?_
        refine AEnd.is ?_; simp only [go_sem, out_v, out_s, out_n, v_int, v_bool, v_str] <;> (try ((first | rfl | exact absurd n10.symm c | exact absurd (congrArg Prod.snd n9) (c (congrArg Prod.fst n9)) | (simp_all; done) | skip))))
    | (exfalso; simp_all; done)
    | refine AWP.fin (by assumption) ?_
    | fail)


end Go.Proofs.YtajeeghgiilhiaaGreat
end
section
/- How a law's arguments are read: lists of executions, of bytes. -/
namespace Go.Proofs.YtajeeghgiilhiaaGreat
open Go.ChangeShapes Go.WideShapes Go.ChangeAt Go.RowKit Go.Joins Go.Abs Go.Bk
set_option linter.unusedVariables false
set_option linter.unusedSimpArgs false
/-- What the reading of an execution tells. -/
def exIn (x : Ex) : Prop := (x.id.length ≤ 9223372036854775807 ∧ x.ref.length ≤ 9223372036854775807 ∧ x.ord.length ≤ 9223372036854775807 ∧ x.acc.length ≤ 9223372036854775807 ∧ x.sym.length ≤ 9223372036854775807) ∧
  (-9223372036854775808 ≤ x.kind ∧ x.kind ≤ 9223372036854775807) ∧ (-9223372036854775808 ≤ x.qty ∧ x.qty ≤ 9223372036854775807) ∧ (-9223372036854775808 ≤ x.price ∧ x.price ≤ 9223372036854775807) ∧ (-9223372036854775808 ≤ x.time ∧ x.time ≤ 9223372036854775807)
theorem i64_wf {n : Int} (h : (Lit.int .i64 n).wf = true) : -9223372036854775808 ≤ n ∧ n ≤ 9223372036854775807 := by
  simp only [Lit.wf, Bool.and_eq_true, decide_eq_true_eq, IntKind.min, IntKind.max, IntKind.bits, IntKind.signed] at h
  simp at h; omega
section
variable {H : Type} {enc : TypeId × Value → H}
variable {w : World} {r : Reach} {b0 base : Nat} {spare : Nat → Bool} {held : Bool} {v : Value} {d : DataW H} {ps : List MemPlace}
theorem list_map {α : Type} {f : α → AV} {Q : α → Prop} : ∀ {es : List AV}, (∀ y ∈ es, ∃ b, Q b ∧ y = f b) → ∃ L : List α, es = L.map f ∧ ∀ b ∈ L, Q b
  | [], _ => ⟨[], rfl, by simp⟩
  | e :: es, h => by
    obtain ⟨b, hb, rfl⟩ := h e (List.mem_cons_self ..)
    obtain ⟨L, rfl, hL⟩ := list_map (es := es) fun y hy => h y (List.mem_cons_of_mem _ hy)
    exact ⟨b :: L, rfl, fun x hx => by rcases List.mem_cons.1 hx with rfl | hx; exact hb; exact hL x hx⟩
theorem c69 : Tryz.prog.cellsOf 69 = 10 := by kernel_rfl
theorem c5 : Tryz.prog.cellsOf 5 = 1 := by kernel_rfl
set_option maxRecDepth 100000 in
theorem arg_execs (hv : Value.okWide Tryz.prog w r b0 91 v) (hd : DataW.Trod enc Tryz.prog w base spare held 91 v d ps) : ∃ l : List Ex, l.length ≤ 9223372036854775807 ∧ (∀ x ∈ l, exIn x) ∧ VR0 (imOf w) (exsV l) v := by
  obtain ⟨x, hx, h⟩ := arg_slice true Tryz.underlying91 c69 (by decide) (fun h => by cases h)
    (reads_struct Tryz.underlying69 rfl c69 (readsF_cons (reads_string Tryz.underlying9) (by kernel_rfl) rfl (readsF_cons (reads_string Tryz.underlying9) (by kernel_rfl) rfl (readsF_cons (reads_string Tryz.underlying9) (by kernel_rfl) rfl (readsF_cons (reads_string Tryz.underlying9) (by kernel_rfl) rfl (readsF_cons (reads_string Tryz.underlying9) (by kernel_rfl) rfl (readsF_cons (reads_int Tryz.underlying3) (by kernel_rfl) rfl (readsF_cons (reads_bool Tryz.underlying4) (by kernel_rfl) rfl (readsF_cons (reads_int Tryz.underlying2) (by kernel_rfl) rfl (readsF_cons (reads_int Tryz.underlying2) (by kernel_rfl) rfl (readsF_cons (reads_int Tryz.underlying2) (by kernel_rfl) rfl (readsF_nil 10)))))))))))) hv hd
  rcases h with rfl | ⟨es, h1, h2, rfl⟩
  · cases hx; exact ⟨[], by simp, by simp, .sl0 10 none 0⟩
  · obtain ⟨L, rfl, hL⟩ := list_map (f := exV) (Q := exIn) (es := es) (fun y hy => by
      obtain ⟨l, ⟨_, _, ⟨s1, k1, rfl⟩, ⟨_, _, ⟨s2, k2, rfl⟩, ⟨_, _, ⟨s3, k3, rfl⟩, ⟨_, _, ⟨s4, k4, rfl⟩, ⟨_, _, ⟨s5, k5, rfl⟩, ⟨_, _, ⟨n6, k6, rfl⟩, ⟨_, _, ⟨b7, rfl⟩, ⟨_, _, ⟨n8, k8, rfl⟩, ⟨_, _, ⟨n9, k9, rfl⟩, ⟨_, _, ⟨n10, k10, rfl⟩, rfl, rfl⟩, rfl⟩, rfl⟩, rfl⟩, rfl⟩, rfl⟩, rfl⟩, rfl⟩, rfl⟩, rfl⟩, rfl⟩ := h2 y hy
      unfold maxLen at k1 k2 k3 k4 k5
      exact ⟨⟨s1, s2, s3, s4, s5, n6, b7, n8, n9, n10⟩, ⟨⟨k1, k2, k3, k4, k5⟩, i64_wf k6, i64_wf k8, i64_wf k9, i64_wf k10⟩, rfl⟩)
    exact ⟨L, by unfold maxLen at h1; simpa using h1, hL, hx⟩
end

theorem own : ownKnob Tryz.prog.godebug = none := by kernel_rfl
theorem laidOut : laidOutB Tryz.prog = true := by kernel_rfl
end Go.Proofs.YtajeeghgiilhiaaGreat
end
section
/- The reading of books, of orders, of strings. -/
namespace Go.Proofs.YtajeeghgiilhiaaGreat
open Go.ChangeShapes Go.WideShapes Go.ChangeAt Go.RowKit Go.Joins Go.Abs Go.Bk
set_option linter.unusedVariables false
set_option linter.unusedSimpArgs false
section
variable {H : Type} {enc : TypeId × Value → H}
variable {w : World} {r : Reach} {b0 base : Nat} {spare : Nat → Bool} {held : Bool} {v : Value} {d : DataW H} {ps : List MemPlace}
theorem c9 : Tryz.prog.cellsOf 9 = 1 := by kernel_rfl
theorem c26 : Tryz.prog.cellsOf 26 = 5 := by kernel_rfl
theorem sl_of {α : Type} {f : α → AV} {k : Nat} {S : List AV → Prop} {ag : Bool} (hf : ∀ l, S l → ∃ a : α, elOf ag l = f a) {ls : List AV} (h : ls = [.nilS] ∨ ∃ es : List AV, es.length ≤ maxLen ∧ (∀ x ∈ es, ∃ l, S l ∧ x = elOf ag l) ∧ ls = [.sl none k es]) :
    ∃ l : List α, l.length ≤ 9223372036854775807 ∧ ∃ y, ls = [y] ∧ ∀ im v, VR0 im y v → VR0 im (.sl none k (l.map f)) v := by
  rcases h with rfl | ⟨es, h1, h2, rfl⟩
  · exact ⟨[], by simp, _, rfl, fun im v hv => VR0.of_nil hv⟩
  · obtain ⟨L, rfl, _⟩ := list_map (f := f) (Q := fun _ => True) (es := es) (fun y hy => by
      obtain ⟨l, hl, rfl⟩ := h2 y hy
      obtain ⟨a, ha⟩ := hf l hl
      exact ⟨a, trivial, ha⟩)
    exact ⟨L, by unfold maxLen at h1; simpa using h1, _, rfl, fun im v hv => hv⟩
theorem c4 : Tryz.prog.cellsOf 4 = 1 := by kernel_rfl
set_option maxRecDepth 100000 in
theorem arg_bools (hv : Value.okWide Tryz.prog w r b0 92 v) (hd : DataW.Trod enc Tryz.prog w base spare held 92 v d ps) : ∃ l : List Bool, l.length ≤ 9223372036854775807 ∧ VR0 (imOf w) (.sl none 1 (l.map bl)) v := by
  obtain ⟨x, hx, h⟩ := arg_slice false Tryz.underlying92 c4 (by decide) (fun _ => rfl) (reads_bool Tryz.underlying4) hv hd
  obtain ⟨l, hl, y, hy, h2⟩ := sl_of (f := bl) (ls := [x]) (k := 1) (ag := false) (S := fun l => ∃ b, l = [bl b]) (fun l h => by obtain ⟨s, rfl⟩ := h; exact ⟨s, rfl⟩) (by
    rcases h with rfl | ⟨es, h1, h2, rfl⟩
    · exact .inl rfl
    · exact .inr ⟨es, h1, h2, rfl⟩)
  cases hy
  exact ⟨l, hl, h2 _ _ hx⟩
end
end Go.Proofs.YtajeeghgiilhiaaGreat
end
section
/- RollDays: what was carried and what is in the book together is what all would be in one book. No condition. -/
namespace Go.Proofs.YtajeeghgiilhiaaGreat
open Go.ChangeShapes Go.WideShapes Go.ChangeAt Go.RowKit Go.Joins Go.Abs Go.Bk
set_option linter.unusedVariables false
set_option linter.unusedSimpArgs false

set_option maxRecDepth 100000 in
theorem rollDays_lifted (os : Os) (started : os.Started) (H : Type) (enc : TypeId × Value → H) :
    ReturnsInHanded {} Tryz.checked os 7 .any (Rows.rollDaysSpec.pre6 enc Tryz.prog Tryz.f7 Rows.rollDaysRow.domain false) (Rows.rollDaysSpec.post enc Tryz.prog Tryz.f7 false true false false) := by
  refine returnsInHanded_of_change (C := Tryz.checked) own started (by kernel_rfl) Tryz.func7
    (ChangeSpec.witness6 (enc := enc) (C := Tryz.checked) false ⟨#[], #[.slice none 0 0, .slice none 0 0], []⟩ 8 (by kernel_rfl) (by kernel_rfl) (by kernel_rfl) (by kernel_rfl)) ?_
  intro W base args ds gs before hval0 hW hcnd _
  have hval : ∀ (j : Nat) t v, Tryz.f7.params[j]? = some t → args[j]? = some v → Value.okWide Tryz.prog W .any base t v := hval0
  have hW' := hW
  obtain ⟨p, q, hA0, hV, rfl, hfz, hnd⟩ := hW
  have hA : DataW.TrodAll enc Tryz.prog W 0 (fun _ => true) true Tryz.f7.params.toList args.toList ds p := hA0
  rw [Tryz.params7] at hA hval
  obtain ⟨rfl, rfl⟩ := trodVars_none hV
  obtain ⟨v0, vs0, d0, ds0, p0, q0, e0, rfl, rfl, h0, hA⟩ := trodAll_cons hA
  obtain ⟨v1, vs1, d1, ds1, p1, q1, rfl, rfl, rfl, h1, hA⟩ := trodAll_cons hA
  obtain ⟨rfl, rfl, rfl⟩ := trodAll_nil hA
  have hargs : args = #[v0, v1] := by apply Array.ext'; simpa using e0
  subst hargs
  obtain ⟨l0, k0, q0', x0⟩ := arg_execs (hval 0 91 v0 rfl rfl) h0
  obtain ⟨l1, k1, x1⟩ := arg_bools (hval 1 92 v1 rfl rfl) h1
  exact (calls_law (E := E) trivial (fun g cs e => by simp [E] at e) (rollDays_c l0 l1 k0 k1) (pw0_cons x0 (pw0_cons x1 pw0_nil))).mono fun e W' ⟨he, hB⟩ => ⟨_, he, law_post laidOut (by kernel_rfl) rfl rfl Tryz.underlying4 hW' hB rfl⟩

set_option maxRecDepth 100000 in
theorem rollDays_holds : Rows.RollDaysSaid :=
  OpenClaim.holds_of_wide 7 Tryz.f7 rfl rfl rfl rfl rfl rfl rfl ⟨rfl, rfl, rfl, rfl, rfl⟩ rfl rfl rfl rfl rfl (by kernel_rfl) Tryz.func7 (by kernel_rfl)
    (of_decide_eq_true (by kernel_rfl)) (by unfold Func.isWrapper; first | (rw [if_pos (by decide +kernel)]; kernel_rfl) | (rw [if_neg (by decide +kernel)]; exact ⟨rfl, rfl⟩))
    (fun os started H enc _ => rollDays_lifted os started H enc)
end Go.Proofs.YtajeeghgiilhiaaGreat
end
