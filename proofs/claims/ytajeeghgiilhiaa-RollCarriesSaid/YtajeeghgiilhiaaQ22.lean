import Derived.Test.YtajeeghgiilhiaaQ21
import Derived.Test.YtajeeghgiilhiaaQ19
import Derived.Test.YtajeeghgiilhiaaPq
set_option linter.unusedVariables false
set_option linter.unusedSimpArgs false
namespace Go.Proofs.Ytajeeghgiilhiaa
open Go Go.Abs Go.RowKit Go.Bk
abbrev poV (p : Po) : AV := .agg [str p.acc, str p.sym, i64 p.qty, i64 p.value, bl p.over]
theorem sgn_buy {f : Dn} (h : f.buy = true) : sgn f = f.qty := by unfold sgn; rw [h]; rfl
theorem sgn_sell {f : Dn} (h : f.buy = false) : sgn f = -f.qty := by unfold sgn; rw [h]; rfl

set_option maxHeartbeats 8000000 in
set_option maxRecDepth 8000 in
theorem lof_c (bk : Bk) (acc sym : Bs) (ho : bk.orders.length ≤ 9223372036854775807) (hf : bk.fills.length ≤ 9223372036854775807) (hi : bk.ids.length ≤ 9223372036854775807) : ACalls E 17 [bkV bk, str acc, str sym] (fun r t => r = poV (posF bk acc sym) ∧ t = []) := by -- checkroll/ledger.Of
  refine ACalls.of_awp (n := 98) (rs := [.cell 6 41]) Try.func17 rfl Try.ntmps17 rfl ?_
  repeat' (first
    | refine AWP.seqk fun K hK => ?_
    | (
        refine AWP.here 7 31 4 rfl ?_
        obtain ⟨f, hb⟩ : ∃ f, bk.fills[i]? = some f := ⟨_, List.getElem?_eq_getElem (by omega)⟩
        have hfa := right_amounts hr f (List.mem_of_getElem? hb)
        have hw : IntKind.i64.wrap (0 - f.qty) = -f.qty := by rw [wrap64_id (by omega) (by omega)]; omega
        refine AWP.region ?_; simp only [go_sem])
    | (
        refine AWP.here 11 53 3 rfl ?_
        refine AWP.region ?_; simp only [go_sem, hw])
    | (refine AWP.region ?_; simp only [go_sem])
    | (refine hK _ ?_; clear hK K)
    | refine AWP.block ?_
    | refine AWP.cond rfl (fun c => ?_) (fun c => ?_) <;> first | exact Bool.noConfusion c | (try simp only [dD] at c)
    | refine AWP.skip ?_
    | (refine AWP.exit ?_; simp only [go_sem])
    | (refine ACall.one (bright_c bk ho hf hi) (by kernel_rfl) rfl ?_; simp only [go_sem])
    | (refine ACall.one (nmul_c _ _) (by kernel_rfl) rfl ?_; simp only [go_sem])
    | (refine ACall.one (nsum_c qs (by omega)) (by kernel_rfl) rfl ?_; simp only [go_sem])
    | (refine ACall.one (nsum_c vs (by omega)) (by kernel_rfl) rfl ?_; simp only [go_sem])
    | (refine AGuard.splitN (fun h => ?_) (fun h => ?_) <;> simp only [h, go_sem] <;> (try simp only [dD] at h))
    | (refine AGuard.split (fun h => ?_) (fun h => ?_) <;> simp only [h, go_sem] <;> (try simp only [dD] at h))
    | (refine AGet.haveM (by assumption) ?_; (try simp only [go_sem]))
    | (refine AGet.have' (by assumption) ?_; (try simp only [go_sem]))
    | ((first | refine AGet.nth ?_ (fun b hb => ?_) | refine AGet.nth1 ?_ (fun b hb => ?_) | with_reducible refine And.intro ?_ ?_); (focus (first | omega | assumption | exact List.length_pos_iff.2 (by assumption) | (simp only [List.length_append, List.length_cons, List.length_nil, List.length_map, List.length_take, List.length_drop] at *; omega) | (rw [wrap64_id (by omega) (by omega)]; omega) | (simp; done) | (simp [spare_len]; done) | (exact ⟨by omega, by omega⟩))); (try simp only [hb, go_sem]))
    | (
        refine AWP.here 6 30 1 rfl ?_
        refine AWP.nilTok 8 1 rfl ?_
        refine AWP.nilTok 9 1 rfl ?_
        simp only [go_sem]
        refine AWP.loopM (ι := Nat × List Int × List Int) [11, 12, 13, 14, 30, 31, 32, 33, 34, 35, 36, 37, 38, 39, 40, 41, 42, 43, 44, 45, 46, 47, 48, 49, 50, 51, 52, 53, 54, 55, 56, 57, 58, 59, 60, 61, 62, 63, 64, 65, 66, 67, 68, 69, 70, 71, 72, 73, 74] (fun ⟨i, qs, vs⟩ => [(29, i64 i), (8, .sl (some 0) 1 (qs.map i64)), (9, .sl (some 1) 1 (vs.map i64))]) (fun ⟨i, qs, vs⟩ => [some [.agg [odsV bk.orders, dnsV bk.fills, .sl none 1 (bk.ids.map str), i64 bk.clock, i64 bk.bad]], some [.agg [str [], str [], i64 0, i64 0, bl false]], some [.agg [str acc, str sym, i64 0, i64 0, bl false]]]) (fun ⟨i, qs, vs⟩ => [qs.length, vs.length]) (fun ⟨i, qs, vs⟩ => Gath bk acc sym i qs vs) (fun ⟨i, qs, vs⟩ => bk.fills.length - i) ((0, [], [])) ?_ ?_ ?_
        · (try simp only [go_sem]); (repeat' (first | refine And.intro ?_ ?_ | exact .inl rfl | exact .inr rfl | exact .inr ⟨rfl, rfl⟩ | trivial | exact .inr (oblA rfl) | exact .inr ⟨rfl, oblA rfl⟩ | exact .inr bel_strs | exact .inr ⟨rfl, bel_strs⟩ | exact .inr ⟨by simp, bel_strs⟩ | (simp; done) | exact .inr ⟨rfl, by simp⟩ | exact .inr ⟨by simp, by simp⟩)); done
        · exact Gath.zero
        rintro ⟨i, qs, vs⟩ hg
        simp only [go_sem]
        have hr : rightBk bk = true := by assumption
        have hgl := hg.len hr)
    | (
        first
        | (refine ⟨(i + 1, qs, vs), ?_, hg.no hb (by first | exact nof1 (by assumption) | exact nof2 (by assumption) | exact nof3 (by assumption)), by show bk.fills.length - (i + 1) < bk.fills.length - i; omega⟩
           (try simp only [go_sem]); (try rw [wrap64_id (by omega) (by omega)]); (repeat' (first | refine And.intro ?_ ?_ | exact .inl rfl | exact .inr rfl | exact .inr ⟨rfl, rfl⟩ | trivial | exact .inr (oblA rfl) | exact .inr ⟨rfl, oblA rfl⟩ | exact .inr bel_strs | exact .inr ⟨rfl, bel_strs⟩ | exact .inr ⟨by simp, bel_strs⟩ | (simp; done) | exact .inr ⟨rfl, by simp⟩ | exact .inr ⟨by simp, by simp⟩)); done)
        | (refine ⟨(i + 1, qs ++ [f.qty], vs ++ [(mulF (f.qty) f.price).1]), ?_, hg.yes hb ⟨by assumption, by assumption, by assumption⟩ (sgn_buy (by assumption)) (by assumption), by show bk.fills.length - (i + 1) < bk.fills.length - i; omega⟩
           (try simp only [go_sem]); (try rw [wrap64_id (by omega) (by omega)]); (repeat' (first | refine And.intro ?_ ?_ | exact .inl rfl | exact .inr rfl | exact .inr ⟨rfl, rfl⟩ | trivial | exact .inr (oblA rfl) | exact .inr ⟨rfl, oblA rfl⟩ | exact .inr bel_strs | exact .inr ⟨rfl, bel_strs⟩ | exact .inr ⟨by simp, bel_strs⟩ | (simp; done) | exact .inr ⟨rfl, by simp⟩ | exact .inr ⟨by simp, by simp⟩)); done)
        | (refine ⟨(i + 1, qs ++ [-f.qty], vs ++ [(mulF (-f.qty) f.price).1]), ?_, hg.yes hb ⟨by assumption, by assumption, by assumption⟩ (sgn_sell (by assumption)) (by assumption), by show bk.fills.length - (i + 1) < bk.fills.length - i; omega⟩
           (try simp only [go_sem]); (try rw [wrap64_id (by omega) (by omega)]); (repeat' (first | refine And.intro ?_ ?_ | exact .inl rfl | exact .inr rfl | exact .inr ⟨rfl, rfl⟩ | trivial | exact .inr (oblA rfl) | exact .inr ⟨rfl, oblA rfl⟩ | exact .inr bel_strs | exact .inr ⟨rfl, bel_strs⟩ | exact .inr ⟨by simp, bel_strs⟩ | (simp; done) | exact .inr ⟨rfl, by simp⟩ | exact .inr ⟨by simp, by simp⟩)); done))
    | (
        refine AWP.ret ?_
        refine AEnd.is ?_; simp only [go_sem, out_v, out_s, out_n, v_int, v_bool, v_str] <;> (first
        | (rw [pos_none (by assumption)]; simp; done)
        | (rw [pos_over hr hb ⟨by assumption, by assumption, by assumption⟩ (sgn_buy (by assumption)) (by assumption)]; simp; done)
        | (rw [pos_over hr hb ⟨by assumption, by assumption, by assumption⟩ (sgn_sell (by assumption)) (by assumption)]; simp; done)
        | (rw [pos_no1 hg hr (by omega) (.inl (by assumption))]; simp; done)
        | (rw [pos_no1 hg hr (by omega) (.inr (by assumption))]; simp; done)
        | (rw [pos_yes hg hr (by omega) (by assumption) (by assumption)]; simp; done)
        | skip))
    | refine AWP.fin (by assumption) ?_)


end Go.Proofs.Ytajeeghgiilhiaa
