import Derived.Test.YtajeeghgiilhiaaQ4
import Derived.Test.YtajeeghgiilhiaaPo
import Derived.Test.YtajeeghgiilhiaaFacts
set_option linter.unusedVariables false
set_option linter.unusedSimpArgs false
namespace Go.Proofs.Ytajeeghgiilhiaa
open Go Go.Abs Go.RowKit Go.Bk
abbrev wV (w : Ws) : AV := .agg [i64 w.1, i64 w.2]
theorem nof1 {f : Dn} {acc sym : Bs} (h : f.live = false) : ¬ (f.live = true ∧ f.acc = acc ∧ f.sym = sym) := by simp [h]
theorem nof2 {f : Dn} {acc sym : Bs} (h : ¬ f.acc = acc) : ¬ (f.live = true ∧ f.acc = acc ∧ f.sym = sym) := fun h2 => h h2.2.1
theorem nof3 {f : Dn} {acc sym : Bs} (h : ¬ f.sym = sym) : ¬ (f.live = true ∧ f.acc = acc ∧ f.sym = sym) := fun h2 => h h2.2.2
theorem noo1 {o : Od} {acc sym : Bs} (h : ¬ o.acc = acc) : ¬ (o.acc = acc ∧ o.sym = sym) := fun h2 => h h2.1
theorem noo2 {o : Od} {acc sym : Bs} (h : ¬ o.sym = sym) : ¬ (o.acc = acc ∧ o.sym = sym) := fun h2 => h h2.2
theorem od_same {o : Od} {acc sym : Bs} (h1 : o.acc = acc) (h2 : o.sym = sym) : (⟨o.id, acc, sym, o.buy, o.qty, o.price, o.done, o.opn⟩ : Od) = o := by subst h1; subst h2; rfl
theorem oleft_t {o p : Od} (h : p = o) : ACalls E 46 [odV p] (fun r t => r = i64 (leftF o) ∧ t = []) := by subst h; exact oleft_c p
theorem of_no {b : Bk} {acc sym : Bs} (h : rightBk b = false) : ofF b acc sym = (0, 0) := by unfold ofF; rw [h]; rfl

set_option maxHeartbeats 4000000 in
set_option maxRecDepth 8000 in
theorem plus_c (p q : Ws) : ACalls E 20 [wV p, wV q] (fun r t => r = wV (plusW p q) ∧ t = []) := by -- checkroll/expose.Plus
  refine ACalls.of_awp (n := 16) (rs := [.cell 4 44]) Try.func20 rfl Try.ntmps20 rfl ?_
  repeat' (first
    | refine AWP.seqk fun K hK => ?_
    | (refine AWP.region ?_; simp only [go_sem])
    | (refine hK _ ?_; clear hK K)
    | refine AWP.block ?_
    | refine AWP.cond rfl (fun c => ?_) (fun c => ?_) <;> first | exact Bool.noConfusion c | (try simp only [dD] at c)
    | refine AWP.skip ?_
    | (refine AWP.exit ?_; simp only [go_sem])
    | (refine AGet.haveM (by assumption) ?_; (try simp only [go_sem]))
    | (refine AGet.have' (by assumption) ?_; (try simp only [go_sem]))
    | ((first | refine AGet.nth ?_ (fun b hb => ?_) | refine AGet.nth1 ?_ (fun b hb => ?_) | with_reducible refine And.intro ?_ ?_); (focus (first | omega | assumption | exact List.length_pos_iff.2 (by assumption) | (simp only [List.length_append, List.length_cons, List.length_nil, List.length_map, List.length_take, List.length_drop] at *; omega) | (rw [wrap64_id (by omega) (by omega)]; omega) | (simp; done) | (simp [spare_len]; done) | (exact ⟨by omega, by omega⟩))); (try simp only [hb, go_sem]))
    | (
        refine AWP.ret ?_
        refine AEnd.is ?_; simp only [go_sem, out_v, out_s, out_n, v_int, v_bool, v_str] <;> (simp [plusW]; done))
    | refine AWP.fin (by assumption) ?_)

set_option maxHeartbeats 4000000 in
set_option maxRecDepth 8000 in
theorem side_c (y : Bool) (q : Int) : ACalls E 45 [bl y, i64 q] (fun r t => r = wV (sideW y q) ∧ t = []) := by -- checkroll/expose.side
  refine ACalls.of_awp (n := 10) (rs := [.cell 4 44]) Try.func45 rfl Try.ntmps45 rfl ?_
  repeat' (first
    | refine AWP.seqk fun K hK => ?_
    | (refine AWP.region ?_; simp only [go_sem])
    | (refine hK _ ?_; clear hK K)
    | refine AWP.block ?_
    | refine AWP.cond rfl (fun c => ?_) (fun c => ?_) <;> first | exact Bool.noConfusion c | (try simp only [dD] at c)
    | refine AWP.skip ?_
    | (refine AWP.exit ?_; simp only [go_sem])
    | (refine AGet.haveM (by assumption) ?_; (try simp only [go_sem]))
    | (refine AGet.have' (by assumption) ?_; (try simp only [go_sem]))
    | ((first | refine AGet.nth ?_ (fun b hb => ?_) | refine AGet.nth1 ?_ (fun b hb => ?_) | with_reducible refine And.intro ?_ ?_); (focus (first | omega | assumption | exact List.length_pos_iff.2 (by assumption) | (simp only [List.length_append, List.length_cons, List.length_nil, List.length_map, List.length_take, List.length_drop] at *; omega) | (rw [wrap64_id (by omega) (by omega)]; omega) | (simp; done) | (simp [spare_len]; done) | (exact ⟨by omega, by omega⟩))); (try simp only [hb, go_sem]))
    | (
        refine AWP.ret ?_
        refine AEnd.is ?_; simp only [go_sem, out_v, out_s, out_n, v_int, v_bool, v_str] <;> (simp [sideW, *]; done))
    | refine AWP.fin (by assumption) ?_)

set_option maxHeartbeats 4000000 in
set_option maxRecDepth 8000 in
theorem final_c (bk : Bk) (f : Dn) : ACalls E 37 [bkV bk, dnV f] (fun r t => r = bl (finalF bk f) ∧ t = []) := by -- checkroll/expose.final
  refine ACalls.of_awp (n := 19) (rs := [.tmp 4]) Try.func37 rfl Try.ntmps37 rfl ?_
  repeat' (first
    | refine AWP.seqk fun K hK => ?_
    | (refine AWP.region ?_; simp only [go_sem])
    | (refine hK _ ?_; clear hK K)
    | refine AWP.block ?_
    | refine AWP.cond rfl (fun c => ?_) (fun c => ?_) <;> first | exact Bool.noConfusion c | (try simp only [dD] at c)
    | refine AWP.skip ?_
    | (refine AWP.exit ?_; simp only [go_sem])
    | (refine AGuard.splitN (fun h => ?_) (fun h => ?_) <;> simp only [h, go_sem] <;> (try simp only [dD] at h))
    | (refine AGuard.split (fun h => ?_) (fun h => ?_) <;> simp only [h, go_sem] <;> (try simp only [dD] at h))
    | (refine AGet.haveM (by assumption) ?_; (try simp only [go_sem]))
    | (refine AGet.have' (by assumption) ?_; (try simp only [go_sem]))
    | ((first | refine AGet.nth ?_ (fun b hb => ?_) | refine AGet.nth1 ?_ (fun b hb => ?_) | with_reducible refine And.intro ?_ ?_); (focus (first | omega | assumption | exact List.length_pos_iff.2 (by assumption) | (simp only [List.length_append, List.length_cons, List.length_nil, List.length_map, List.length_take, List.length_drop] at *; omega) | (rw [wrap64_id (by omega) (by omega)]; omega) | (simp; done) | (simp [spare_len]; done) | (exact ⟨by omega, by omega⟩))); (try simp only [hb, go_sem]))
    | (
        refine AWP.ret ?_
        refine AEnd.is ?_; simp only [go_sem, out_v, out_s, out_n, v_int, v_bool, v_str] <;> (first | (unfold finalF; rw [if_pos (by omega)]; done) | (unfold finalF; rw [if_neg (by omega)]; done) | (unfold finalF; rw [if_pos (by omega)]; simp; done) | (unfold finalF; rw [if_neg (by omega)]; simp; done) | skip))
    | refine AWP.fin (by assumption) ?_)

theorem final_t {bk : Bk} {f g : Dn} (h : g.time = f.time) : ACalls E 37 [bkV bk, dnV g] (fun r t => r = bl (finalF bk f) ∧ t = []) := by
  have e : finalF bk f = finalF bk g := by unfold finalF; rw [h]
  rw [e]; exact final_c bk g

set_option maxHeartbeats 8000000 in
set_option maxRecDepth 8000 in
theorem eof_c (bk : Bk) (acc sym : Bs) (ho : bk.orders.length ≤ 9223372036854775807) (hf : bk.fills.length ≤ 9223372036854775807) (hi : bk.ids.length ≤ 9223372036854775807) : ACalls E 19 [bkV bk, str acc, str sym] (fun r t => r = wV (ofF bk acc sym) ∧ t = []) := by -- checkroll/expose.Of
  refine ACalls.of_awp (n := 84) (rs := [.cell 6 44]) Try.func19 rfl Try.ntmps19 rfl ?_
  repeat' (first
    | refine AWP.seqk fun K hK => ?_
    | (
        refine AWP.here 6 21 4 rfl ?_
        obtain ⟨f, hb⟩ : ∃ f, bk.fills[i]? = some f := ⟨_, List.getElem?_eq_getElem (by omega)⟩
        refine AWP.region ?_; simp only [go_sem])
    | (
        refine AWP.here 14 63 4 rfl ?_
        obtain ⟨o, hc⟩ : ∃ o, bk.orders[j]? = some o := ⟨_, List.getElem?_eq_getElem (by omega)⟩
        refine AWP.region ?_; simp only [go_sem])
    | (refine AWP.region ?_; simp only [go_sem])
    | (refine AWP.here 8 38 8 rfl ?_; refine AWP.regionO [0, 1, 2, 3, 4, 5, 6, 7] [] (by kernel_rfl) (by kernel_rfl) rfl ?_; simp only [go_sem])
    | (refine AWP.here 10 48 10 rfl ?_; refine AWP.regionO [0, 1, 2, 3, 4, 5, 6, 7, 8, 9] [] (by kernel_rfl) (by kernel_rfl) rfl ?_; simp only [go_sem])
    | (refine AWP.here 16 75 8 rfl ?_; refine AWP.regionO [0, 1, 2, 3, 4, 5, 6, 7] [] (by kernel_rfl) (by kernel_rfl) rfl ?_; simp only [go_sem])
    | (refine hK _ ?_; clear hK K)
    | refine AWP.block ?_
    | refine AWP.cond rfl (fun c => ?_) (fun c => ?_) <;> first | exact Bool.noConfusion c | (try simp only [dD] at c)
    | refine AWP.skip ?_
    | (refine AWP.exit ?_; simp only [go_sem])
    | (refine ACall.one (bright_c bk ho hf hi) (by kernel_rfl) rfl ?_; simp only [go_sem])
    | (refine ACall.one (side_c f.buy f.qty) (by kernel_rfl) rfl ?_; simp only [go_sem])
    | (refine ACall.one (side_c (!f.buy) (IntKind.i64.wrap (0 - f.qty))) (by kernel_rfl) rfl ?_; simp only [go_sem])
    | (refine ACall.one (side_c o.buy (leftF o)) (by kernel_rfl) rfl ?_; simp only [go_sem])
    | (refine ACall.one (plus_c w (sideW f.buy f.qty)) (by kernel_rfl) rfl ?_; simp only [go_sem])
    | (refine ACall.one (plus_c (plusW w (sideW f.buy f.qty)) (sideW (!f.buy) (IntKind.i64.wrap (0 - f.qty)))) (by kernel_rfl) rfl ?_; simp only [go_sem])
    | (refine ACall.one (plus_c u (sideW o.buy (leftF o))) (by kernel_rfl) rfl ?_; simp only [go_sem])
    | (refine ACall.one (final_t (bk := bk) (f := f) (g := ⟨f.id, f.ord, f.acc, f.sym, f.buy, f.qty, f.price, f.time, true⟩) rfl) (by kernel_rfl) rfl ?_; simp only [go_sem])
    | (refine ACall.one (final_t (bk := bk) (f := f) (g := ⟨f.id, f.ord, f.acc, sym, f.buy, f.qty, f.price, f.time, true⟩) rfl) (by kernel_rfl) rfl ?_; simp only [go_sem])
    | (refine ACall.one (final_t (bk := bk) (f := f) (g := ⟨f.id, f.ord, acc, f.sym, f.buy, f.qty, f.price, f.time, true⟩) rfl) (by kernel_rfl) rfl ?_; simp only [go_sem])
    | (refine ACall.one (final_t (bk := bk) (f := f) (g := ⟨f.id, f.ord, acc, sym, f.buy, f.qty, f.price, f.time, true⟩) rfl) (by kernel_rfl) rfl ?_; simp only [go_sem])
    | (refine ACall.one (oleft_c o) (by kernel_rfl) rfl ?_; simp only [go_sem])
    | (refine ACall.one (oleft_t (o := o) (p := ⟨o.id, acc, sym, o.buy, o.qty, o.price, o.done, o.opn⟩) (od_same (by assumption) (by assumption))) (by kernel_rfl) rfl ?_; simp only [go_sem])
    | (refine AGuard.splitN (fun h => ?_) (fun h => ?_) <;> simp only [h, go_sem] <;> (try simp only [dD] at h))
    | (refine AGuard.split (fun h => ?_) (fun h => ?_) <;> simp only [h, go_sem] <;> (try simp only [dD] at h))
    | (refine AGet.haveM (by assumption) ?_; (try simp only [go_sem]))
    | (refine AGet.have' (by assumption) ?_; (try simp only [go_sem]))
    | ((first | refine AGet.nth ?_ (fun b hb => ?_) | refine AGet.nth1 ?_ (fun b hb => ?_) | with_reducible refine And.intro ?_ ?_); (focus (first | omega | assumption | exact List.length_pos_iff.2 (by assumption) | (simp only [List.length_append, List.length_cons, List.length_nil, List.length_map, List.length_take, List.length_drop] at *; omega) | (rw [wrap64_id (by omega) (by omega)]; omega) | (simp; done) | (simp [spare_len]; done) | (exact ⟨by omega, by omega⟩))); (try simp only [hb, go_sem]))
    | (
        refine AWP.here 5 20 1 rfl ?_
        refine AWP.loopM (ι := Nat × Ws) [9, 20, 21, 22, 23, 24, 25, 26, 27, 28, 29, 30, 31, 32, 33, 34, 35, 36, 37, 38, 39, 40, 41, 42, 43, 44, 45, 46, 47, 48, 49, 50, 51, 52, 53, 54, 55, 56, 57] (fun ⟨i, w⟩ => [(19, i64 i)]) (fun ⟨i, w⟩ => [some [.agg [odsV bk.orders, dnsV bk.fills, .sl none 1 (bk.ids.map str), i64 bk.clock, i64 bk.bad]], some [.agg [i64 0, i64 0]], some [.agg [i64 w.1, i64 w.2]]]) (fun ⟨i, w⟩ => []) (fun ⟨i, w⟩ => i ≤ bk.fills.length ∧ w = upF bk acc sym i) (fun ⟨i, w⟩ => bk.fills.length - i) ((0, ((0, 0) : Ws))) ?_ ?_ ?_
        · (try simp only [go_sem]); (repeat' (first | refine And.intro ?_ ?_ | exact .inl rfl | exact .inr rfl | exact .inr ⟨rfl, rfl⟩ | trivial | exact .inr (oblA rfl) | exact .inr ⟨rfl, oblA rfl⟩ | exact .inr bel_strs | exact .inr ⟨rfl, bel_strs⟩ | exact .inr ⟨by simp, bel_strs⟩ | (simp; done) | exact .inr ⟨rfl, by simp⟩ | exact .inr ⟨by simp, by simp⟩)); done
        · exact ⟨Nat.zero_le _, rfl⟩
        rintro ⟨i, w⟩ ⟨h1, h2⟩
        simp only [go_sem]
        have hr : rightBk bk = true := by assumption)
    | (
        refine AWP.here 13 62 1 rfl ?_
        refine AWP.loopM (ι := Nat × Ws) [11, 62, 63, 64, 65, 66, 67, 68, 69, 70, 71, 72, 73, 74, 75, 76, 77, 78, 79, 80, 81, 82] (fun ⟨j, u⟩ => [(61, i64 j)]) (fun ⟨j, u⟩ => [some [.agg [odsV bk.orders, dnsV bk.fills, .sl none 1 (bk.ids.map str), i64 bk.clock, i64 bk.bad]], some [.agg [i64 0, i64 0]], some [.agg [i64 u.1, i64 u.2]]]) (fun ⟨j, u⟩ => []) (fun ⟨j, u⟩ => j ≤ bk.orders.length ∧ u = upO bk acc sym j) (fun ⟨j, u⟩ => bk.orders.length - j) ((0, w)) ?_ ?_ ?_
        · (try simp only [go_sem]); (repeat' (first | refine And.intro ?_ ?_ | exact .inl rfl | exact .inr rfl | exact .inr ⟨rfl, rfl⟩ | trivial | exact .inr (oblA rfl) | exact .inr ⟨rfl, oblA rfl⟩ | exact .inr bel_strs | exact .inr ⟨rfl, bel_strs⟩ | exact .inr ⟨by simp, bel_strs⟩ | (simp; done) | exact .inr ⟨rfl, by simp⟩ | exact .inr ⟨by simp, by simp⟩)); done
        · exact ⟨Nat.zero_le _, upO_zero (by omega) h2⟩
        rintro ⟨j, u⟩ ⟨g1, g2⟩
        simp only [go_sem])
    | (
        first
        | (refine ⟨(i + 1, w), ?_, ⟨by show i + 1 ≤ bk.fills.length; omega, up_no hb h2 (by first | exact nof1 (by assumption) | exact nof2 (by assumption) | exact nof3 (by assumption))⟩, by show bk.fills.length - (i + 1) < bk.fills.length - i; omega⟩
           (try simp only [go_sem]); (try rw [wrap64_id (by omega) (by omega)]); (repeat' (first | refine And.intro ?_ ?_ | exact .inl rfl | exact .inr rfl | exact .inr ⟨rfl, rfl⟩ | trivial | exact .inr (oblA rfl) | exact .inr ⟨rfl, oblA rfl⟩ | exact .inr bel_strs | exact .inr ⟨rfl, bel_strs⟩ | exact .inr ⟨by simp, bel_strs⟩ | (simp; done) | exact .inr ⟨rfl, by simp⟩ | exact .inr ⟨by simp, by simp⟩)); done)
        | (refine ⟨(i + 1, plusW w (sideW f.buy f.qty)), ?_, ⟨by show i + 1 ≤ bk.fills.length; omega, up_yes hr hb h2 ⟨by assumption, by assumption, by assumption⟩ (by assumption)⟩, by show bk.fills.length - (i + 1) < bk.fills.length - i; omega⟩
           (try simp only [go_sem]); (try rw [wrap64_id (by omega) (by omega)]); (repeat' (first | refine And.intro ?_ ?_ | exact .inl rfl | exact .inr rfl | exact .inr ⟨rfl, rfl⟩ | trivial | exact .inr (oblA rfl) | exact .inr ⟨rfl, oblA rfl⟩ | exact .inr bel_strs | exact .inr ⟨rfl, bel_strs⟩ | exact .inr ⟨by simp, bel_strs⟩ | (simp; done) | exact .inr ⟨rfl, by simp⟩ | exact .inr ⟨by simp, by simp⟩)); done)
        | (refine ⟨(i + 1, plusW (plusW w (sideW f.buy f.qty)) (sideW (!f.buy) (IntKind.i64.wrap (0 - f.qty)))), ?_, ⟨by show i + 1 ≤ bk.fills.length; omega, up_fin hr hb h2 ⟨by assumption, by assumption, by assumption⟩ (by assumption)⟩, by show bk.fills.length - (i + 1) < bk.fills.length - i; omega⟩
           (try simp only [go_sem]); (try rw [wrap64_id (by omega) (by omega)]); (repeat' (first | refine And.intro ?_ ?_ | exact .inl rfl | exact .inr rfl | exact .inr ⟨rfl, rfl⟩ | trivial | exact .inr (oblA rfl) | exact .inr ⟨rfl, oblA rfl⟩ | exact .inr bel_strs | exact .inr ⟨rfl, bel_strs⟩ | exact .inr ⟨by simp, bel_strs⟩ | (simp; done) | exact .inr ⟨rfl, by simp⟩ | exact .inr ⟨by simp, by simp⟩)); done))
    | (
        first
        | (refine ⟨(j + 1, u), ?_, ⟨by show j + 1 ≤ bk.orders.length; omega, upO_no hc g2 (by first | exact noo1 (by assumption) | exact noo2 (by assumption))⟩, by show bk.orders.length - (j + 1) < bk.orders.length - j; omega⟩
           (try simp only [go_sem]); (try rw [wrap64_id (by omega) (by omega)]); (repeat' (first | refine And.intro ?_ ?_ | exact .inl rfl | exact .inr rfl | exact .inr ⟨rfl, rfl⟩ | trivial | exact .inr (oblA rfl) | exact .inr ⟨rfl, oblA rfl⟩ | exact .inr bel_strs | exact .inr ⟨rfl, bel_strs⟩ | exact .inr ⟨by simp, bel_strs⟩ | (simp; done) | exact .inr ⟨rfl, by simp⟩ | exact .inr ⟨by simp, by simp⟩)); done)
        | (refine ⟨(j + 1, plusW u (sideW o.buy (leftF o))), ?_, ⟨by show j + 1 ≤ bk.orders.length; omega, upO_yes hr hc g2 ⟨by assumption, by assumption⟩⟩, by show bk.orders.length - (j + 1) < bk.orders.length - j; omega⟩
           (try simp only [go_sem]); (try rw [wrap64_id (by omega) (by omega)]); (repeat' (first | refine And.intro ?_ ?_ | exact .inl rfl | exact .inr rfl | exact .inr ⟨rfl, rfl⟩ | trivial | exact .inr (oblA rfl) | exact .inr ⟨rfl, oblA rfl⟩ | exact .inr bel_strs | exact .inr ⟨rfl, bel_strs⟩ | exact .inr ⟨by simp, bel_strs⟩ | (simp; done) | exact .inr ⟨rfl, by simp⟩ | exact .inr ⟨by simp, by simp⟩)); done))
    | (
        refine AWP.ret ?_
        refine AEnd.is ?_; simp only [go_sem, out_v, out_s, out_n, v_int, v_bool, v_str] <;> (first
        | (rw [← upO_end hr (by omega) g2]; done)
        | (rw [← upO_end hr (by omega) g2]; simp; done)
        | (rw [of_no (by assumption)]; done)
        | (rw [of_no (by assumption)]; simp; done)
        | skip))
    | refine AWP.fin (by assumption) ?_)


end Go.Proofs.Ytajeeghgiilhiaa
