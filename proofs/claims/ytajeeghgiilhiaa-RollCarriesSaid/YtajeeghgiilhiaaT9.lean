import Derived.Test.YtajeeghgiilhiaaT8
import Derived.Test.YtajeeghgiilhiaaMr
import Derived.Test.YtajeeghgiilhiaaT5
import Derived.Test.YtajeeghgiilhiaaG5
set_option linter.unusedVariables false
set_option linter.unusedSimpArgs false
namespace Go.Proofs.Ytajeeghgiilhiaa
open Go Go.Abs Go.RowKit Go.Bk
theorem vr_nilHead {im : Im} {k : Nat} {cs : List AV} {v : Value} (h : VR0 im (.agg (.nilS :: cs)) v) : VR0 im (.agg (.sl none k [] :: cs)) v := by
  cases h with
  | agg _ vs hn h =>
    refine .agg _ vs hn (fun i c u hc hu => ?_)
    cases i with
    | zero => cases hc; exact (h 0 .nilS u rfl hu).of_nil
    | succ i => exact h (i + 1) c u hc hu
theorem aw_fl1 : ((awN.fills.length : Nat) : Int) = 1 := rfl
theorem aw_fl0 : awN.fills[0]? = some ⟨[98], [], [99], [115], true, 2, 6, 15, true⟩ := rfl
theorem nil_arg1 {f : FuncId} {cs : List AV} {k : Nat} {R : AV → List Nat → Prop} (h : ACalls E f [.agg (.sl none k [] :: cs)] R) : ACalls E f [.agg (.nilS :: cs)] R := by
  intro w im vs h0 hg h1 h2
  refine h w im vs h0 hg h1 ?_
  obtain ⟨hn, hp⟩ := h2
  refine ⟨hn, fun i x v hx hv => ?_⟩
  rcases i with _ | i
  · cases hx
    exact vr_nilHead (hp 0 _ v rfl hv)
  · simp at hx
theorem lall_n (bk : Bk) (ho : bk.orders = []) (hf : bk.fills.length ≤ 1000000) (hi : bk.ids.length ≤ 9223372036854775807) : ACalls E 16 [.agg [.nilS, dnsV bk.fills, .sl none 1 (bk.ids.map str), i64 bk.clock, i64 bk.bad]] (fun r t => r = posV (allP bk) ∧ t = []) := by
  obtain ⟨od, fl, ids, cl, bad⟩ := bk
  simp only at ho
  subst ho
  intro w im vs h0 hg h1 h2
  refine lall_c _ (by simp) hf hi w im vs h0 hg h1 ?_
  obtain ⟨hn, hp⟩ := h2
  refine ⟨hn, fun i x v hx hv => ?_⟩
  rcases i with _ | i
  · cases hx
    exact vr_nilHead (k := 8) (hp 0 _ v rfl hv)
  · simp at hx
def samePs (a d : List Po) : Bool := decide (a.length = d.length) && (List.zipWith (fun x y : Po => decide (x.acc = y.acc) && decide (x.sym = y.sym) && decide (x.qty = y.qty) && decide (x.value = y.value) && decide (x.over = y.over)) a d).all id
theorem po_beq {x y : Po} : (decide (x.acc = y.acc) && decide (x.sym = y.sym) && decide (x.qty = y.qty) && decide (x.value = y.value) && decide (x.over = y.over)) = true ↔ x = y := by
  cases x; cases y; simp [and_assoc]
theorem same_iff : ∀ {a d : List Po}, samePs a d = true ↔ a = d
  | [], [] => by simp [samePs]
  | [], y :: d => by simp [samePs]
  | x :: a, [] => by simp [samePs]
  | x :: a, y :: d => by
    have ih := same_iff (a := a) (d := d)
    unfold samePs at *
    simp only [List.length_cons, List.zipWith_cons_cons, List.all_cons, id, Bool.and_eq_true, decide_eq_true_eq, Nat.add_right_cancel_iff, List.cons.injEq] at *
    rw [← ih]
    have := po_beq (x := x) (y := y)
    simp only [Bool.and_eq_true, decide_eq_true_eq] at this
    rw [← this]
    exact ⟨fun h => ⟨h.2.1, h.1, h.2.2⟩, fun h => ⟨h.2.1, h.1, h.2.2⟩⟩
theorem same_len {a d : List Po} (h : ¬ a.length = d.length) : samePs a d = false := by unfold samePs; rw [decide_eq_false h]; rfl
theorem same_at {a d : List Po} {i : Nat} {x y : Po} (hx : a[i]? = some x) (hy : d[i]? = some y) (h : ¬ x = y) : samePs a d = false := by
  cases e : samePs a d with
  | false => rfl
  | true =>
    have := same_iff.1 e
    subst this; rw [hx] at hy; exact absurd (Option.some.inj hy) h
theorem same_end {a d : List Po} {i : Nat} (hi : a.length ≤ i) (h : a.length = d.length) (h2 : a.take i = d.take i) : samePs a d = true := by
  rw [List.take_of_length_le hi, List.take_of_length_le (by omega)] at h2
  exact same_iff.2 h2
theorem po_ne {x y : Po} (h : x.acc = y.acc → x.sym = y.sym → x.qty = y.qty → x.value = y.value → ¬ x.over = y.over) : ¬ x = y := fun e => by subst e; exact h rfl rfl rfl rfl rfl
theorem po_eq {x y : Po} (h : x.acc = y.acc ∧ x.sym = y.sym ∧ x.qty = y.qty ∧ x.value = y.value ∧ x.over = y.over) : x = y := by
  cases x; cases y; simp at h; simp [h]
def shortPs (ls : List (List Po)) : Bool := decide (ls.length ≤ 8) && ls.all fun l => decide (l.length ≤ 20)
theorem shortPs_no {ls : List (List Po)} {i : Nat} {l : List Po} (hx : ls[i]? = some l) (h : ¬ l.length ≤ 20) : shortPs ls = false := by
  unfold shortPs
  rw [Bool.and_eq_false_iff]; right
  exact List.all_eq_false.2 ⟨l, List.mem_of_getElem? hx, by simpa using h⟩
theorem shortPs_yes {ls : List (List Po)} {i : Nat} (h0 : ls.length ≤ 8) (hi : ls.length ≤ i) (h : (ls.take i).all (fun l => decide (l.length ≤ 20)) = true) : shortPs ls = true := by
  rw [List.take_of_length_le hi] at h
  unfold shortPs; rw [decide_eq_true h0, h]; rfl

set_option maxHeartbeats 4000000 in
set_option maxRecDepth 8000 in
theorem rclone_c (bk : Bk) (ho : bk.orders.length ≤ 1000000) (hf : bk.fills.length ≤ 1000000) (hi : bk.ids.length ≤ 1000000) : ACalls E 13 [bkV bk] (fun r t => r = bkV bk ∧ t = []) := by -- checkroll/roll.clone
  refine ACalls.of_awp (n := 16) (rs := [.cell 2 37]) Try.func13 rfl Try.ntmps13 rfl ?_
  repeat' (first
    | refine AWP.seqk fun K hK => ?_
    | (refine AWP.region ?_; simp only [go_sem])
    | (refine hK _ ?_; clear hK K)
    | refine AWP.block ?_
    | refine AWP.cond rfl (fun c => ?_) (fun c => ?_) <;> first | exact Bool.noConfusion c | (try simp only [dD] at c)
    | refine AWP.skip ?_
    | (refine AWP.exit ?_; simp only [go_sem])
    | (refine ACall.one (oclone_p bk.orders ho) (by kernel_rfl) rfl ?_; simp only [go_sem])
    | (refine ACall.one (dclone_p bk.fills hf) (by kernel_rfl) rfl ?_; simp only [go_sem])
    | (refine ACall.one (sclone_p bk.ids hi) (by kernel_rfl) rfl ?_; simp only [go_sem])
    | (refine AGet.haveM (by assumption) ?_; (try simp only [go_sem]))
    | (refine AGet.have' (by assumption) ?_; (try simp only [go_sem]))
    | ((first | refine AGet.nth ?_ (fun b hb => ?_) | refine AGet.nth1 ?_ (fun b hb => ?_) | with_reducible refine And.intro ?_ ?_); (focus (first | omega | assumption | exact List.length_pos_iff.2 (by assumption) | (simp only [List.length_append, List.length_cons, List.length_nil, List.length_map, List.length_take, List.length_drop] at *; omega) | (rw [wrap64_id (by omega) (by omega)]; omega) | (simp; done) | (simp [spare_len]; done) | (exact ⟨by omega, by omega⟩))); (try simp only [hb, go_sem]))
    | (
        refine AWP.ret ?_
        refine AEnd.is ?_; simp only [go_sem, out_v, out_s, out_n, v_int, v_bool, v_str] <;> (first | rfl | (simp; done) | skip))
    | refine AWP.fin (by assumption) ?_
    | fail)

set_option maxHeartbeats 4000000 in
set_option maxRecDepth 8000 in
theorem xfinal_c (bk : Bk) (f : Dn) (ho : bk.orders.length ≤ 1000000) (hf : bk.fills.length ≤ 1000000) (hi : bk.ids.length ≤ 1000000) : ACalls E 15 [bkV bk, dnV f] (fun r t => r = bl (rightBk bk && finalF bk f) ∧ t = []) := by -- checkroll/expose.Final
  refine ACalls.of_awp (n := 12) (rs := [.tmp 4]) Try.func15 rfl Try.ntmps15 rfl ?_
  repeat' (first
    | refine AWP.seqk fun K hK => ?_
    | (refine AWP.region ?_; simp only [go_sem])
    | (refine hK _ ?_; clear hK K)
    | refine AWP.block ?_
    | refine AWP.cond rfl (fun c => ?_) (fun c => ?_) <;> first | exact Bool.noConfusion c | (try simp only [dD] at c)
    | refine AWP.skip ?_
    | (refine AWP.exit ?_; simp only [go_sem])
    | (refine ACall.one (bright_c bk (by omega) (by omega) (by omega)) (by kernel_rfl) rfl ?_; simp only [go_sem])
    | (refine ACall.one (final_c bk f) (by kernel_rfl) rfl ?_; simp only [go_sem])
    | (refine AGuard.splitN (fun h => ?_) (fun h => ?_) <;> simp only [h, go_sem] <;> (try simp only [dD] at h))
    | (refine AGuard.split (fun h => ?_) (fun h => ?_) <;> simp only [h, go_sem] <;> (try simp only [dD] at h))
    | (refine AGet.haveM (by assumption) ?_; (try simp only [go_sem]))
    | (refine AGet.have' (by assumption) ?_; (try simp only [go_sem]))
    | ((first | refine AGet.nth ?_ (fun b hb => ?_) | refine AGet.nth1 ?_ (fun b hb => ?_) | with_reducible refine And.intro ?_ ?_); (focus (first | omega | assumption | exact List.length_pos_iff.2 (by assumption) | (simp only [List.length_append, List.length_cons, List.length_nil, List.length_map, List.length_take, List.length_drop] at *; omega) | (rw [wrap64_id (by omega) (by omega)]; omega) | (simp; done) | (simp [spare_len]; done) | (exact ⟨by omega, by omega⟩))); (try simp only [hb, go_sem]))
    | (
        refine AWP.ret ?_
        refine AEnd.is ?_; simp only [go_sem, out_v, out_s, out_n, v_int, v_bool, v_str] <;> (first | rfl | (simp_all; done) | skip))
    | refine AWP.fin (by assumption) ?_
    | fail)

theorem xfinal_y (bk : Bk) (f : Dn) (ho : bk.orders.length ≤ 1000000) (hf : bk.fills.length ≤ 1000000) (hi : bk.ids.length ≤ 1000000) (hr : rightBk bk = true) : ACalls E 15 [bkV bk, dnV f] (fun r t => r = bl (finalF bk f) ∧ t = []) := by
  have h := xfinal_c bk f ho hf hi
  rwa [hr, Bool.true_and] at h

set_option maxHeartbeats 8000000 in
set_option maxRecDepth 8000 in
theorem rclose_c (bk : Bk) (ho : bk.orders.length ≤ 1000000) (hf : bk.fills.length ≤ 1000000) (hi : bk.ids.length ≤ 1000000) : ACalls E 8 [bkV bk] (fun r t => r = .tup [bkV (closeF bk).1, posV (closeF bk).2.1, i64 (closeF bk).2.2] ∧ t = []) := by -- checkroll/roll.Close
  refine ACalls.of_awp (n := 50) (rs := [.cell 2 37, .tmp 3, .tmp 4]) Try.func8 rfl Try.ntmps8 rfl ?_
  repeat' (first
    | refine AWP.seqk fun K hK => ?_
    | (
        refine AWP.here 7 22 4 rfl ?_
        obtain ⟨f, hb⟩ : ∃ f, bk.fills[i]? = some f := ⟨_, List.getElem?_eq_getElem (by omega)⟩
        refine AWP.region ?_; simp only [go_sem])
    | (
        refine AWP.here 12 36 8 rfl ?_
        have e1 : fs = finsB bk := by rw [h2, List.take_of_length_le (by omega)]; rfl
        have e2 : rs = restB bk := by rw [h3, List.take_of_length_le (by omega)]; rfl
        rw [e1, e2]
        refine AWP.region ?_; simp only [go_sem])
    | (refine AWP.region ?_; simp only [go_sem])
    | (refine hK _ ?_; clear hK K)
    | refine AWP.block ?_
    | refine AWP.cond rfl (fun c => ?_) (fun c => ?_) <;> first | exact Bool.noConfusion c | (try simp only [dD] at c)
    | refine AWP.skip ?_
    | (refine AWP.exit ?_; simp only [go_sem])
    | (refine ACall.one (rclone_c bk ho hf hi) (by kernel_rfl) rfl ?_; simp only [go_sem])
    | (refine ACall.one (bright_c bk (by omega) (by omega) (by omega)) (by kernel_rfl) rfl ?_; simp only [go_sem])
    | (refine ACall.one (xfinal_y bk f ho hf hi hrb) (by kernel_rfl) rfl ?_; simp only [go_sem])
    | (refine ACall.one (lall_n (doneB bk) rfl (by have := List.length_filter_le (fun f => finalF bk f) bk.fills; simp only [doneB, finsB]; omega) (by simp only [doneB]; omega)) (by kernel_rfl) rfl ?_; simp only [go_sem])
    | (refine ACall.one (rover_c (allP (doneB bk)) (by have := allP_len (doneB bk); have := List.length_filter_le (fun f => finalF bk f) bk.fills; simp only [doneB, finsB] at *; omega)) (by kernel_rfl) rfl ?_; simp only [go_sem])
    | (refine AGet.haveM (by assumption) ?_; (try simp only [go_sem]))
    | (refine AGet.have' (by assumption) ?_; (try simp only [go_sem]))
    | ((first | refine AGet.nth ?_ (fun b hb => ?_) | refine AGet.nth1 ?_ (fun b hb => ?_) | with_reducible refine And.intro ?_ ?_); (focus (first | omega | assumption | exact List.length_pos_iff.2 (by assumption) | (simp only [List.length_append, List.length_cons, List.length_nil, List.length_map, List.length_take, List.length_drop] at *; omega) | (rw [wrap64_id (by omega) (by omega)]; omega) | (simp; done) | (simp [spare_len]; done) | (exact ⟨by omega, by omega⟩))); (try simp only [hb, go_sem]))
    | (
        refine AWP.here 6 21 1 rfl ?_
        refine AWP.nilTok 6 9 rfl ?_
        refine AWP.nilTok 7 9 rfl ?_
        simp only [go_sem]
        refine AWP.loopM (ι := Nat × List Dn × List Dn) [9, 21, 22, 23, 24, 25, 26, 27, 28, 29, 30, 31, 32, 33, 34, 35] (fun ⟨i, fs, rs⟩ => [(20, i64 i), (6, .sl (some 0) 9 (fs.map dnV)), (7, .sl (some 1) 9 (rs.map dnV))]) (fun ⟨i, fs, rs⟩ => [some [.agg [odsV bk.orders, dnsV bk.fills, .sl none 1 (bk.ids.map str), i64 bk.clock, i64 bk.bad]], some [.agg [.nilS, .nilS, .nilS, i64 0, i64 0]], some [.agg [odsV bk.orders, dnsV bk.fills, .sl none 1 (bk.ids.map str), i64 bk.clock, i64 bk.bad]]]) (fun ⟨i, fs, rs⟩ => [fs.length, rs.length]) (fun ⟨i, fs, rs⟩ => i ≤ bk.fills.length ∧ fs = (bk.fills.take i).filter (fun f => finalF bk f) ∧ rs = (bk.fills.take i).filter (fun f => !finalF bk f)) (fun ⟨i, fs, rs⟩ => bk.fills.length - i) ((0, [], [])) ?_ ?_ ?_
        · (try simp only [go_sem]); (repeat' (first | refine And.intro ?_ ?_ | exact .inl rfl | exact .inr rfl | exact .inr ⟨rfl, rfl⟩ | trivial | exact .inr (oblA rfl) | exact .inr ⟨rfl, oblA rfl⟩ | exact .inr bel_strs | exact .inr ⟨rfl, bel_strs⟩ | exact .inr ⟨by simp, bel_strs⟩ | (simp; done) | exact .inr ⟨rfl, by simp⟩ | exact .inr ⟨by simp, by simp⟩)); done
        · exact ⟨by omega, rfl, rfl⟩
        rintro ⟨i, fs, rs⟩ ⟨h1, h2, h3⟩
        simp only [go_sem]
        have hrb : rightBk bk = true := by assumption
        have hfl : fs.length ≤ i := by rw [h2]; exact Nat.le_trans (List.length_filter_le _ _) (by rw [List.length_take]; omega)
        have hrl : rs.length ≤ i := by rw [h3]; exact Nat.le_trans (List.length_filter_le _ _) (by rw [List.length_take]; omega))
    | (
        first
        | (refine ⟨(i + 1, fs ++ [f], rs), ?_, ⟨by show i + 1 ≤ _; omega, by show fs ++ [f] = _; rw [h2]; exact (fil_yes hb (by assumption)).symm, by show rs = _; rw [h3]; exact (fil_no hb (by simp_all)).symm⟩, by show bk.fills.length - (i + 1) < bk.fills.length - i; omega⟩
           (try simp only [go_sem]); (try rw [wrap64_id (by omega) (by omega)]); (repeat' (first | refine And.intro ?_ ?_ | exact .inl rfl | exact .inr rfl | exact .inr ⟨rfl, rfl⟩ | trivial | exact .inr (oblA rfl) | exact .inr ⟨rfl, oblA rfl⟩ | exact .inr bel_strs | exact .inr ⟨rfl, bel_strs⟩ | exact .inr ⟨by simp, bel_strs⟩ | (simp; done) | exact .inr ⟨rfl, by simp⟩ | exact .inr ⟨by simp, by simp⟩)); done)
        | (refine ⟨(i + 1, fs, rs ++ [f]), ?_, ⟨by show i + 1 ≤ _; omega, by show fs = _; rw [h2]; exact (fil_no hb (by assumption)).symm, by show rs ++ [f] = _; rw [h3]; exact (fil_yes hb (by simp_all)).symm⟩, by show bk.fills.length - (i + 1) < bk.fills.length - i; omega⟩
           (try simp only [go_sem]); (try rw [wrap64_id (by omega) (by omega)]); (repeat' (first | refine And.intro ?_ ?_ | exact .inl rfl | exact .inr rfl | exact .inr ⟨rfl, rfl⟩ | trivial | exact .inr (oblA rfl) | exact .inr ⟨rfl, oblA rfl⟩ | exact .inr bel_strs | exact .inr ⟨rfl, bel_strs⟩ | exact .inr ⟨by simp, bel_strs⟩ | (simp; done) | exact .inr ⟨rfl, by simp⟩ | exact .inr ⟨by simp, by simp⟩)); done))
    | (
        refine AWP.ret ?_
        refine AEnd.is ?_; simp only [go_sem, out_v, out_s, out_n, v_int, v_bool, v_str] <;> (first | (rw [dayc_no (by assumption)]; first | exact ⟨⟨rfl, rfl, rfl, rfl, rfl⟩, trivial, rfl⟩ | (simp; done)) | (rw [dayc_over hrb (by assumption)]; first | exact ⟨⟨rfl, rfl, rfl, rfl, rfl⟩, trivial, rfl⟩ | (simp; done)) | (rw [dayc_ok hrb (by assumption)]; first | exact ⟨⟨rfl, rfl, rfl, rfl, rfl⟩, rfl, rfl⟩ | (simp; done)) | skip))
    | refine AWP.fin (by assumption) ?_
    | fail)

set_option maxHeartbeats 4000000 in
set_option maxRecDepth 8000 in
theorem rhas_c (bk : Bk) (car : List Po) (a s : Bs) (hcar : car.length ≤ 1000000) (ho : bk.orders.length ≤ 1000000) (hf : bk.fills.length ≤ 1000000) (hi : bk.ids.length ≤ 1000000) : ACalls E 9 [bkV bk, posV car, str a, str s] (fun r t => r = poV (hasR bk car a s) ∧ t = []) := by -- checkroll/roll.Has
  have hml := merge_len [[posF bk a s], [getP car (a, s)]]
  simp only [List.flatten_cons, List.flatten_nil, List.append_nil, List.cons_append, List.nil_append, List.length_cons, List.length_nil] at hml
  refine ACalls.of_awp (n := 39) (rs := [.cell 8 41]) Try.func9 rfl Try.ntmps9 rfl ?_
  repeat' (first
    | refine AWP.seqk fun K hK => ?_
    | (refine AWP.region ?_; simp only [go_sem])
    | (refine hK _ ?_; clear hK K)
    | refine AWP.block ?_
    | refine AWP.cond rfl (fun c => ?_) (fun c => ?_) <;> first | exact Bool.noConfusion c | (try simp only [dD] at c)
    | refine AWP.skip ?_
    | (refine AWP.exit ?_; simp only [go_sem])
    | (refine ACall.one (lof_c bk a s (by omega) (by omega) (by omega)) (by kernel_rfl) rfl ?_; simp only [go_sem])
    | (refine ACall.one (mget_c car a s (by omega)) (by kernel_rfl) rfl ?_; simp only [go_sem])
    | (refine ACall.one (mget_c (mergeF [[posF bk a s], [getP car (a, s)]]).1 a s (by omega)) (by kernel_rfl) rfl ?_; simp only [go_sem])
    | (refine ACall.one (mall_c [[posF bk a s], [getP car (a, s)]] (by simp) (by simp)) (by kernel_rfl) rfl ?_; simp only [go_sem])
    | (refine AGet.haveM (by assumption) ?_; (try simp only [go_sem]))
    | (refine AGet.have' (by assumption) ?_; (try simp only [go_sem]))
    | ((first | refine AGet.nth ?_ (fun b hb => ?_) | refine AGet.nth1 ?_ (fun b hb => ?_) | with_reducible refine And.intro ?_ ?_); (focus (first | omega | assumption | exact List.length_pos_iff.2 (by assumption) | (simp only [List.length_append, List.length_cons, List.length_nil, List.length_map, List.length_take, List.length_drop] at *; omega) | (rw [wrap64_id (by omega) (by omega)]; omega) | (simp; done) | (simp [spare_len]; done) | (exact ⟨by omega, by omega⟩))); (try simp only [hb, go_sem]))
    | (
        refine AWP.ret ?_
        refine AEnd.is ?_; simp only [go_sem, out_v, out_s, out_n, v_int, v_bool, v_str] <;> (first | (unfold hasR; rw [if_pos (by assumption)]; done) | (unfold hasR; rw [if_pos (by assumption)]; simp; done) | (unfold hasR; rw [if_neg (by simp_all)]; done) | (unfold hasR; rw [if_neg (by simp_all)]; simp; done) | skip))
    | refine AWP.fin (by assumption) ?_
    | fail)

set_option maxHeartbeats 4000000 in
set_option maxRecDepth 8000 in
theorem rworst_c (bk : Bk) (car : List Po) (a s : Bs) (hcar : car.length ≤ 1000000) (ho : bk.orders.length ≤ 1000000) (hf : bk.fills.length ≤ 1000000) (hi : bk.ids.length ≤ 1000000) : ACalls E 10 [bkV bk, posV car, str a, str s] (fun r t => r = wV (worstR bk car a s) ∧ t = []) := by -- checkroll/roll.Worst
  refine ACalls.of_awp (n := 30) (rs := [.cell 8 44]) Try.func10 rfl Try.ntmps10 rfl ?_
  repeat' (first
    | refine AWP.seqk fun K hK => ?_
    | (refine AWP.region ?_; simp only [go_sem])
    | (refine hK _ ?_; clear hK K)
    | refine AWP.block ?_
    | refine AWP.cond rfl (fun c => ?_) (fun c => ?_) <;> first | exact Bool.noConfusion c | (try simp only [dD] at c)
    | refine AWP.skip ?_
    | (refine AWP.exit ?_; simp only [go_sem])
    | (refine ACall.one (eof_c bk a s (by omega) (by omega) (by omega)) (by kernel_rfl) rfl ?_; simp only [go_sem])
    | (refine ACall.one (mget_c car a s (by omega)) (by kernel_rfl) rfl ?_; simp only [go_sem])
    | (refine ACall.one (plus_c (ofF bk a s) ((getP car (a, s)).qty, IntKind.i64.wrap (0 - (getP car (a, s)).qty))) (by kernel_rfl) rfl ?_; simp only [go_sem])
    | (refine AGet.haveM (by assumption) ?_; (try simp only [go_sem]))
    | (refine AGet.have' (by assumption) ?_; (try simp only [go_sem]))
    | ((first | refine AGet.nth ?_ (fun b hb => ?_) | refine AGet.nth1 ?_ (fun b hb => ?_) | with_reducible refine And.intro ?_ ?_); (focus (first | omega | assumption | exact List.length_pos_iff.2 (by assumption) | (simp only [List.length_append, List.length_cons, List.length_nil, List.length_map, List.length_take, List.length_drop] at *; omega) | (rw [wrap64_id (by omega) (by omega)]; omega) | (simp; done) | (simp [spare_len]; done) | (exact ⟨by omega, by omega⟩))); (try simp only [hb, go_sem]))
    | (
        refine AWP.ret ?_
        refine AEnd.is ?_; simp only [go_sem, out_v, out_s, out_n, v_int, v_bool, v_str] <;> (first | (unfold worstR; rw [if_pos (by assumption)]; exact ⟨rfl, rfl⟩) | (unfold worstR; rw [if_neg (by simp_all)]; exact ⟨rfl, rfl⟩) | (unfold worstR; rw [if_pos (by assumption)]; done) | (unfold worstR; rw [if_neg (by simp_all)]; done) | (unfold worstR; rw [if_neg (by simp_all)]; simp; done) | skip))
    | refine AWP.fin (by assumption) ?_
    | fail)

set_option maxHeartbeats 4000000 in
set_option maxRecDepth 8000 in
theorem awake25_c  : ACalls E 4 [] (fun r t => r = bl true ∧ t = []) := by -- checkroll/checkrolllaw25.awake
  refine ACalls.of_awp (n := 67) (rs := [.tmp 0]) Try.func4 rfl Try.ntmps4 rfl ?_
  repeat' (first
    | refine AWP.seqk fun K hK => ?_
    | (refine AWP.region ?_; simp only [go_sem, aw_close, aw_has, aw_worst, aw_fl1, aw_fl0, decide_true])
    | (refine hK _ ?_; clear hK K)
    | refine AWP.block ?_
    | refine AWP.cond rfl (fun c => ?_) (fun c => ?_) <;> first | exact Bool.noConfusion c | (try simp only [dD] at c)
    | refine AWP.skip ?_
    | (refine AWP.exit ?_; simp only [go_sem, aw_close, aw_has, aw_worst, aw_fl1, aw_fl0, decide_true])
    | (refine ACall.one (nil_arg1 (k := 8) (rclose_c awB (by decide) (by decide) (by decide))) (by kernel_rfl) rfl ?_; simp only [go_sem, aw_close, aw_has, aw_worst, aw_fl1, aw_fl0, decide_true])
    | (refine ACall.one (rhas_c awN [⟨[99], [115], 4, 20, false⟩] [99] [115] (by decide) (by decide) (by decide) (by decide)) (by kernel_rfl) rfl ?_; simp only [go_sem, aw_close, aw_has, aw_worst, aw_fl1, aw_fl0, decide_true])
    | (refine ACall.one (rworst_c awN [⟨[99], [115], 4, 20, false⟩] [99] [115] (by decide) (by decide) (by decide) (by decide)) (by kernel_rfl) rfl ?_; simp only [go_sem, aw_close, aw_has, aw_worst, aw_fl1, aw_fl0, decide_true])
    | (refine AGuard.splitN (fun h => ?_) (fun h => ?_) <;> simp only [h, go_sem, aw_close, aw_has, aw_worst, aw_fl1, aw_fl0, decide_true] <;> (try simp only [dD] at h))
    | (refine AGuard.split (fun h => ?_) (fun h => ?_) <;> simp only [h, go_sem, aw_close, aw_has, aw_worst, aw_fl1, aw_fl0, decide_true] <;> (try simp only [dD] at h))
    | (refine AGet.haveM (by assumption) ?_; (try simp only [go_sem, aw_close, aw_has, aw_worst, aw_fl1, aw_fl0, decide_true]))
    | (refine AGet.have' (by assumption) ?_; (try simp only [go_sem, aw_close, aw_has, aw_worst, aw_fl1, aw_fl0, decide_true]))
    | ((first | refine AGet.nth ?_ (fun b hb => ?_) | refine AGet.nth1 ?_ (fun b hb => ?_) | with_reducible refine And.intro ?_ ?_); (focus (first | omega | assumption | exact List.length_pos_iff.2 (by assumption) | (simp only [List.length_append, List.length_cons, List.length_nil, List.length_map, List.length_take, List.length_drop] at *; omega) | (rw [wrap64_id (by omega) (by omega)]; omega) | (simp; done) | (simp [spare_len]; done) | (exact ⟨by omega, by omega⟩))); (try simp only [hb, go_sem, aw_close, aw_has, aw_worst, aw_fl1, aw_fl0, decide_true]))
    | (
        refine AWP.ret ?_
        refine AEnd.is ?_; simp only [go_sem, out_v, out_s, out_n, v_int, v_bool, v_str] <;> (first | rfl | (simp; done) | skip))
    | refine AWP.fin (by assumption) ?_
    | fail)

set_option maxHeartbeats 4000000 in
set_option maxRecDepth 8000 in
theorem r13same_c (a d : List Po) (ha : a.length ≤ 1000000) (hd : d.length ≤ 1000000) : ACalls E 7 [posV a, posV d] (fun r t => r = bl (samePs a d) ∧ t = []) := by -- checkroll/checkrollref13.Same
  refine ACalls.of_awp (n := 26) (rs := [.tmp 4]) Try.func7 rfl Try.ntmps7 rfl ?_
  repeat' (first
    | refine AWP.seqk fun K hK => ?_
    | (
        refine AWP.here 6 17 9 rfl ?_
        obtain ⟨x, hx⟩ : ∃ x, a[i]? = some x := ⟨_, List.getElem?_eq_getElem (by omega)⟩
        obtain ⟨y, hy⟩ : ∃ y, d[i]? = some y := ⟨_, List.getElem?_eq_getElem (by omega)⟩
        refine AWP.regionO [0, 1, 2, 3, 4, 5, 6, 7, 8] [] (by kernel_rfl) (by kernel_rfl) rfl ?_; simp only [go_sem])
    | (refine AWP.region ?_; simp only [go_sem])
    | (refine AWP.here 6 17 9 rfl ?_; refine AWP.regionO [0, 1, 2, 3, 4, 5, 6, 7, 8] [] (by kernel_rfl) (by kernel_rfl) rfl ?_; simp only [go_sem])
    | (refine hK _ ?_; clear hK K)
    | refine AWP.block ?_
    | refine AWP.cond rfl (fun c => ?_) (fun c => ?_) <;> first | exact Bool.noConfusion c | (try simp only [dD] at c)
    | refine AWP.skip ?_
    | (refine AWP.exit ?_; simp only [go_sem])
    | (refine AGet.haveM (by assumption) ?_; (try simp only [go_sem]))
    | (refine AGet.have' (by assumption) ?_; (try simp only [go_sem]))
    | ((first | refine AGet.nth ?_ (fun b hb => ?_) | refine AGet.nth1 ?_ (fun b hb => ?_) | with_reducible refine And.intro ?_ ?_); (focus (first | omega | assumption | exact List.length_pos_iff.2 (by assumption) | (simp only [List.length_append, List.length_cons, List.length_nil, List.length_map, List.length_take, List.length_drop] at *; omega) | (rw [wrap64_id (by omega) (by omega)]; omega) | (simp; done) | (simp [spare_len]; done) | (exact ⟨by omega, by omega⟩))); (try simp only [hb, go_sem]))
    | (
        refine AWP.here 4 11 4 rfl ?_
        refine AWP.loopN (ι := Nat) [4, 11, 12, 13, 14, 15, 16, 17, 18, 19, 20, 21, 22, 23, 24, 25] (fun (i : Nat) => [(5, i64 i)]) (fun (i : Nat) => i ≤ a.length ∧ a.length = d.length ∧ a.take i = d.take i) (fun (i : Nat) => a.length - i) (0) ?_ ?_ ?_
        · (try simp only [go_sem]); (repeat' (first | refine And.intro ?_ ?_ | exact .inl rfl | exact .inr rfl | exact .inr ⟨rfl, rfl⟩ | trivial | exact .inr (oblA rfl) | exact .inr ⟨rfl, oblA rfl⟩ | exact .inr bel_strs | exact .inr ⟨rfl, bel_strs⟩ | exact .inr ⟨by simp, bel_strs⟩ | (simp; done) | exact .inr ⟨rfl, by simp⟩ | exact .inr ⟨by simp, by simp⟩)); done
        · exact ⟨by omega, by omega, rfl⟩
        rintro i ⟨h1, h2, h3⟩
        simp only [go_sem])
    | (
        refine ⟨i + 1, ?_, ?_, ?_⟩
        · (try simp only [go_sem]); (try rw [wrap64_id (by omega) (by omega)]); (repeat' (first | refine And.intro ?_ ?_ | exact .inl rfl | exact .inr rfl | exact .inr ⟨rfl, rfl⟩ | trivial | exact .inr (oblA rfl) | exact .inr ⟨rfl, oblA rfl⟩ | exact .inr bel_strs | exact .inr ⟨rfl, bel_strs⟩ | exact .inr ⟨by simp, bel_strs⟩ | (simp; done) | exact .inr ⟨rfl, by simp⟩ | exact .inr ⟨by simp, by simp⟩)); done
        · exact ⟨by omega, h2, by rw [take_next hx, take_next hy, h3, show x = y from po_eq (by assumption)]⟩
        · (try simp only []); omega)
    | (
        refine AWP.ret ?_
        refine AEnd.is ?_; simp only [go_sem, out_v, out_s, out_n, v_int, v_bool, v_str] <;> (first | (rw [same_len (by omega)]; done) | (rw [same_at hx hy (po_ne (by assumption))]; done) | (rw [same_end (by omega) h2 h3]; done) | skip))
    | refine AWP.fin (by assumption) ?_
    | fail)

set_option maxHeartbeats 4000000 in
set_option maxRecDepth 8000 in
theorem r14short_c (ls : List (List Po)) (hl : ls.length ≤ 1000000) (hl2 : ∀ l ∈ ls, l.length ≤ 9223372036854775807) : ACalls E 5 [pssV ls] (fun r t => r = bl (shortPs ls) ∧ t = []) := by -- checkroll/checkrollref14.Short
  refine ACalls.of_awp (n := 19) (rs := [.tmp 2]) Try.func5 rfl Try.ntmps5 rfl ?_
  repeat' (first
    | refine AWP.seqk fun K hK => ?_
    | (
        refine AWP.here 6 13 6 rfl ?_
        obtain ⟨l, hx⟩ : ∃ l, ls[i]? = some l := ⟨_, List.getElem?_eq_getElem (by omega)⟩
        have hll := hl2 l (List.mem_of_getElem? hx)
        refine AWP.region ?_; simp only [go_sem])
    | (refine AWP.region ?_; simp only [go_sem])
    | (refine hK _ ?_; clear hK K)
    | refine AWP.block ?_
    | refine AWP.cond rfl (fun c => ?_) (fun c => ?_) <;> first | exact Bool.noConfusion c | (try simp only [dD] at c)
    | refine AWP.skip ?_
    | (refine AWP.exit ?_; simp only [go_sem])
    | (refine AGet.haveM (by assumption) ?_; (try simp only [go_sem]))
    | (refine AGet.have' (by assumption) ?_; (try simp only [go_sem]))
    | ((first | refine AGet.nth ?_ (fun b hb => ?_) | refine AGet.nth1 ?_ (fun b hb => ?_) | with_reducible refine And.intro ?_ ?_); (focus (first | omega | assumption | exact List.length_pos_iff.2 (by assumption) | (simp only [List.length_append, List.length_cons, List.length_nil, List.length_map, List.length_take, List.length_drop] at *; omega) | (rw [wrap64_id (by omega) (by omega)]; omega) | (simp; done) | (simp [spare_len]; done) | (exact ⟨by omega, by omega⟩))); (try simp only [hb, go_sem]))
    | (
        refine AWP.here 4 7 4 rfl ?_
        refine AWP.loopN (ι := Nat) [2, 7, 8, 9, 10, 11, 12, 13, 14, 15, 16, 17, 18] (fun (i : Nat) => [(3, i64 i)]) (fun (i : Nat) => i ≤ ls.length ∧ ls.length ≤ 8 ∧ (ls.take i).all (fun l => decide (l.length ≤ 20)) = true) (fun (i : Nat) => ls.length - i) (0) ?_ ?_ ?_
        · (try simp only [go_sem]); (repeat' (first | refine And.intro ?_ ?_ | exact .inl rfl | exact .inr rfl | exact .inr ⟨rfl, rfl⟩ | trivial | exact .inr (oblA rfl) | exact .inr ⟨rfl, oblA rfl⟩ | exact .inr bel_strs | exact .inr ⟨rfl, bel_strs⟩ | exact .inr ⟨by simp, bel_strs⟩ | (simp; done) | exact .inr ⟨rfl, by simp⟩ | exact .inr ⟨by simp, by simp⟩)); done
        · exact ⟨by omega, by omega, rfl⟩
        rintro i ⟨h1, h2, h3⟩
        simp only [go_sem])
    | (
        refine ⟨i + 1, ?_, ?_, ?_⟩
        · (try simp only [go_sem]); (try rw [wrap64_id (by omega) (by omega)]); (repeat' (first | refine And.intro ?_ ?_ | exact .inl rfl | exact .inr rfl | exact .inr ⟨rfl, rfl⟩ | trivial | exact .inr (oblA rfl) | exact .inr ⟨rfl, oblA rfl⟩ | exact .inr bel_strs | exact .inr ⟨rfl, bel_strs⟩ | exact .inr ⟨by simp, bel_strs⟩ | (simp; done) | exact .inr ⟨rfl, by simp⟩ | exact .inr ⟨by simp, by simp⟩)); done
        · exact ⟨by omega, h2, by rw [take_next hx, List.all_append, h3]; simp; omega⟩
        · (try simp only []); omega)
    | (
        refine AWP.ret ?_
        refine AEnd.is ?_; simp only [go_sem, out_v, out_s, out_n, v_int, v_bool, v_str] <;> (first | (unfold shortPs; rw [decide_eq_false (by omega)]; rfl) | (rw [shortPs_no hx (by omega)]; done) | (unfold shortPs; rw [decide_eq_true (by omega), List.take_of_length_le (by omega)] at *; rw [h3]; rfl) | (rw [shortPs_yes (by omega) (by omega) h3]; done) | skip))
    | refine AWP.fin (by assumption) ?_
    | fail)


end Go.Proofs.Ytajeeghgiilhiaa
