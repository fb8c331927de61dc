/- Texts of one chain, put together (K4, G2, T5, K5, K6, Shf, Ly, T6). -/
import Derived.Test.YtajeeghgiilhiaaGreatKrG
import Derived.Test.YtajeeghgiilhiaaGreatKrH
import Derived.Shelf.SlGeneric
import Derived.Shelf.SlSortCmp.WholeK
import Derived.Ground.SlsfProg
import Derived.Test.YtajeeghgiilhiaaGreatProg
import Derived.Shelf.GgSortFunc.InsertionK
import Derived.Test.YtajeeghgiilhiaaGreatKrE
section
set_option linter.unusedVariables false
set_option linter.unusedSimpArgs false
namespace Go.Proofs.YtajeeghgiilhiaaGreat
open Go Go.Abs Go.RowKit Go.Bk
theorem put_in {l os : List Po} {p x : Po} {i : Nat} {d : Bool} (hx : l[i]? = some x) (h2 : (os, d) = scanP p (l.take i)) (hd : d = false) (h : ltP p x = true) : (os ++ [p] ++ [x], true) = scanP p (l.take (i + 1)) := by
  rw [scan_next hx, ← h2]; unfold stepP; rw [if_pos ⟨hd, h⟩]
theorem put_on {l os : List Po} {p x : Po} {i : Nat} {d : Bool} (hx : l[i]? = some x) (h2 : (os, d) = scanP p (l.take i)) (h : d = true ∨ ltP p x = false) : (os ++ [x], d) = scanP p (l.take (i + 1)) := by
  rw [scan_next hx, ← h2]; unfold stepP; rw [if_neg (by rcases h with h | h <;> simp [h])]
theorem put_tt {l os : List Po} {p x : Po} {i : Nat} {d : Bool} (hx : l[i]? = some x) (h2 : (os, d) = scanP p (l.take i)) (h : d = true) : (os ++ [x], true) = scanP p (l.take (i + 1)) := by
  rw [← put_on hx h2 (.inl h), h]
theorem put_ff {l os : List Po} {p x : Po} {i : Nat} {d : Bool} (hx : l[i]? = some x) (h2 : (os, d) = scanP p (l.take i)) (h : d = false) (h3 : ltP p x = false) : (os ++ [x], false) = scanP p (l.take (i + 1)) := by
  rw [← put_on hx h2 (.inr h3), h]
theorem less_m {x y : Po} (h1 : ¬ x.acc < y.acc) (h2 : x.acc = y.acc) : decide (x.sym < y.sym) = ltP x y := by
  rw [ltP_b, decide_eq_false h1, decide_eq_true h2]; rfl
theorem put_at {l : List Po} {p x : Po} {i : Nat} (hx : l[i]? = some x) (h : x.acc = p.acc ∧ x.sym = p.sym) : putF l p = l :=
  put_has (List.any_eq_true.2 ⟨x, List.mem_of_getElem? hx, by simp [nmP, h.1, h.2]⟩)
theorem put_end {l os : List Po} {p : Po} {i : Nat} {d : Bool} (hi : l.length ≤ i) (h2 : (os, d) = scanP p (l.take i)) (h3 : ∀ k y, k < i → l[k]? = some y → ¬ (y.acc = p.acc ∧ y.sym = p.sym)) : putF l p = if d = true then os else os ++ [p] := by
  rw [List.take_of_length_le hi] at h2
  have hn : hasN (nmP p) l = false := by
    unfold hasN
    rw [List.any_eq_false]
    intro e he
    obtain ⟨k, hk, e2⟩ := List.mem_iff_getElem.1 he
    have := h3 k e (by omega) (by rw [List.getElem?_eq_getElem hk, e2])
    simp only [decide_eq_true_eq]
    intro e3
    exact this ⟨congrArg Prod.fst e3, congrArg Prod.snd e3⟩
  unfold putF
  rw [if_neg (by simp [hn]), ← h2]
theorem mul_bnd (a b : Int) : -4611686018427387904 ≤ (mulF a b).1 ∧ (mulF a b).1 ≤ 4611686018427387904 := by
  unfold mulF; split
  · rename_i h; simp only [Bool.and_eq_true] at h; exact numB_iff.1 h.2
  · simp
theorem vb1 {f : Dn} (h : f.buy = true) : (valF f).1 = (mulF f.qty f.price).1 := by unfold valF; rw [sgn_buy h]
theorem vs1 {f : Dn} (h : f.buy = false) : (valF f).1 = -(mulF f.qty f.price).1 := by unfold valF; rw [sgn_sell h, mulF_neg]
theorem vo1 {f : Dn} : (valF f).2 = (mulF f.qty f.price).2 := by
  cases h : f.buy with
  | true => unfold valF; rw [sgn_buy h]
  | false => unfold valF; rw [sgn_sell h, mulF_neg]
structure GR (bk : Bk) (acc sym : Bs) (i : Nat) (qs vs : List Int) (ov : Bool) : Prop where
  le : i ≤ bk.fills.length
  q : qs = (upM bk acc sym i).map sgn
  v : vs = (upM bk acc sym i).map fun f => (valF f).1
  o : ov = (upM bk acc sym i).any fun f => !(valF f).2
section
variable {bk : Bk} {acc sym : Bs} {i : Nat} {qs vs : List Int} {ov : Bool} {f : Dn}
theorem GR.zero : GR bk acc sym 0 [] [] false := ⟨by omega, rfl, rfl, rfl⟩
theorem GR.lens (h : GR bk acc sym i qs vs ov) (hr : rightBk bk = true) : qs.length ≤ 256 ∧ vs.length ≤ 256 := by
  have h1 : (upM bk acc sym i).length ≤ bk.fills.length := by
    unfold upM matsF
    refine Nat.le_trans (List.length_filter_le _ _) ?_
    rw [List.length_take]; omega
  have h2 := right_lens2 hr
  rw [h.q, h.v, List.length_map, List.length_map]; omega
theorem GR.no (h : GR bk acc sym i qs vs ov) (hb : bk.fills[i]? = some f) (hm : ¬ (f.live = true ∧ f.acc = acc ∧ f.sym = sym)) : GR bk acc sym (i + 1) qs vs ov := by
  have e := upM_no hb hm
  have := (List.getElem?_eq_some_iff.1 hb).1
  exact ⟨by omega, by rw [e]; exact h.q, by rw [e]; exact h.v, by rw [e]; exact h.o⟩
theorem GR.yes (h : GR bk acc sym i qs vs ov) (hb : bk.fills[i]? = some f) (hm : f.live = true ∧ f.acc = acc ∧ f.sym = sym) {q v : Int} {o : Bool} (hq : sgn f = q) (hv : (valF f).1 = v) (ho : o = (ov || !(valF f).2)) : GR bk acc sym (i + 1) (qs ++ [q]) (vs ++ [v]) o := by
  have e := upM_yes hb hm
  have := (List.getElem?_eq_some_iff.1 hb).1
  refine ⟨by omega, ?_, ?_, ?_⟩
  · rw [e, List.map_append, ← h.q, ← hq]; rfl
  · rw [e, List.map_append, ← h.v, ← hv]; rfl
  · rw [e, List.any_append, ← h.o, ho]; simp
theorem up_all (hi : bk.fills.length ≤ i) : upM bk acc sym i = matsF acc sym bk.fills := by unfold upM; rw [List.take_of_length_le hi]
theorem of_over (h : GR bk acc sym i qs vs ov) (hr : rightBk bk = true) (hi : bk.fills.length ≤ i) (c : ov = true ∨ (sumF qs).2 = false ∨ (sumF vs).2 = false) : posF bk acc sym = ⟨acc, sym, 0, 0, true⟩ := by
  have h1 := h.q; have h2 := h.v; have h3 := h.o
  rw [up_all hi] at h1 h2 h3
  unfold posF posG
  rw [if_pos hr, ← h1, ← h2, if_neg]
  rintro h4
  simp only [Bool.and_eq_true, List.all_eq_true] at h4
  rcases c with c | c | c
  · rw [c] at h3
    obtain ⟨f, hf, h5⟩ := List.any_eq_true.1 h3.symm
    have := h4.1 f hf
    rw [this] at h5; exact absurd h5 (by simp)
  · rw [c] at h4; exact absurd h4.2.1 (by simp)
  · rw [c] at h4; exact absurd h4.2.2 (by simp)
theorem of_ok (h : GR bk acc sym i qs vs ov) (hr : rightBk bk = true) (hi : bk.fills.length ≤ i) (c : ov = false) (c1 : (sumF qs).2 = true) (c2 : (sumF vs).2 = true) : posF bk acc sym = ⟨acc, sym, (sumF qs).1, (sumF vs).1, false⟩ := by
  have h1 := h.q; have h2 := h.v; have h3 := h.o
  rw [up_all hi] at h1 h2 h3
  unfold posF posG
  rw [if_pos hr, ← h1, ← h2, if_pos]
  simp only [Bool.and_eq_true, List.all_eq_true]
  refine ⟨fun f hf => ?_, c1, c2⟩
  rw [c] at h3
  have := List.any_eq_false.1 h3.symm f hf
  simpa using this
end
theorem all_not {bk : Bk} (h : rightBk bk = false) : allP bk = [] := by unfold allP; rw [if_neg (by simp [h])]
theorem lt_cmp {x y : Po} (h : ltP x y = true) : cmpN (nmP x) (nmP y) < 0 := by unfold ltP ltN at h; simpa using h
theorem nlt_cmp {x y : Po} (h : ltP x y = false) : 0 ≤ cmpN (nmP x) (nmP y) := by unfold ltP ltN at h; simpa using h

set_option maxHeartbeats 4000000 in
set_option maxRecDepth 8000 in
theorem r13less_c (x y : Po) : ACalls E 63 [poV x, poV y] (fun r t => r = bl (ltP x y) ∧ t = []) := by -- checkroll/checkrollref13.Less
  refine ACalls.of_awp (n := 24) (rs := [.tmp 4]) Tryz.func63 rfl Tryz.ntmps63 rfl ?_
  repeat' (first
    | refine AWP.seqk fun K hK => ?_
    | (refine AWP.region ?_; simp only [go_sem, Go.Proofs.bytesLess_eq])
    | (refine hK _ ?_; clear hK K)
    | refine AWP.block ?_
    | refine AWP.cond rfl (fun c => ?_) (fun c => ?_) <;> first | exact Bool.noConfusion c | (try simp only [dD] at c)
    | refine AWP.skip ?_
    | (refine AWP.exit ?_; simp only [go_sem, Go.Proofs.bytesLess_eq])
    | (refine AGuard.splitN (fun h => ?_) (fun h => ?_) <;> simp only [h, go_sem, Go.Proofs.bytesLess_eq] <;> (try simp only [dD] at h))
    | (refine AGuard.split (fun h => ?_) (fun h => ?_) <;> simp only [h, go_sem, Go.Proofs.bytesLess_eq] <;> (try simp only [dD] at h))
    | (refine AGet.haveM (by assumption) ?_; (try simp only [go_sem, Go.Proofs.bytesLess_eq]))
    | (refine AGet.have' (by assumption) ?_; (try simp only [go_sem, Go.Proofs.bytesLess_eq]))
    | ((first | refine AGet.nth ?_ (fun b hb => ?_) | refine AGet.nth1 ?_ (fun b hb => ?_) | with_reducible refine And.intro ?_ ?_); (focus (first | omega | assumption | exact List.length_pos_iff.2 (by assumption) | (simp only [List.length_append, List.length_cons, List.length_nil, List.length_map, List.length_take, List.length_drop] at *; omega) | (rw [wrap64_id (by omega) (by omega)]; omega) | (simp; done) | (simp [spare_len]; done) | (exact ⟨by omega, by omega⟩))); (try simp only [hb, go_sem, Go.Proofs.bytesLess_eq]))
    | (
        refine AWP.ret ?_
        refine AEnd.is ?_; simp only [go_sem, out_v, out_s, out_n, v_int, v_bool, v_str] <;> (first | exact less_m (by assumption) (by assumption) | (rw [ltP_b]; simp [*]; done) | (rw [ltP_b]; simp_all; done) | skip))
    | refine AWP.fin (by assumption) ?_
    | fail)

set_option maxHeartbeats 8000000 in
set_option maxRecDepth 8000 in
theorem r13put_c (l : List Po) (p : Po) (hl : l.length ≤ 1000000) : ACalls E 136 [posV l, poV p] (fun r t => r = posV (putF l p) ∧ t = []) := by -- checkroll/checkrollref13.Put
  refine ACalls.of_awp (n := 61) (rs := [.tmp 4]) Tryz.func136 rfl Tryz.ntmps136 rfl ?_
  repeat' (first
    | refine AWP.seqk fun K hK => ?_
    | (
        refine AWP.here 6 14 18 rfl ?_
        obtain ⟨x, hx⟩ : ∃ x, l[i]? = some x := ⟨_, List.getElem?_eq_getElem (by omega)⟩
        refine AWP.regionO [0, 1, 2, 3, 4, 5, 6, 7, 8, 9, 10, 11, 12, 13, 14, 15, 16, 17] [] (by kernel_rfl) (by kernel_rfl) rfl ?_; simp only [go_sem])
    | (refine AWP.region ?_; simp only [go_sem])
    | (refine AWP.here 6 14 18 rfl ?_; refine AWP.regionO [0, 1, 2, 3, 4, 5, 6, 7, 8, 9, 10, 11, 12, 13, 14, 15, 16, 17] [] (by kernel_rfl) (by kernel_rfl) rfl ?_; simp only [go_sem])
    | (refine AWP.here 8 33 10 rfl ?_; refine AWP.regionO [0, 1, 2, 3, 4, 5, 6, 7, 8, 9] [] (by kernel_rfl) (by kernel_rfl) rfl ?_; simp only [go_sem])
    | (refine hK _ ?_; clear hK K)
    | refine AWP.block ?_
    | refine AWP.cond rfl (fun c => ?_) (fun c => ?_) <;> first | exact Bool.noConfusion c | (try simp only [dD] at c)
    | refine AWP.skip ?_
    | (refine AWP.exit ?_; simp only [go_sem])
    | (refine ACall.one (r13less_c p x) (by kernel_rfl) rfl ?_; simp only [go_sem])
    | (refine AGuard.splitN (fun h => ?_) (fun h => ?_) <;> simp only [h, go_sem] <;> (try simp only [dD] at h))
    | (refine AGuard.split (fun h => ?_) (fun h => ?_) <;> simp only [h, go_sem] <;> (try simp only [dD] at h))
    | (refine AGet.haveM (by assumption) ?_; (try simp only [go_sem]))
    | (refine AGet.have' (by assumption) ?_; (try simp only [go_sem]))
    | ((first | refine AGet.nth ?_ (fun b hb => ?_) | refine AGet.nth1 ?_ (fun b hb => ?_) | with_reducible refine And.intro ?_ ?_); (focus (first | omega | assumption | exact List.length_pos_iff.2 (by assumption) | (simp only [List.length_append, List.length_cons, List.length_nil, List.length_map, List.length_take, List.length_drop] at *; omega) | (rw [wrap64_id (by omega) (by omega)]; omega) | (simp; done) | (simp [spare_len]; done) | (exact ⟨by omega, by omega⟩))); (try simp only [hb, go_sem]))
    | (
        refine AWP.here 4 8 4 rfl ?_
        refine AWP.nilTok 5 5 rfl ?_
        simp only [go_sem]
        refine AWP.loopM (ι := Nat × List Po × Bool) [4, 8, 9, 10, 11, 12, 13, 14, 15, 16, 17, 18, 19, 20, 21, 22, 23, 24, 25, 26, 27, 28, 29, 30, 31, 32, 33, 34, 35, 36, 37, 38, 39, 40, 41, 42, 43, 44, 45, 46, 47, 48, 49, 50, 51, 52, 53] (fun ⟨i, os, d⟩ => [(7, i64 i), (5, .sl (some 0) 5 (os.map poV)), (6, bl d)]) (fun ⟨i, os, d⟩ => [some [.agg [str p.acc, str p.sym, i64 p.qty, i64 p.value, bl p.over]]]) (fun ⟨i, os, d⟩ => [os.length]) (fun ⟨i, os, d⟩ => i ≤ l.length ∧ (os, d) = scanP p (l.take i) ∧ (∀ k y, k < i → l[k]? = some y → ¬ (y.acc = p.acc ∧ y.sym = p.sym)) ∧ os.length ≤ 2 * i) (fun ⟨i, os, d⟩ => l.length - i) ((0, [], false)) ?_ ?_ ?_
        · (try simp only [go_sem]); (repeat' (first | refine And.intro ?_ ?_ | exact .inl rfl | exact .inr rfl | exact .inr ⟨rfl, rfl⟩ | trivial | exact .inr (oblA rfl) | exact .inr ⟨rfl, oblA rfl⟩ | exact .inr bel_strs | exact .inr ⟨rfl, bel_strs⟩ | exact .inr ⟨by simp, bel_strs⟩ | (simp; done) | exact .inr ⟨rfl, by simp⟩ | exact .inr ⟨by simp, by simp⟩)); done
        · exact ⟨by omega, rfl, fun k y hk => by omega, by simp⟩
        rintro ⟨i, os, d⟩ ⟨h1, h2, h3, h4⟩
        simp only [go_sem])
    | (
        first
        | (refine ⟨(i + 1, os ++ [p] ++ [x], true), ?_, ⟨by show i + 1 ≤ l.length; omega, put_in hx h2 (by assumption) (by assumption), noneP_next h3 hx (by (try clear hK); simp_all), by show (os ++ [p] ++ [x]).length ≤ 2 * (i + 1); simp only [List.length_append, List.length_cons, List.length_nil]; omega⟩, by show l.length - (i + 1) < l.length - i; omega⟩
           (try simp only [go_sem]); (try rw [wrap64_id (by omega) (by omega)]); (repeat' (first | refine And.intro ?_ ?_ | exact .inl rfl | exact .inr rfl | exact .inr ⟨rfl, rfl⟩ | trivial | exact .inr (oblA rfl) | exact .inr ⟨rfl, oblA rfl⟩ | exact .inr bel_strs | exact .inr ⟨rfl, bel_strs⟩ | exact .inr ⟨by simp, bel_strs⟩ | (simp; done) | exact .inr ⟨rfl, by simp⟩ | exact .inr ⟨by simp, by simp⟩)); done)
        | (refine ⟨(i + 1, os ++ [x], true), ?_, ⟨by show i + 1 ≤ l.length; omega, put_tt hx h2 (by assumption), noneP_next h3 hx (by (try clear hK); simp_all), by show (os ++ [x]).length ≤ 2 * (i + 1); simp only [List.length_append, List.length_cons, List.length_nil]; omega⟩, by show l.length - (i + 1) < l.length - i; omega⟩
           (try simp only [go_sem]); (try rw [wrap64_id (by omega) (by omega)]); (repeat' (first | refine And.intro ?_ ?_ | exact .inl rfl | exact .inr rfl | exact .inr ⟨rfl, rfl⟩ | trivial | exact .inr (oblA rfl) | exact .inr ⟨rfl, oblA rfl⟩ | exact .inr bel_strs | exact .inr ⟨rfl, bel_strs⟩ | exact .inr ⟨by simp, bel_strs⟩ | (simp; done) | exact .inr ⟨rfl, by simp⟩ | exact .inr ⟨by simp, by simp⟩)); done)
        | (refine ⟨(i + 1, os ++ [x], false), ?_, ⟨by show i + 1 ≤ l.length; omega, put_ff hx h2 (by assumption) (by assumption), noneP_next h3 hx (by (try clear hK); simp_all), by show (os ++ [x]).length ≤ 2 * (i + 1); simp only [List.length_append, List.length_cons, List.length_nil]; omega⟩, by show l.length - (i + 1) < l.length - i; omega⟩
           (try simp only [go_sem]); (try rw [wrap64_id (by omega) (by omega)]); (repeat' (first | refine And.intro ?_ ?_ | exact .inl rfl | exact .inr rfl | exact .inr ⟨rfl, rfl⟩ | trivial | exact .inr (oblA rfl) | exact .inr ⟨rfl, oblA rfl⟩ | exact .inr bel_strs | exact .inr ⟨rfl, bel_strs⟩ | exact .inr ⟨by simp, bel_strs⟩ | (simp; done) | exact .inr ⟨rfl, by simp⟩ | exact .inr ⟨by simp, by simp⟩)); done)
        | (refine ⟨(i + 1, os ++ [x], d), ?_, ⟨by show i + 1 ≤ l.length; omega, put_on hx h2 (by first | exact .inl ‹d = true› | exact .inr ‹ltP p x = false›), noneP_next h3 hx (by (try clear hK); simp_all), by show (os ++ [x]).length ≤ 2 * (i + 1); simp only [List.length_append, List.length_cons, List.length_nil]; omega⟩, by show l.length - (i + 1) < l.length - i; omega⟩
           (try simp only [go_sem]); (try rw [wrap64_id (by omega) (by omega)]); (repeat' (first | refine And.intro ?_ ?_ | exact .inl rfl | exact .inr rfl | exact .inr ⟨rfl, rfl⟩ | trivial | exact .inr (oblA rfl) | exact .inr ⟨rfl, oblA rfl⟩ | exact .inr bel_strs | exact .inr ⟨rfl, bel_strs⟩ | exact .inr ⟨by simp, bel_strs⟩ | (simp; done) | exact .inr ⟨rfl, by simp⟩ | exact .inr ⟨by simp, by simp⟩)); done))
    | (
        refine AWP.ret ?_
        refine AEnd.is ?_; simp only [go_sem, out_v, out_s, out_n, v_int, v_bool, v_str] <;> (first | (rw [put_at hx (by (try clear hK); simp_all)]; done) | (rw [put_at hx (by (try clear hK); simp_all)]; simp; done) | (rw [put_end (by omega) h2 h3, if_pos (by assumption)]; done) | (rw [put_end (by omega) h2 h3, if_neg (by simp [*])]; first | done | (simp; done)) | (rw [put_end (by omega) h2 h3]; simp [*]; done) | skip))
    | refine AWP.fin (by assumption) ?_
    | fail)

set_option maxHeartbeats 16000000 in
set_option maxRecDepth 8000 in
theorem r13of_c (bk : Bk) (acc sym : Bs) (hr : rightBk bk = true) : ACalls E 74 [bkV bk, str acc, str sym] (fun r t => r = poV (posF bk acc sym) ∧ t = []) := by -- checkroll/checkrollref13.Of
  refine ACalls.of_awp (n := 107) (rs := [.cell 6 49]) Tryz.func74 rfl Tryz.ntmps74 rfl ?_
  repeat' (first
    | refine AWP.seqk fun K hK => ?_
    | (
        refine AWP.here 6 25 7 rfl ?_
        obtain ⟨f, hb⟩ : ∃ f, bk.fills[i]? = some f := ⟨_, List.getElem?_eq_getElem (by omega)⟩
        have hfa := right_amounts hr f (List.mem_of_getElem? hb)
        have hw : IntKind.i64.wrap (0 - f.qty) = -f.qty := by rw [wrap64_id (by omega) (by omega)]; omega
        have hm := mul_bnd f.qty f.price
        have hw2 : IntKind.i64.wrap (0 - (mulF f.qty f.price).1) = -(mulF f.qty f.price).1 := by rw [wrap64_id (by omega) (by omega)]; omega
        refine AWP.region ?_; simp only [go_sem])
    | (refine AWP.region ?_; simp only [go_sem])
    | (refine hK _ ?_; clear hK K)
    | refine AWP.block ?_
    | refine AWP.cond rfl (fun c => ?_) (fun c => ?_) <;> first | exact Bool.noConfusion c | (try simp only [dD] at c)
    | refine AWP.skip ?_
    | (refine AWP.exit ?_; simp only [go_sem])
    | (refine ACall.one (r1mul_c f.qty f.price) (by kernel_rfl) rfl ?_; simp only [go_sem])
    | (refine ACall.one (r1sum_c qs (by omega)) (by kernel_rfl) rfl ?_; simp only [go_sem])
    | (refine ACall.one (r1sum_c vs (by omega)) (by kernel_rfl) rfl ?_; simp only [go_sem])
    | (refine AGuard.splitN (fun h => ?_) (fun h => ?_) <;> simp only [h, go_sem] <;> (try simp only [dD] at h))
    | (refine AGuard.split (fun h => ?_) (fun h => ?_) <;> simp only [h, go_sem] <;> (try simp only [dD] at h))
    | (refine AGet.haveM (by assumption) ?_; (try simp only [go_sem]))
    | (refine AGet.have' (by assumption) ?_; (try simp only [go_sem]))
    | ((first | refine AGet.nth ?_ (fun b hb => ?_) | refine AGet.nth1 ?_ (fun b hb => ?_) | with_reducible refine And.intro ?_ ?_); (focus (first | omega | assumption | exact List.length_pos_iff.2 (by assumption) | (simp only [List.length_append, List.length_cons, List.length_nil, List.length_map, List.length_take, List.length_drop] at *; omega) | (rw [wrap64_id (by omega) (by omega)]; omega) | (simp; done) | (simp [spare_len]; done) | (exact ⟨by omega, by omega⟩))); (try simp only [hb, go_sem]))
    | (
        refine AWP.here 4 18 5 rfl ?_
        refine AWP.nilTok 7 1 rfl ?_
        refine AWP.nilTok 8 1 rfl ?_
        simp only [go_sem]
        refine AWP.loopM (ι := Nat × List Int × List Int × Bool) [11, 12, 13, 18, 19, 20, 21, 22, 23, 24, 25, 26, 27, 28, 29, 30, 31, 32, 33, 34, 35, 36, 37, 38, 39, 40, 41, 42, 43, 44, 45, 46, 47, 48, 49, 50, 51, 52, 53, 54, 55, 56, 57, 58, 59, 60, 61, 62, 63, 64, 65, 66, 67, 68, 69, 70, 71, 72, 73, 74, 75, 76, 77, 78, 79] (fun ⟨i, qs, vs, ov⟩ => [(10, i64 i), (7, .sl (some 0) 1 (qs.map i64)), (8, .sl (some 1) 1 (vs.map i64)), (9, bl ov)]) (fun ⟨i, qs, vs, ov⟩ => [some [.agg [odsV bk.orders, dnsV bk.fills, .sl none 1 (bk.ids.map str), i64 bk.clock, i64 bk.bad]], some [.agg [str [], str [], i64 0, i64 0, bl false]]]) (fun ⟨i, qs, vs, ov⟩ => [qs.length, vs.length]) (fun ⟨i, qs, vs, ov⟩ => GR bk acc sym i qs vs ov) (fun ⟨i, qs, vs, ov⟩ => bk.fills.length - i) ((0, [], [], false)) ?_ ?_ ?_
        · (try simp only [go_sem]); (repeat' (first | refine And.intro ?_ ?_ | exact .inl rfl | exact .inr rfl | exact .inr ⟨rfl, rfl⟩ | trivial | exact .inr (oblA rfl) | exact .inr ⟨rfl, oblA rfl⟩ | exact .inr bel_strs | exact .inr ⟨rfl, bel_strs⟩ | exact .inr ⟨by simp, bel_strs⟩ | (simp; done) | exact .inr ⟨rfl, by simp⟩ | exact .inr ⟨by simp, by simp⟩)); done
        · exact GR.zero
        rintro ⟨i, qs, vs, ov⟩ hg
        simp only [go_sem]
        have h256 := right_lens2 hr
        have hgl := hg.lens hr)
    | (
        first
        | (refine ⟨(i + 1, qs, vs, ov), ?_, hg.no hb (by first | exact nof1 (by assumption) | exact nof2 (by assumption) | exact nof3 (by assumption)), by show bk.fills.length - (i + 1) < bk.fills.length - i; omega⟩
           (try simp only [go_sem, hw, hw2, *]); (try rw [wrap64_id (by omega) (by omega)]); (repeat' (first | refine And.intro ?_ ?_ | exact .inl rfl | exact .inr rfl | exact .inr ⟨rfl, rfl⟩ | trivial | exact .inr (oblA rfl) | exact .inr ⟨rfl, oblA rfl⟩ | exact .inr bel_strs | exact .inr ⟨rfl, bel_strs⟩ | exact .inr ⟨by simp, bel_strs⟩ | (simp; done) | exact .inr ⟨rfl, by simp⟩ | exact .inr ⟨by simp, by simp⟩)); done)
        | (refine ⟨(i + 1, qs ++ [f.qty], vs ++ [(mulF f.qty f.price).1], true), ?_, hg.yes hb ⟨by assumption, by assumption, by assumption⟩ (sgn_buy (by assumption)) (vb1 (by assumption)) (by rw [‹ov = true›]; rfl), by show bk.fills.length - (i + 1) < bk.fills.length - i; omega⟩
           (try simp only [go_sem, hw, hw2, *]); (try rw [wrap64_id (by omega) (by omega)]); (repeat' (first | refine And.intro ?_ ?_ | exact .inl rfl | exact .inr rfl | exact .inr ⟨rfl, rfl⟩ | trivial | exact .inr (oblA rfl) | exact .inr ⟨rfl, oblA rfl⟩ | exact .inr bel_strs | exact .inr ⟨rfl, bel_strs⟩ | exact .inr ⟨by simp, bel_strs⟩ | (simp; done) | exact .inr ⟨rfl, by simp⟩ | exact .inr ⟨by simp, by simp⟩)); done)
        | (refine ⟨(i + 1, qs ++ [f.qty], vs ++ [(mulF f.qty f.price).1], !(mulF f.qty f.price).2), ?_, hg.yes hb ⟨by assumption, by assumption, by assumption⟩ (sgn_buy (by assumption)) (vb1 (by assumption)) (by rw [‹ov = false›]; simp [vo1]), by show bk.fills.length - (i + 1) < bk.fills.length - i; omega⟩
           (try simp only [go_sem, hw, hw2, *]); (try rw [wrap64_id (by omega) (by omega)]); (repeat' (first | refine And.intro ?_ ?_ | exact .inl rfl | exact .inr rfl | exact .inr ⟨rfl, rfl⟩ | trivial | exact .inr (oblA rfl) | exact .inr ⟨rfl, oblA rfl⟩ | exact .inr bel_strs | exact .inr ⟨rfl, bel_strs⟩ | exact .inr ⟨by simp, bel_strs⟩ | (simp; done) | exact .inr ⟨rfl, by simp⟩ | exact .inr ⟨by simp, by simp⟩)); done)
        | (refine ⟨(i + 1, qs ++ [f.qty], vs ++ [(mulF f.qty f.price).1], ov), ?_, hg.yes hb ⟨by assumption, by assumption, by assumption⟩ (sgn_buy (by assumption)) (vb1 (by assumption)) (by simp [*, vo1]), by show bk.fills.length - (i + 1) < bk.fills.length - i; omega⟩
           (try simp only [go_sem, hw, hw2, *]); (try rw [wrap64_id (by omega) (by omega)]); (repeat' (first | refine And.intro ?_ ?_ | exact .inl rfl | exact .inr rfl | exact .inr ⟨rfl, rfl⟩ | trivial | exact .inr (oblA rfl) | exact .inr ⟨rfl, oblA rfl⟩ | exact .inr bel_strs | exact .inr ⟨rfl, bel_strs⟩ | exact .inr ⟨by simp, bel_strs⟩ | (simp; done) | exact .inr ⟨rfl, by simp⟩ | exact .inr ⟨by simp, by simp⟩)); done)
        | (refine ⟨(i + 1, qs ++ [-f.qty], vs ++ [-(mulF f.qty f.price).1], true), ?_, hg.yes hb ⟨by assumption, by assumption, by assumption⟩ (sgn_sell (by assumption)) (vs1 (by assumption)) (by rw [‹ov = true›]; rfl), by show bk.fills.length - (i + 1) < bk.fills.length - i; omega⟩
           (try simp only [go_sem, hw, hw2, *]); (try rw [wrap64_id (by omega) (by omega)]); (repeat' (first | refine And.intro ?_ ?_ | exact .inl rfl | exact .inr rfl | exact .inr ⟨rfl, rfl⟩ | trivial | exact .inr (oblA rfl) | exact .inr ⟨rfl, oblA rfl⟩ | exact .inr bel_strs | exact .inr ⟨rfl, bel_strs⟩ | exact .inr ⟨by simp, bel_strs⟩ | (simp; done) | exact .inr ⟨rfl, by simp⟩ | exact .inr ⟨by simp, by simp⟩)); done)
        | (refine ⟨(i + 1, qs ++ [-f.qty], vs ++ [-(mulF f.qty f.price).1], !(mulF f.qty f.price).2), ?_, hg.yes hb ⟨by assumption, by assumption, by assumption⟩ (sgn_sell (by assumption)) (vs1 (by assumption)) (by rw [‹ov = false›]; simp [vo1]), by show bk.fills.length - (i + 1) < bk.fills.length - i; omega⟩
           (try simp only [go_sem, hw, hw2, *]); (try rw [wrap64_id (by omega) (by omega)]); (repeat' (first | refine And.intro ?_ ?_ | exact .inl rfl | exact .inr rfl | exact .inr ⟨rfl, rfl⟩ | trivial | exact .inr (oblA rfl) | exact .inr ⟨rfl, oblA rfl⟩ | exact .inr bel_strs | exact .inr ⟨rfl, bel_strs⟩ | exact .inr ⟨by simp, bel_strs⟩ | (simp; done) | exact .inr ⟨rfl, by simp⟩ | exact .inr ⟨by simp, by simp⟩)); done)
        | (refine ⟨(i + 1, qs ++ [-f.qty], vs ++ [-(mulF f.qty f.price).1], ov), ?_, hg.yes hb ⟨by assumption, by assumption, by assumption⟩ (sgn_sell (by assumption)) (vs1 (by assumption)) (by simp [*, vo1]), by show bk.fills.length - (i + 1) < bk.fills.length - i; omega⟩
           (try simp only [go_sem, hw, hw2, *]); (try rw [wrap64_id (by omega) (by omega)]); (repeat' (first | refine And.intro ?_ ?_ | exact .inl rfl | exact .inr rfl | exact .inr ⟨rfl, rfl⟩ | trivial | exact .inr (oblA rfl) | exact .inr ⟨rfl, oblA rfl⟩ | exact .inr bel_strs | exact .inr ⟨rfl, bel_strs⟩ | exact .inr ⟨by simp, bel_strs⟩ | (simp; done) | exact .inr ⟨rfl, by simp⟩ | exact .inr ⟨by simp, by simp⟩)); done))
    | (
        refine AWP.ret ?_
        refine AEnd.is ?_; simp only [go_sem, out_v, out_s, out_n, v_int, v_bool, v_str] <;> (first | (rw [of_over hg hr (by omega) (.inl (by assumption))]; simp; done) | (rw [of_over hg hr (by omega) (.inr (.inl (by assumption)))]; simp; done) | (rw [of_over hg hr (by omega) (.inr (.inr (by assumption)))]; simp; done) | (rw [of_ok hg hr (by omega) (by assumption) (by assumption) (by assumption)]; simp; done) | skip))
    | refine AWP.fin (by assumption) ?_
    | fail)

set_option maxHeartbeats 8000000 in
set_option maxRecDepth 8000 in
theorem r13all_c (bk : Bk) (ho : bk.orders.length ≤ 1000000) (hf : bk.fills.length ≤ 1000000) (hi : bk.ids.length ≤ 1000000) : ACalls E 59 [bkV bk] (fun r t => r = posV (allP bk) ∧ t = []) := by -- checkroll/checkrollref13.All
  refine ACalls.of_awp (n := 32) (rs := [.tmp 2]) Tryz.func59 rfl Tryz.ntmps59 rfl ?_
  repeat' (first
    | refine AWP.seqk fun K hK => ?_
    | (
        refine AWP.here 7 15 17 rfl ?_
        obtain ⟨f, hb⟩ : ∃ f, bk.fills[i]? = some f := ⟨_, List.getElem?_eq_getElem (by omega)⟩
        have hn : (nmsB bk)[i]? = some (f.acc, f.sym) := by unfold nmsB; rw [List.getElem?_map, hb]; rfl
        refine AWP.regionO [0, 1, 2, 3, 4, 5, 6, 7, 8, 9, 10, 11, 12, 13, 14, 15, 16] [] (by kernel_rfl) (by kernel_rfl) rfl ?_; simp only [go_sem])
    | (refine AWP.region ?_; simp only [go_sem])
    | (refine AWP.here 7 15 17 rfl ?_; refine AWP.regionO [0, 1, 2, 3, 4, 5, 6, 7, 8, 9, 10, 11, 12, 13, 14, 15, 16] [] (by kernel_rfl) (by kernel_rfl) rfl ?_; simp only [go_sem])
    | (refine hK _ ?_; clear hK K)
    | refine AWP.block ?_
    | refine AWP.cond rfl (fun c => ?_) (fun c => ?_) <;> first | exact Bool.noConfusion c | (try simp only [dD] at c)
    | refine AWP.skip ?_
    | (refine AWP.exit ?_; simp only [go_sem])
    | (refine ACall.one (r12right_c bk (by omega) (by omega) (by omega)) (by kernel_rfl) rfl ?_; simp only [go_sem])
    | (refine ACall.one (r13of_c bk f.acc f.sym hr) (by kernel_rfl) rfl ?_; simp only [go_sem])
    | (refine ACall.one (r13put_c (putsF (fun n => posF bk n.1 n.2) ((nmsB bk).take i)) (posF bk f.acc f.sym) (by omega)) (by kernel_rfl) rfl ?_; simp only [go_sem])
    | (refine AGet.haveM (by assumption) ?_; (try simp only [go_sem]))
    | (refine AGet.have' (by assumption) ?_; (try simp only [go_sem]))
    | ((first | refine AGet.nth ?_ (fun b hb => ?_) | refine AGet.nth1 ?_ (fun b hb => ?_) | with_reducible refine And.intro ?_ ?_); (focus (first | omega | assumption | exact List.length_pos_iff.2 (by assumption) | (simp only [List.length_append, List.length_cons, List.length_nil, List.length_map, List.length_take, List.length_drop] at *; omega) | (rw [wrap64_id (by omega) (by omega)]; omega) | (simp; done) | (simp [spare_len]; done) | (exact ⟨by omega, by omega⟩))); (try simp only [hb, go_sem]))
    | (
        refine AWP.here 5 8 5 rfl ?_
        refine AWP.nilPlain 3 5 rfl ?_
        simp only [go_sem]
        refine AWP.loopM (ι := Nat) [8, 9, 10, 11, 12, 13, 14, 15, 16, 17, 18, 19, 20, 21, 22, 23, 24, 25, 26, 27, 28, 29, 30] (fun (i : Nat) => [(4, i64 i), (3, posV (putsF (fun n => posF bk n.1 n.2) ((nmsB bk).take i)))]) (fun (i : Nat) => [some [.agg [odsV bk.orders, dnsV bk.fills, .sl none 1 (bk.ids.map str), i64 bk.clock, i64 bk.bad]]]) (fun (i : Nat) => []) (fun (i : Nat) => i ≤ bk.fills.length) (fun (i : Nat) => bk.fills.length - i) (0) ?_ ?_ ?_
        · (try simp only [go_sem]); (repeat' (first | refine And.intro ?_ ?_ | exact .inl rfl | exact .inr rfl | exact .inr ⟨rfl, rfl⟩ | trivial | exact .inr (oblA rfl) | exact .inr ⟨rfl, oblA rfl⟩ | exact .inr bel_strs | exact .inr ⟨rfl, bel_strs⟩ | exact .inr ⟨by simp, bel_strs⟩ | (simp; done) | exact .inr ⟨rfl, by simp⟩ | exact .inr ⟨by simp, by simp⟩)); done
        · exact Nat.zero_le _
        rintro i h1
        simp only [go_sem]
        have hr : rightBk bk = true := by assumption
        have hpl := puts_len (fun n => posF bk n.1 n.2) ((nmsB bk).take i)
        have hnl : ((nmsB bk).take i).length ≤ i := by rw [List.length_take]; omega)
    | (
        refine ⟨i + 1, ?_, ?_, ?_⟩
        · (try simp only [go_sem]); (try rw [wrap64_id (by omega) (by omega)]); (try rw [puts_next hn]); (repeat' (first | refine And.intro ?_ ?_ | exact .inl rfl | exact .inr rfl | exact .inr ⟨rfl, rfl⟩ | trivial | exact .inr (oblA rfl) | exact .inr ⟨rfl, oblA rfl⟩ | exact .inr bel_strs | exact .inr ⟨rfl, bel_strs⟩ | exact .inr ⟨by simp, bel_strs⟩ | (simp; done) | exact .inr ⟨rfl, by simp⟩ | exact .inr ⟨by simp, by simp⟩)); done
        · omega
        · (try simp only []); omega)
    | (
        refine AWP.ret ?_
        refine AEnd.is ?_; simp only [go_sem, out_v, out_s, out_n, v_int, v_bool, v_str] <;> (first | (rw [all_not (by assumption)]; exact trivial) | (rw [all_not (by simp_all; done)]; exact trivial) | (rw [all_not (by assumption)]; done) | (rw [all_not (by assumption)]; simp; done) | (rw [List.take_of_length_le (by simp only [nmsB, List.length_map]; omega), allP_puts hr]; done) | skip))
    | refine AWP.fin (by assumption) ?_
    | fail)

set_option maxHeartbeats 4000000 in
set_option maxRecDepth 8000 in
theorem r14right_c (l : List Po) (hl : l.length ≤ 1000000) : ACalls E 19 [posV l] (fun r t => r = bl (riseP l) ∧ t = []) := by -- checkroll/checkrollref14.Right
  refine ACalls.of_awp (n := 67) (rs := [.tmp 2]) Tryz.func19 rfl Tryz.ntmps19 rfl ?_
  repeat' (first
    | refine AWP.seqk fun K hK => ?_
    | (
        refine AWP.here 4 10 57 rfl ?_
        obtain ⟨x, hx⟩ : ∃ x, l[i]? = some x := ⟨_, List.getElem?_eq_getElem (by omega)⟩
        refine AWP.regionAs [0, 1, 2, 3, 4, 5, 6, 7, 8, 9, 10, 11, 12, 13, 14, 15, 16, 17, 18, 19, 20, 21, 22, 23, 24, 25, 26, 27, 28, 29, 30, 31, 32, 33, 34, 35, 36, 37, 38, 39, 40, 41, 42, 43, 44, 45, 46, 47, 48, 49, 50, 51, 52, 53, 54, 55, 56] [[], [0], [0, 1], [0, 1, 2], [0, 1, 2], [0, 1, 2, 4], [0, 1, 2, 3, 4, 5], [0, 1, 2, 3, 4, 5, 6], [0, 1, 2], [0, 1, 2], [0, 1, 2, 8, 9], [0, 1, 2, 8, 9, 10], [0, 1, 2, 3, 4, 5, 6, 7, 8, 9, 10, 11], [0, 1, 2, 3, 4, 5, 6, 7, 8, 9, 10, 11, 12], [0, 1, 2, 3, 4, 5, 6, 7, 8, 9, 10, 11, 12, 13], [0, 1, 2, 3, 4, 5, 6, 7, 8, 9, 10, 11, 12, 13, 14], [0, 1, 2, 3, 4, 5, 6, 7, 8, 9, 10, 11, 12, 13, 14, 15], [0, 1, 2, 3, 4, 5, 6, 7, 8, 9, 10, 11, 12, 13, 14, 15], [0, 1, 2, 3, 4, 5, 6, 7, 8, 9, 10, 11, 12, 13, 14, 15, 16, 17], [0, 1, 2, 3, 4, 5, 6, 7, 8, 9, 10, 11, 12, 13, 14, 15, 16, 17, 18], [0, 1, 2, 3, 4, 5, 6, 7, 8, 9, 10, 11, 12, 13, 14, 15, 16, 17, 18, 19], [0, 1, 2, 3, 4, 5, 6, 7, 8, 9, 10, 11, 12, 13, 14, 15, 16, 17, 18, 19, 20], [0, 1, 2, 3, 4, 5, 6, 7, 8, 9, 10, 11, 12, 13, 14, 15, 16, 17, 18, 19, 20, 21], [0, 1, 2, 3, 4, 5, 6, 7, 8, 9, 10, 11, 12, 13, 14, 15, 16, 17, 18, 19, 20, 21, 22], [0, 1, 2, 3, 4, 5, 6, 7, 8, 9, 10, 11, 12, 13, 14, 15, 16, 17, 18, 19, 20, 21, 22, 23], [0, 1, 2, 3, 4, 5, 6, 7, 8, 9, 10, 11, 12, 13, 14, 15, 16, 17, 18, 19, 20, 21, 22, 23, 24], [0, 1, 2, 3, 4, 5, 6, 7, 8, 9, 10, 11, 12, 13, 14, 15, 16, 17, 18, 19, 20, 21, 22, 23, 24], [0, 1, 2, 3, 4, 5, 6, 7, 8, 9, 10, 11, 12, 13, 14, 15, 16, 17, 18, 19, 20, 21, 22, 23, 24, 25, 26], [0, 1, 2, 3, 4, 5, 6, 7, 8, 9, 10, 11, 12, 13, 14, 15, 16, 17, 18, 19, 20, 21, 22, 23, 24, 25, 26, 27], [0, 1, 2, 3, 4, 5, 6, 7, 8, 9, 10, 11, 12, 13, 14, 15, 16, 17, 18, 19, 20, 21, 22, 23, 24, 25, 26, 27, 28], [0, 1, 2, 3, 4, 5, 6, 7, 8, 9, 10, 11, 12, 13, 14, 15, 16, 17, 18, 19, 20, 21, 22, 23, 24, 25, 26, 27, 28, 29], [0, 1, 2, 3, 4, 5, 6, 7, 8, 9, 10, 11, 12, 13, 14, 15, 16, 17, 18, 19, 20, 21, 22, 23, 24, 25, 26, 27, 28, 29, 30], [0, 1, 2, 3, 4, 5, 6, 7, 8, 9, 10, 11, 12, 13, 14, 15, 16, 17, 18, 19, 20, 21, 22, 23, 24, 25, 26, 27, 28, 29, 30, 31], [0, 1, 2, 3, 4, 5, 6, 7, 8, 9, 10, 11, 12, 13, 14, 15, 16, 17, 18, 19, 20, 21, 22, 23, 24, 25, 26, 27, 28, 29, 30, 31, 32], [0, 1, 2, 3, 4, 5, 6, 7, 8, 9, 10, 11, 12, 13, 14, 15, 16, 17, 18, 19, 20, 21, 22, 23, 24, 25, 26, 27, 28, 29, 30, 31, 32, 33], [0, 1, 2, 3, 4, 5, 6, 7, 8, 9, 10, 11, 12, 13, 14, 15, 16, 17, 18, 19, 20, 21, 22, 23, 24, 25, 26, 27, 28, 29, 30, 31, 32, 33], [0, 1, 2, 3, 4, 5, 6, 7, 8, 9, 10, 11, 12, 13, 14, 15, 16, 17, 18, 19, 20, 21, 22, 23, 24, 25, 26, 27, 28, 29, 30, 31, 32, 33, 34, 35], [0, 1, 2, 3, 4, 5, 6, 7, 8, 9, 10, 11, 12, 13, 14, 15, 16, 17, 18, 19, 20, 21, 22, 23, 24, 25, 26, 27, 28, 29, 30, 31, 32, 33, 34, 35, 36], [0, 1, 2, 3, 4, 5, 6, 7, 8, 9, 10, 11, 12, 13, 14, 15, 16, 17, 18, 19, 20, 21, 22, 23, 24, 25, 26, 27, 28, 29, 30, 31, 32, 33, 34, 35, 36, 37], [0, 1, 2, 3, 4, 5, 6, 7, 8, 9, 10, 11, 12, 13, 14, 15, 16, 17, 18, 19, 20, 21, 22, 23, 24, 25, 26, 27, 28, 29, 30, 31, 32, 33, 34, 35, 36, 37, 38], [0, 1, 2, 3, 4, 5, 6, 7, 8, 9, 10, 11, 12, 13, 14, 15, 16, 17, 18, 19, 20, 21, 22, 23, 24, 25, 26, 27, 28, 29, 30, 31, 32, 33, 34, 35, 36, 37, 38, 39], [0, 1, 2, 3, 4, 5, 6, 7, 8, 9, 10, 11, 12, 13, 14, 15, 16, 17, 18, 19, 20, 21, 22, 23, 24, 25, 26, 27, 28, 29, 30, 31, 32, 33, 34, 35, 36, 37, 38, 39], [0, 1, 2, 3, 4, 5, 6, 7, 8, 9, 10, 11, 12, 13, 14, 15, 16, 17, 18, 19, 20, 21, 22, 23, 24, 25, 26, 27, 28, 29, 30, 31, 32, 33, 34, 35, 36, 37, 38, 39, 40, 41], [0, 1, 2, 3, 4, 5, 6, 7, 8, 9, 10, 11, 12, 13, 14, 15, 16, 17, 18, 19, 20, 21, 22, 23, 24, 25, 26, 27, 28, 29, 30, 31, 32, 33, 34, 35, 36, 37, 38, 39, 40, 41, 42], [0, 1, 2, 3, 4, 5, 6, 7, 8, 9, 10, 11, 12, 13, 14, 15, 16, 17, 18, 19, 20, 21, 22, 23, 24, 25, 26, 27, 28, 29, 30, 31, 32, 33, 34, 35, 36, 37, 38, 39, 40, 41, 42, 43], [0, 1, 2, 3, 4, 5, 6, 7, 8, 9, 10, 11, 12, 13, 14, 15, 16, 17, 18, 19, 20, 21, 22, 23, 24, 25, 26, 27, 28, 29, 30, 31, 32, 33, 34, 35, 36, 37, 38, 39, 40, 41, 42, 43, 44], [0, 1, 2, 3, 4, 5, 6, 7, 8, 9, 10, 11, 12, 13, 14, 15, 16, 17, 18, 19, 20, 21, 22, 23, 24, 25, 26, 27, 28, 29, 30, 31, 32, 33, 34, 35, 36, 37, 38, 39, 40, 41, 42, 43, 44, 45], [0, 1, 2, 3, 4, 5, 6, 7, 8, 9, 10, 11, 12, 13, 14, 15, 16, 17, 18, 19, 20, 21, 22, 23, 24, 25, 26, 27, 28, 29, 30, 31, 32, 33, 34, 35, 36, 37, 38, 39, 40, 41, 42, 43, 44, 45, 46], [0, 1, 2, 3, 4, 5, 6, 7, 8, 9, 10, 11, 12, 13, 14, 15, 16, 17, 18, 19, 20, 21, 22, 23, 24, 25, 26, 27, 28, 29, 30, 31, 32, 33, 34, 35, 36, 37, 38, 39, 40, 41, 42, 43, 44, 45, 46], [0, 1, 2, 3, 4, 5, 6, 7, 8, 9, 10, 11, 12, 13, 14, 15, 16, 17, 18, 19, 20, 21, 22, 23, 24, 25, 26, 27, 28, 29, 30, 31, 32, 33, 34, 35, 36, 37, 38, 39, 40, 41, 42, 43, 44, 45, 46, 47, 48], [0, 1, 2, 3, 4, 5, 6, 7, 8, 9, 10, 11, 12, 13, 14, 15, 16, 17, 18, 19, 20, 21, 22, 23, 24, 25, 26, 27, 28, 29, 30, 31, 32, 33, 34, 35, 36, 37, 38, 39, 40, 41, 42, 43, 44, 45, 46, 47, 48, 49], [0, 1, 2, 3, 4, 5, 6, 7, 8, 9, 10, 11, 12, 13, 14, 15, 16, 17, 18, 19, 20, 21, 22, 23, 24, 25, 26, 27, 28, 29, 30, 31, 32, 33, 34, 35, 36, 37, 38, 39, 40, 41, 42, 43, 44, 45, 46, 47, 48, 49, 50], [0, 1, 2, 3, 4, 5, 6, 7, 8, 9, 10, 11, 12, 13, 14, 15, 16, 17, 18, 19, 20, 21, 22, 23, 24, 25, 26, 27, 28, 29, 30, 31, 32, 33, 34, 35, 36, 37, 38, 39, 40, 41, 42, 43, 44, 45, 46, 47, 48, 49, 50, 51], [0, 1, 2, 3, 4, 5, 6, 7, 8, 9, 10, 11, 12, 13, 14, 15, 16, 17, 18, 19, 20, 21, 22, 23, 24, 25, 26, 27, 28, 29, 30, 31, 32, 33, 34, 35, 36, 37, 38, 39, 40, 41, 42, 43, 44, 45, 46, 47, 48, 49, 50, 51, 52], [0, 1, 2, 3, 4, 5, 6, 7, 8, 9, 10, 11, 12, 13, 14, 15, 16, 17, 18, 19, 20, 21, 22, 23, 24, 25, 26, 27, 28, 29, 30, 31, 32, 33, 34, 35, 36, 37, 38, 39, 40, 41, 42, 43, 44, 45, 46, 47, 48, 49, 50, 51, 52, 53], [0, 1, 2, 3, 4, 5, 6, 7, 8, 9, 10, 11, 12, 13, 14, 15, 16, 17, 18, 19, 20, 21, 22, 23, 24, 25, 26, 27, 28, 29, 30, 31, 32, 33, 34, 35, 36, 37, 38, 39, 40, 41, 42, 43, 44, 45, 46, 47, 48, 49, 50, 51, 52, 53, 54], [0, 1, 2, 3, 4, 5, 6, 7, 8, 9, 10, 11, 12, 13, 14, 15, 16, 17, 18, 19, 20, 21, 22, 23, 24, 25, 26, 27, 28, 29, 30, 31, 32, 33, 34, 35, 36, 37, 38, 39, 40, 41, 42, 43, 44, 45, 46, 47, 48, 49, 50, 51, 52, 53, 54, 55]] [] (by kernel_rfl) (by kernel_rfl) (by decide) rfl ?_; simp only [go_sem])
    | (refine AWP.region ?_; simp only [go_sem])
    | (refine AWP.here 4 10 57 rfl ?_; refine AWP.regionAs [0, 1, 2, 3, 4, 5, 6, 7, 8, 9, 10, 11, 12, 13, 14, 15, 16, 17, 18, 19, 20, 21, 22, 23, 24, 25, 26, 27, 28, 29, 30, 31, 32, 33, 34, 35, 36, 37, 38, 39, 40, 41, 42, 43, 44, 45, 46, 47, 48, 49, 50, 51, 52, 53, 54, 55, 56] [[], [0], [0, 1], [0, 1, 2], [0, 1, 2], [0, 1, 2, 4], [0, 1, 2, 3, 4, 5], [0, 1, 2, 3, 4, 5, 6], [0, 1, 2], [0, 1, 2], [0, 1, 2, 8, 9], [0, 1, 2, 8, 9, 10], [0, 1, 2, 3, 4, 5, 6, 7, 8, 9, 10, 11], [0, 1, 2, 3, 4, 5, 6, 7, 8, 9, 10, 11, 12], [0, 1, 2, 3, 4, 5, 6, 7, 8, 9, 10, 11, 12, 13], [0, 1, 2, 3, 4, 5, 6, 7, 8, 9, 10, 11, 12, 13, 14], [0, 1, 2, 3, 4, 5, 6, 7, 8, 9, 10, 11, 12, 13, 14, 15], [0, 1, 2, 3, 4, 5, 6, 7, 8, 9, 10, 11, 12, 13, 14, 15], [0, 1, 2, 3, 4, 5, 6, 7, 8, 9, 10, 11, 12, 13, 14, 15, 16, 17], [0, 1, 2, 3, 4, 5, 6, 7, 8, 9, 10, 11, 12, 13, 14, 15, 16, 17, 18], [0, 1, 2, 3, 4, 5, 6, 7, 8, 9, 10, 11, 12, 13, 14, 15, 16, 17, 18, 19], [0, 1, 2, 3, 4, 5, 6, 7, 8, 9, 10, 11, 12, 13, 14, 15, 16, 17, 18, 19, 20], [0, 1, 2, 3, 4, 5, 6, 7, 8, 9, 10, 11, 12, 13, 14, 15, 16, 17, 18, 19, 20, 21], [0, 1, 2, 3, 4, 5, 6, 7, 8, 9, 10, 11, 12, 13, 14, 15, 16, 17, 18, 19, 20, 21, 22], [0, 1, 2, 3, 4, 5, 6, 7, 8, 9, 10, 11, 12, 13, 14, 15, 16, 17, 18, 19, 20, 21, 22, 23], [0, 1, 2, 3, 4, 5, 6, 7, 8, 9, 10, 11, 12, 13, 14, 15, 16, 17, 18, 19, 20, 21, 22, 23, 24], [0, 1, 2, 3, 4, 5, 6, 7, 8, 9, 10, 11, 12, 13, 14, 15, 16, 17, 18, 19, 20, 21, 22, 23, 24], [0, 1, 2, 3, 4, 5, 6, 7, 8, 9, 10, 11, 12, 13, 14, 15, 16, 17, 18, 19, 20, 21, 22, 23, 24, 25, 26], [0, 1, 2, 3, 4, 5, 6, 7, 8, 9, 10, 11, 12, 13, 14, 15, 16, 17, 18, 19, 20, 21, 22, 23, 24, 25, 26, 27], [0, 1, 2, 3, 4, 5, 6, 7, 8, 9, 10, 11, 12, 13, 14, 15, 16, 17, 18, 19, 20, 21, 22, 23, 24, 25, 26, 27, 28], [0, 1, 2, 3, 4, 5, 6, 7, 8, 9, 10, 11, 12, 13, 14, 15, 16, 17, 18, 19, 20, 21, 22, 23, 24, 25, 26, 27, 28, 29], [0, 1, 2, 3, 4, 5, 6, 7, 8, 9, 10, 11, 12, 13, 14, 15, 16, 17, 18, 19, 20, 21, 22, 23, 24, 25, 26, 27, 28, 29, 30], [0, 1, 2, 3, 4, 5, 6, 7, 8, 9, 10, 11, 12, 13, 14, 15, 16, 17, 18, 19, 20, 21, 22, 23, 24, 25, 26, 27, 28, 29, 30, 31], [0, 1, 2, 3, 4, 5, 6, 7, 8, 9, 10, 11, 12, 13, 14, 15, 16, 17, 18, 19, 20, 21, 22, 23, 24, 25, 26, 27, 28, 29, 30, 31, 32], [0, 1, 2, 3, 4, 5, 6, 7, 8, 9, 10, 11, 12, 13, 14, 15, 16, 17, 18, 19, 20, 21, 22, 23, 24, 25, 26, 27, 28, 29, 30, 31, 32, 33], [0, 1, 2, 3, 4, 5, 6, 7, 8, 9, 10, 11, 12, 13, 14, 15, 16, 17, 18, 19, 20, 21, 22, 23, 24, 25, 26, 27, 28, 29, 30, 31, 32, 33], [0, 1, 2, 3, 4, 5, 6, 7, 8, 9, 10, 11, 12, 13, 14, 15, 16, 17, 18, 19, 20, 21, 22, 23, 24, 25, 26, 27, 28, 29, 30, 31, 32, 33, 34, 35], [0, 1, 2, 3, 4, 5, 6, 7, 8, 9, 10, 11, 12, 13, 14, 15, 16, 17, 18, 19, 20, 21, 22, 23, 24, 25, 26, 27, 28, 29, 30, 31, 32, 33, 34, 35, 36], [0, 1, 2, 3, 4, 5, 6, 7, 8, 9, 10, 11, 12, 13, 14, 15, 16, 17, 18, 19, 20, 21, 22, 23, 24, 25, 26, 27, 28, 29, 30, 31, 32, 33, 34, 35, 36, 37], [0, 1, 2, 3, 4, 5, 6, 7, 8, 9, 10, 11, 12, 13, 14, 15, 16, 17, 18, 19, 20, 21, 22, 23, 24, 25, 26, 27, 28, 29, 30, 31, 32, 33, 34, 35, 36, 37, 38], [0, 1, 2, 3, 4, 5, 6, 7, 8, 9, 10, 11, 12, 13, 14, 15, 16, 17, 18, 19, 20, 21, 22, 23, 24, 25, 26, 27, 28, 29, 30, 31, 32, 33, 34, 35, 36, 37, 38, 39], [0, 1, 2, 3, 4, 5, 6, 7, 8, 9, 10, 11, 12, 13, 14, 15, 16, 17, 18, 19, 20, 21, 22, 23, 24, 25, 26, 27, 28, 29, 30, 31, 32, 33, 34, 35, 36, 37, 38, 39], [0, 1, 2, 3, 4, 5, 6, 7, 8, 9, 10, 11, 12, 13, 14, 15, 16, 17, 18, 19, 20, 21, 22, 23, 24, 25, 26, 27, 28, 29, 30, 31, 32, 33, 34, 35, 36, 37, 38, 39, 40, 41], [0, 1, 2, 3, 4, 5, 6, 7, 8, 9, 10, 11, 12, 13, 14, 15, 16, 17, 18, 19, 20, 21, 22, 23, 24, 25, 26, 27, 28, 29, 30, 31, 32, 33, 34, 35, 36, 37, 38, 39, 40, 41, 42], [0, 1, 2, 3, 4, 5, 6, 7, 8, 9, 10, 11, 12, 13, 14, 15, 16, 17, 18, 19, 20, 21, 22, 23, 24, 25, 26, 27, 28, 29, 30, 31, 32, 33, 34, 35, 36, 37, 38, 39, 40, 41, 42, 43], [0, 1, 2, 3, 4, 5, 6, 7, 8, 9, 10, 11, 12, 13, 14, 15, 16, 17, 18, 19, 20, 21, 22, 23, 24, 25, 26, 27, 28, 29, 30, 31, 32, 33, 34, 35, 36, 37, 38, 39, 40, 41, 42, 43, 44], [0, 1, 2, 3, 4, 5, 6, 7, 8, 9, 10, 11, 12, 13, 14, 15, 16, 17, 18, 19, 20, 21, 22, 23, 24, 25, 26, 27, 28, 29, 30, 31, 32, 33, 34, 35, 36, 37, 38, 39, 40, 41, 42, 43, 44, 45], [0, 1, 2, 3, 4, 5, 6, 7, 8, 9, 10, 11, 12, 13, 14, 15, 16, 17, 18, 19, 20, 21, 22, 23, 24, 25, 26, 27, 28, 29, 30, 31, 32, 33, 34, 35, 36, 37, 38, 39, 40, 41, 42, 43, 44, 45, 46], [0, 1, 2, 3, 4, 5, 6, 7, 8, 9, 10, 11, 12, 13, 14, 15, 16, 17, 18, 19, 20, 21, 22, 23, 24, 25, 26, 27, 28, 29, 30, 31, 32, 33, 34, 35, 36, 37, 38, 39, 40, 41, 42, 43, 44, 45, 46], [0, 1, 2, 3, 4, 5, 6, 7, 8, 9, 10, 11, 12, 13, 14, 15, 16, 17, 18, 19, 20, 21, 22, 23, 24, 25, 26, 27, 28, 29, 30, 31, 32, 33, 34, 35, 36, 37, 38, 39, 40, 41, 42, 43, 44, 45, 46, 47, 48], [0, 1, 2, 3, 4, 5, 6, 7, 8, 9, 10, 11, 12, 13, 14, 15, 16, 17, 18, 19, 20, 21, 22, 23, 24, 25, 26, 27, 28, 29, 30, 31, 32, 33, 34, 35, 36, 37, 38, 39, 40, 41, 42, 43, 44, 45, 46, 47, 48, 49], [0, 1, 2, 3, 4, 5, 6, 7, 8, 9, 10, 11, 12, 13, 14, 15, 16, 17, 18, 19, 20, 21, 22, 23, 24, 25, 26, 27, 28, 29, 30, 31, 32, 33, 34, 35, 36, 37, 38, 39, 40, 41, 42, 43, 44, 45, 46, 47, 48, 49, 50], [0, 1, 2, 3, 4, 5, 6, 7, 8, 9, 10, 11, 12, 13, 14, 15, 16, 17, 18, 19, 20, 21, 22, 23, 24, 25, 26, 27, 28, 29, 30, 31, 32, 33, 34, 35, 36, 37, 38, 39, 40, 41, 42, 43, 44, 45, 46, 47, 48, 49, 50, 51], [0, 1, 2, 3, 4, 5, 6, 7, 8, 9, 10, 11, 12, 13, 14, 15, 16, 17, 18, 19, 20, 21, 22, 23, 24, 25, 26, 27, 28, 29, 30, 31, 32, 33, 34, 35, 36, 37, 38, 39, 40, 41, 42, 43, 44, 45, 46, 47, 48, 49, 50, 51, 52], [0, 1, 2, 3, 4, 5, 6, 7, 8, 9, 10, 11, 12, 13, 14, 15, 16, 17, 18, 19, 20, 21, 22, 23, 24, 25, 26, 27, 28, 29, 30, 31, 32, 33, 34, 35, 36, 37, 38, 39, 40, 41, 42, 43, 44, 45, 46, 47, 48, 49, 50, 51, 52, 53], [0, 1, 2, 3, 4, 5, 6, 7, 8, 9, 10, 11, 12, 13, 14, 15, 16, 17, 18, 19, 20, 21, 22, 23, 24, 25, 26, 27, 28, 29, 30, 31, 32, 33, 34, 35, 36, 37, 38, 39, 40, 41, 42, 43, 44, 45, 46, 47, 48, 49, 50, 51, 52, 53, 54], [0, 1, 2, 3, 4, 5, 6, 7, 8, 9, 10, 11, 12, 13, 14, 15, 16, 17, 18, 19, 20, 21, 22, 23, 24, 25, 26, 27, 28, 29, 30, 31, 32, 33, 34, 35, 36, 37, 38, 39, 40, 41, 42, 43, 44, 45, 46, 47, 48, 49, 50, 51, 52, 53, 54, 55]] [] (by kernel_rfl) (by kernel_rfl) (by decide) rfl ?_; simp only [go_sem])
    | (refine hK _ ?_; clear hK K)
    | refine AWP.block ?_
    | refine AWP.cond rfl (fun c => ?_) (fun c => ?_) <;> first | exact Bool.noConfusion c | (try simp only [dD] at c)
    | refine AWP.skip ?_
    | (refine AWP.exit ?_; simp only [go_sem])
    | (refine ACall.one (r13less_c b x) (by kernel_rfl) rfl ?_; simp only [go_sem])
    | (refine ACall.one (r1right_c x.qty) (by kernel_rfl) rfl ?_; simp only [go_sem])
    | (refine ACall.one (r1right_c x.value) (by kernel_rfl) rfl ?_; simp only [go_sem])
    | (refine AGuard.splitN (fun h => ?_) (fun h => ?_) <;> simp only [h, go_sem] <;> (try simp only [dD] at h))
    | (refine AGuard.split (fun h => ?_) (fun h => ?_) <;> simp only [h, go_sem] <;> (try simp only [dD] at h))
    | (refine AGet.haveM (by assumption) ?_; (try simp only [go_sem]))
    | (refine AGet.have' (by assumption) ?_; (try simp only [go_sem]))
    | ((first | refine AGet.nth ?_ (fun b hb => ?_) | refine AGet.nth1 ?_ (fun b hb => ?_) | with_reducible refine And.intro ?_ ?_); (focus (first | omega | assumption | exact List.length_pos_iff.2 (by assumption) | (simp only [List.length_append, List.length_cons, List.length_nil, List.length_map, List.length_take, List.length_drop] at *; omega) | (rw [wrap64_id (by omega) (by omega)]; omega) | (simp; done) | (simp [spare_len]; done) | (exact ⟨by omega, by omega⟩))); (try simp only [hb, go_sem]))
    | (
        refine AWP.here 2 4 4 rfl ?_
        refine AWP.loopN (ι := Nat) [2, 4, 5, 6, 7, 8, 9, 10, 11, 12, 13, 14, 15, 16, 17, 18, 19, 20, 21, 22, 23, 24, 25, 26, 27, 28, 29, 30, 31, 32, 33, 34, 35, 36, 37, 38, 39, 40, 41, 42, 43, 44, 45, 46, 47, 48, 49, 50, 51, 52, 53, 54, 55, 56, 57, 58, 59, 60, 61, 62, 63, 64, 65, 66] (fun (i : Nat) => [(3, i64 i)]) (fun (i : Nat) => i ≤ l.length ∧ ∀ k, k < i → okR l k = true) (fun (i : Nat) => l.length - i) (0) ?_ ?_ ?_
        · (try simp only [go_sem]); (repeat' (first | refine And.intro ?_ ?_ | exact .inl rfl | exact .inr rfl | exact .inr ⟨rfl, rfl⟩ | trivial | exact .inr (oblA rfl) | exact .inr ⟨rfl, oblA rfl⟩ | exact .inr bel_strs | exact .inr ⟨rfl, bel_strs⟩ | exact .inr ⟨by simp, bel_strs⟩ | (simp; done) | exact .inr ⟨rfl, by simp⟩ | exact .inr ⟨by simp, by simp⟩)); done
        · exact ⟨by omega, fun k hk => by omega⟩
        rintro i ⟨h1, h3⟩
        simp only [go_sem])
    | (
        refine ⟨i + 1, ?_, ?_, ?_⟩
        · (try simp only [go_sem]); (try rw [wrap64_id (by omega) (by omega)]); (repeat' (first | refine And.intro ?_ ?_ | exact .inl rfl | exact .inr rfl | exact .inr ⟨rfl, rfl⟩ | trivial | exact .inr (oblA rfl) | exact .inr ⟨rfl, oblA rfl⟩ | exact .inr bel_strs | exact .inr ⟨rfl, bel_strs⟩ | exact .inr ⟨by simp, bel_strs⟩ | (simp; done) | exact .inr ⟨rfl, by simp⟩ | exact .inr ⟨by simp, by simp⟩)); done
        · exact ⟨by omega, upto_next h3 (by first | exact okR_ok0 hx (by omega) (by first | exact okP_n (by assumption) (by assumption) (by assumption) | exact okP_z (by assumption) (by assumption) (by assumption) (by assumption)) | (rw [wrap_pred (by omega) (by omega)] at hb; exact okR_ok hx hb (by first | exact okP_n (by assumption) (by assumption) (by assumption) | exact okP_z (by assumption) (by assumption) (by assumption) (by assumption)) (lt_cmp (by assumption))))⟩
        · (try simp only []); omega)
    | (
        refine AWP.ret ?_
        refine AEnd.is ?_; simp only [go_sem, out_v, out_s, out_n, v_int, v_bool, v_str] <;> (first | (rw [riseP_no hx (okR_bad1 hx (by first | exact okP_q (by assumption) | exact okP_v (by assumption) | exact okP_o (by assumption) (.inl (by assumption)) | exact okP_o (by assumption) (.inr (by assumption))))]; done) | (rw [wrap_pred (by omega) (by omega)] at hb; rw [riseP_no hx (okR_bad2 hx (by omega) hb (nlt_cmp (by assumption)))]; done) | (rw [riseP_yes (by omega) h3]; done) | skip))
    | refine AWP.fin (by assumption) ?_
    | fail)

set_option maxHeartbeats 4000000 in
set_option maxRecDepth 8000 in
theorem r14get_c (l : List Po) (a s : Bs) (hl : l.length ≤ 9223372036854775807) : ACalls E 23 [posV l, str a, str s] (fun r t => r = poV (getP l (a, s)) ∧ t = []) := by -- checkroll/checkrollref14.Get
  refine ACalls.of_awp (n := 37) (rs := [.cell 6 49]) Tryz.func23 rfl Tryz.ntmps23 rfl ?_
  repeat' (first
    | refine AWP.seqk fun K hK => ?_
    | (
        refine AWP.here 4 14 16 rfl ?_
        obtain ⟨x, hx⟩ : ∃ x, l[i]? = some x := ⟨_, List.getElem?_eq_getElem (by omega)⟩
        refine AWP.region ?_; simp only [go_sem])
    | (refine AWP.region ?_; simp only [go_sem])
    | (refine hK _ ?_; clear hK K)
    | refine AWP.block ?_
    | refine AWP.cond rfl (fun c => ?_) (fun c => ?_) <;> first | exact Bool.noConfusion c | (try simp only [dD] at c)
    | refine AWP.skip ?_
    | (refine AWP.exit ?_; simp only [go_sem])
    | (refine AGuard.splitN (fun h => ?_) (fun h => ?_) <;> simp only [h, go_sem] <;> (try simp only [dD] at h))
    | (refine AGuard.split (fun h => ?_) (fun h => ?_) <;> simp only [h, go_sem] <;> (try simp only [dD] at h))
    | (refine AGet.haveM (by assumption) ?_; (try simp only [go_sem]))
    | (refine AGet.have' (by assumption) ?_; (try simp only [go_sem]))
    | ((first | refine AGet.nth ?_ (fun b hb => ?_) | refine AGet.nth1 ?_ (fun b hb => ?_) | with_reducible refine And.intro ?_ ?_); (focus (first | omega | assumption | exact List.length_pos_iff.2 (by assumption) | (simp only [List.length_append, List.length_cons, List.length_nil, List.length_map, List.length_take, List.length_drop] at *; omega) | (rw [wrap64_id (by omega) (by omega)]; omega) | (simp; done) | (simp [spare_len]; done) | (exact ⟨by omega, by omega⟩))); (try simp only [hb, go_sem]))
    | (
        refine AWP.here 2 8 4 rfl ?_
        refine AWP.loopM (ι := Nat) [8, 9, 10, 11, 12, 13, 14, 15, 16, 17, 18, 19, 20, 21, 22, 23, 24, 25, 26, 27, 28, 29, 30, 31, 32, 33] (fun (i : Nat) => [(7, i64 i)]) (fun (i : Nat) => [some [.agg [str [], str [], i64 0, i64 0, bl false]]]) (fun (i : Nat) => []) (fun (i : Nat) => i ≤ l.length ∧ ∀ k y, k < i → l[k]? = some y → ¬ (y.acc = a ∧ y.sym = s)) (fun (i : Nat) => l.length - i) (0) ?_ ?_ ?_
        · (try simp only [go_sem]); (repeat' (first | refine And.intro ?_ ?_ | exact .inl rfl | exact .inr rfl | exact .inr ⟨rfl, rfl⟩ | trivial | exact .inr (oblA rfl) | exact .inr ⟨rfl, oblA rfl⟩ | exact .inr bel_strs | exact .inr ⟨rfl, bel_strs⟩ | exact .inr ⟨by simp, bel_strs⟩ | (simp; done) | exact .inr ⟨rfl, by simp⟩ | exact .inr ⟨by simp, by simp⟩)); done
        · exact ⟨by omega, fun k y hk => by omega⟩
        rintro i ⟨h1, h3⟩
        simp only [go_sem])
    | (
        refine ⟨i + 1, ?_, ?_, ?_⟩
        · (try simp only [go_sem]); (try rw [wrap64_id (by omega) (by omega)]); (repeat' (first | refine And.intro ?_ ?_ | exact .inl rfl | exact .inr rfl | exact .inr ⟨rfl, rfl⟩ | trivial | exact .inr (oblA rfl) | exact .inr ⟨rfl, oblA rfl⟩ | exact .inr bel_strs | exact .inr ⟨rfl, bel_strs⟩ | exact .inr ⟨by simp, bel_strs⟩ | (simp; done) | exact .inr ⟨rfl, by simp⟩ | exact .inr ⟨by simp, by simp⟩)); done
        · exact ⟨by omega, noneP_next h3 hx (by (try clear hK); simp_all)⟩
        · (try simp only []); omega)
    | (
        refine AWP.ret ?_
        refine AEnd.is ?_; simp only [go_sem, out_v, out_s, out_n, v_int, v_bool, v_str] <;> (first | (rw [getP_no (n := (a, s)) (by omega) h3]; done) | (rw [getP_no (n := (a, s)) (by omega) h3]; simp; done) | (rw [getP_yes (n := (a, s)) hx h3 (by (try clear hK); simp_all)]; done) | (rw [getP_yes (n := (a, s)) hx h3 (by (try clear hK); simp_all)]; simp; done) | skip))
    | refine AWP.fin (by assumption) ?_
    | fail)


end Go.Proofs.YtajeeghgiilhiaaGreat
end
section
set_option linter.unusedVariables false
set_option linter.unusedSimpArgs false
namespace Go.Proofs.YtajeeghgiilhiaaGreat
open Go Go.Abs Go.RowKit Go.Bk

end Go.Proofs.YtajeeghgiilhiaaGreat
end
section
set_option linter.unusedVariables false
set_option linter.unusedSimpArgs false
namespace Go.Proofs.YtajeeghgiilhiaaGreat
open Go Go.Abs Go.RowKit Go.Bk
theorem grpF_len : ∀ (k : Nat) (l : List Po), (grpF k l).length ≤ k
  | 0, _ => by simp [grpF]
  | k + 1, [] => by simp [grpF]
  | k + 1, p :: l => by rw [grpF, List.length_cons]; have := grpF_len k (l.dropWhile fun q => decide (nmP q = nmP p)); omega
theorem merge_len (ls : List (List Po)) : (mergeF ls).1.length ≤ ls.flatten.length := by
  unfold mergeF; split
  · exact grpF_len _ _
  · simp

set_option maxHeartbeats 16000000 in
set_option maxRecDepth 8000 in
theorem mall_c (ls : List (List Po)) (hl1 : ls.length ≤ 1000000) (hl2 : ls.flatten.length ≤ 1000000) : ACalls E 61 [pssV ls] (fun r t => r = .tup [posV (mergeF ls).1, i64 (mergeF ls).2] ∧ t = []) := by -- checkroll/merge.All
  refine ACalls.of_awp (n := 55) (rs := [.tmp 2, .tmp 3]) Tryz.func61 rfl Tryz.ntmps61 rfl ?_
  repeat' (first
    | refine AWP.seqk fun K hK => ?_
    | (
        refine AWP.here 4 13 3 rfl ?_
        obtain ⟨l, hx⟩ : ∃ l, ls[i]? = some l := ⟨_, List.getElem?_eq_getElem (by omega)⟩
        have hml := mem_len hx
        have hfn := flat_len (ls := ls) (i := i + 1)
        rw [flat_next hx, List.length_append] at hfn
        refine AWP.region ?_; simp only [go_sem])
    | (
        refine AWP.here 8 21 2 rfl ?_
        refine AWP.renum [1] (by decide) rfl rfl ?_
        simp only [go_sem, po_ren, List.length_map]
        refine AWP.region ?_; simp only [go_sem])
    | (
        refine AWP.here 10 7 1 rfl ?_
        refine AWP.publishN 4 0 5 ls.flatten.length (ls.flatten.length + m) ((stbP ls.flatten).map poV) (spare 5 m) rfl rfl (by rw [List.length_map, stbP_len]) (cl_po _) ?_
        simp only [go_sem]
        refine AWP.region ?_; simp only [go_sem])
    | (
        refine AWP.here 12 8 1 rfl ?_
        obtain ⟨p, r, hq⟩ : ∃ p r, q = p :: r := by
          match q, (show 0 < q.length by omega) with
          | p :: r, _ => exact ⟨p, r, rfl⟩
        have hq0 : q[0]? = some p := by rw [hq]; rfl
        refine AWP.region ?_; simp only [go_sem])
    | (
        refine AWP.here 15 44 8 rfl ?_
        have hn : n = 1 + (r.takeWhile (smB p)).length := by
          first | exact tw_stop j1 j2 (hq ▸ hb) (by assumption) | exact tw_end j2 (by rw [← hq]; omega)
        have ht : q.take n = p :: r.takeWhile (smB p) := by rw [hn, hq]; exact tw_take
        have hd : q.drop n = r.dropWhile (smB p) := by rw [hn, hq]; exact tw_drop
        have hnl : n ≤ q.length := by omega
        refine AWP.region ?_; simp only [go_sem])
    | (
        refine AWP.here 7 18 4 rfl ?_
        refine AWP.regionL ?_
        refine AWPL.at 4 2 rfl ?_
        simp only [go_sem]
        refine AWPL.appMuG (es := (ls.take i).flatten.map poV) (xs := l.map poV) (m0 := m) sr27 ap27 (by simp only [List.length_map]; rfl) rfl rfl (by simp only [List.length_map]; omega) (by simp only [List.length_map]; omega) ?_
        intro mm
        simp only [go_sem]
        refine AWPL.of ?_
        simp only [go_sem])
    | (
        refine AWP.here 9 22 2 rfl ?_
        have hti : ls.take i = ls := List.take_of_length_le (by omega)
        have hall : ls.all riseP = true := all_riseEnd (by omega) h2
        rw [hti]
        refine AWP.regionL ?_
        refine AWPL.at 2 1 rfl ?_
        simp only [go_sem]
        (repeat (refine ⟨⟨_, rfl⟩, ?_⟩))
        refine ssf_call (id := 0) (m := m) (N := ls.flatten.length) (d := ls.flatten.toArray) (by rfl) (by rfl) (by rfl) (by first | rfl | (simp [AV.bel, AV.bel2, AV.bel1]; done)) (OwnBel.cons (fun es h => by cases h; exact bel_rowP ls.flatten.toArray m) OwnBel.nil) (by omega) (by simp) ?_
        simp only [go_sem]
        refine AWPL.of ?_
        simp only [go_sem])
    | (refine AWP.region ?_; simp only [go_sem])
    | (refine AWP.here 13 27 15 rfl ?_; refine AWP.regionO [0, 1, 2, 3, 4, 5, 6, 7, 8, 9, 10, 11, 12, 13, 14] [] (by kernel_rfl) (by kernel_rfl) rfl ?_; simp only [go_sem])
    | (refine hK _ ?_; clear hK K)
    | refine AWP.block ?_
    | refine AWP.cond rfl (fun c => ?_) (fun c => ?_) <;> first | exact Bool.noConfusion c | (try simp only [dD] at c)
    | refine AWP.skip ?_
    | (refine AWP.exit ?_; simp only [go_sem])
    | (refine ACall.one (mright_c l (by have := mem_len hx; omega)) (by kernel_rfl) rfl ?_; simp only [go_sem])
    | (refine ACall.one (byn_c p b) (by kernel_rfl) rfl ?_; simp only [go_sem])
    | (rw [ht]; refine ACall.one (mtog_c (p :: r.takeWhile (smB p)) p (by have := tw_le (p := p) (r := r); rw [← hq] at this; simp only [List.length_cons]; omega) rfl) (by kernel_rfl) rfl ?_; simp only [go_sem])
    | (refine AGuard.splitN (fun h => ?_) (fun h => ?_) <;> simp only [h, go_sem] <;> (try simp only [dD] at h))
    | (refine AGuard.split (fun h => ?_) (fun h => ?_) <;> simp only [h, go_sem] <;> (try simp only [dD] at h))
    | (refine AGet.haveM (by assumption) ?_; (try simp only [go_sem]))
    | (refine AGet.have' (by assumption) ?_; (try simp only [go_sem]))
    | ((first | refine AGet.nth ?_ (fun b hb => ?_) | refine AGet.nth1 ?_ (fun b hb => ?_) | with_reducible refine And.intro ?_ ?_); (focus (first | omega | assumption | exact List.length_pos_iff.2 (by assumption) | (simp only [List.length_append, List.length_cons, List.length_nil, List.length_map, List.length_take, List.length_drop] at *; omega) | (rw [wrap64_id (by omega) (by omega)]; omega) | (simp; done) | (simp [spare_len]; done) | (exact ⟨by omega, by omega⟩))); (try simp only [hb, go_sem]))
    | (
        refine AWP.here 3 12 1 rfl ?_
        refine AWP.nilMu 4 5 rfl ?_
        simp only [go_sem]
        refine AWP.loopM (ι := Nat × Nat) [2, 3, 6, 12, 13, 14, 15, 16, 17, 18, 19, 20, 21] (fun ⟨i, m⟩ => [(11, i64 i), (4, .mu 0 5 0 (ls.take i).flatten.length ((ls.take i).flatten.length + m))]) (fun ⟨i, m⟩ => [some ((ls.take i).flatten.map poV ++ spare 5 m)]) (fun ⟨i, m⟩ => []) (fun ⟨i, m⟩ => i ≤ ls.length ∧ (ls.take i).all riseP = true) (fun ⟨i, m⟩ => ls.length - i) ((0, 0)) ?_ ?_ ?_
        · (try simp only [go_sem]); (repeat' (first | exact .inr bel_pos | exact .inr ⟨rfl, bel_pos⟩ | exact .inr ⟨by simp, bel_pos⟩ | refine And.intro ?_ ?_ | exact .inl rfl | exact .inr rfl | exact .inr ⟨rfl, rfl⟩ | trivial | exact .inr (oblA rfl) | exact .inr ⟨rfl, oblA rfl⟩ | exact .inr bel_strs | exact .inr ⟨rfl, bel_strs⟩ | exact .inr ⟨by simp, bel_strs⟩ | (simp; done) | exact .inr ⟨rfl, by simp⟩ | exact .inr ⟨by simp, by simp⟩)); done
        · exact ⟨by omega, rfl⟩
        rintro ⟨i, m⟩ ⟨h1, h2⟩
        simp only [go_sem]
        have hfl := flat_len (ls := ls) (i := i))
    | (
        refine AWP.here 11 24 3 rfl ?_
        refine AWP.nilTok 7 5 rfl ?_
        simp only [go_sem]
        refine AWP.loopM (ι := List Po × List Po) [8, 24, 25, 26, 27, 28, 29, 30, 31, 32, 33, 34, 35, 36, 37, 38, 39, 40, 41, 42, 43, 44, 45, 46, 47, 48, 49, 50, 51, 52, 53] (fun ⟨q, out⟩ => [(4, posV q), (7, .sl (some 0) 5 (out.map poV))]) (fun ⟨q, out⟩ => [none]) (fun ⟨q, out⟩ => [out.length]) (fun ⟨q, out⟩ => q.length + out.length ≤ ls.flatten.length ∧ out ++ grpA q = grpA (stbP ls.flatten)) (fun ⟨q, out⟩ => q.length) ((stbP ls.flatten, [])) ?_ ?_ ?_
        · (try simp only [go_sem]); (repeat' (first | exact .inr bel_pos | exact .inr ⟨rfl, bel_pos⟩ | exact .inr ⟨by simp, bel_pos⟩ | refine And.intro ?_ ?_ | exact .inl rfl | exact .inr rfl | exact .inr ⟨rfl, rfl⟩ | trivial | exact .inr (oblA rfl) | exact .inr ⟨rfl, oblA rfl⟩ | exact .inr bel_strs | exact .inr ⟨rfl, bel_strs⟩ | exact .inr ⟨by simp, bel_strs⟩ | (simp; done) | exact .inr ⟨rfl, by simp⟩ | exact .inr ⟨by simp, by simp⟩)); done
        · exact ⟨by rw [stbP_len]; simp, rfl⟩
        rintro ⟨q, out⟩ ⟨k1, k2⟩
        simp only [go_sem])
    | (
        refine AWP.here 13 27 15 rfl ?_
        have hrl := tw_le (p := p) (r := r)
        rw [← hq] at hrl
        refine AWP.loopN (ι := Nat) [27, 28, 29, 30, 31, 32, 33, 34, 35, 36, 37, 38, 39, 40, 41, 42, 43] (fun (n : Nat) => [(8, i64 n)]) (fun (n : Nat) => 1 ≤ n ∧ n ≤ 1 + (r.takeWhile (smB p)).length) (fun (n : Nat) => q.length - n) (1) ?_ ?_ ?_
        · (try simp only [go_sem]); (repeat' (first | refine And.intro ?_ ?_ | exact .inl rfl | exact .inr rfl | exact .inr ⟨rfl, rfl⟩ | trivial | exact .inr (oblA rfl) | exact .inr ⟨rfl, oblA rfl⟩ | exact .inr bel_strs | exact .inr ⟨rfl, bel_strs⟩ | exact .inr ⟨by simp, bel_strs⟩ | (simp; done) | exact .inr ⟨rfl, by simp⟩ | exact .inr ⟨by simp, by simp⟩)); done
        · exact ⟨by omega, by omega⟩
        rintro n ⟨j1, j2⟩
        simp only [go_sem])
    | (
        refine ⟨(i + 1, mm), ?_, ⟨by show i + 1 ≤ ls.length; omega, all_riseNext hx h2 (by assumption)⟩, by show ls.length - (i + 1) < ls.length - i; omega⟩
        (try simp only [go_sem]); (try rw [wrap64_id (by omega) (by omega)]); rw [flat_next hx, List.length_append]; (repeat' (first | exact .inr bel_pos | exact .inr ⟨rfl, bel_pos⟩ | exact .inr ⟨by simp, bel_pos⟩ | refine And.intro ?_ ?_ | exact .inl rfl | exact .inr rfl | exact .inr ⟨rfl, rfl⟩ | trivial | exact .inr (oblA rfl) | exact .inr ⟨rfl, oblA rfl⟩ | exact .inr bel_strs | exact .inr ⟨rfl, bel_strs⟩ | exact .inr ⟨by simp, bel_strs⟩ | (simp; done) | exact .inr ⟨rfl, by simp⟩ | exact .inr ⟨by simp, by simp⟩)); done)
    | (
        refine ⟨(r.dropWhile (smB p), out ++ [togF (nmP p) (p :: r.takeWhile (smB p))]), ?_, ⟨by show (r.dropWhile (smB p)).length + (out ++ [_]).length ≤ _; rw [← hd, List.length_drop, List.length_append, List.length_singleton]; omega, by show (out ++ [_]) ++ grpA (r.dropWhile (smB p)) = _; rw [← k2, hq, grpA_cons]; simp⟩, by show (r.dropWhile (smB p)).length < q.length; rw [← hd, List.length_drop]; omega⟩
        (try simp only [go_sem]); rw [hd]; (try simp only [List.map_append, List.map_cons, List.map_nil, List.length_append, List.length_singleton]); (repeat' (first | exact .inr bel_pos | exact .inr ⟨rfl, bel_pos⟩ | exact .inr ⟨by simp, bel_pos⟩ | refine And.intro ?_ ?_ | exact .inl rfl | exact .inr rfl | exact .inr ⟨rfl, rfl⟩ | trivial | exact .inr (oblA rfl) | exact .inr ⟨rfl, oblA rfl⟩ | exact .inr bel_strs | exact .inr ⟨rfl, bel_strs⟩ | exact .inr ⟨by simp, bel_strs⟩ | (simp; done) | exact .inr ⟨rfl, by simp⟩ | exact .inr ⟨by simp, by simp⟩)); done)
    | (
        refine ⟨n + 1, ?_, ?_, ?_⟩
        · (try simp only [go_sem]); (try rw [wrap64_id (by omega) (by omega)]); (repeat' (first | refine And.intro ?_ ?_ | exact .inl rfl | exact .inr rfl | exact .inr ⟨rfl, rfl⟩ | trivial | exact .inr (oblA rfl) | exact .inr ⟨rfl, oblA rfl⟩ | exact .inr bel_strs | exact .inr ⟨rfl, bel_strs⟩ | exact .inr ⟨by simp, bel_strs⟩ | (simp; done) | exact .inr ⟨rfl, by simp⟩ | exact .inr ⟨by simp, by simp⟩)); done
        · exact ⟨by omega, tw_next j1 j2 (hq ▸ hb) (by assumption)⟩
        · (try simp only []); omega)
    | (
        refine AWP.ret ?_
        refine AEnd.is ?_; simp only [go_sem, out_v, out_s, out_n, v_int, v_bool, v_str] <;> (first | (rw [all_riseNo hx (by assumption)]; exact ⟨trivial, rfl⟩) | (rw [mergeF_eq hall, ← k2]; simp [grpA, grpF, show q = [] from List.eq_nil_of_length_eq_zero (by omega)]; done) | skip))
    | refine AWP.fin (by assumption) ?_
    | fail)

set_option maxHeartbeats 4000000 in
set_option maxRecDepth 8000 in
theorem over1_c (p : Po) : ACalls E 135 [poV p] (fun r t => r = bl p.over ∧ t = []) := by -- checkroll/roll.over$1
  refine ACalls.of_awp (n := 5) (rs := [.tmp 2]) Tryz.func135 rfl Tryz.ntmps135 rfl ?_
  repeat' (first
    | refine AWP.seqk fun K hK => ?_
    | (refine AWP.region ?_; simp only [go_sem])
    | (refine hK _ ?_; clear hK K)
    | refine AWP.block ?_
    | refine AWP.cond rfl (fun c => ?_) (fun c => ?_) <;> first | exact Bool.noConfusion c | (try simp only [dD] at c)
    | refine AWP.skip ?_
    | (refine AWP.exit ?_; simp only [go_sem])
    | (refine AGet.haveM (by assumption) ?_; (try simp only [go_sem]))
    | (refine AGet.have' (by assumption) ?_; (try simp only [go_sem]))
    | ((first | refine AGet.nth ?_ (fun b hb => ?_) | refine AGet.nth1 ?_ (fun b hb => ?_) | with_reducible refine And.intro ?_ ?_); (focus (first | omega | assumption | exact List.length_pos_iff.2 (by assumption) | (simp only [List.length_append, List.length_cons, List.length_nil, List.length_map, List.length_take, List.length_drop] at *; omega) | (rw [wrap64_id (by omega) (by omega)]; omega) | (simp; done) | (simp [spare_len]; done) | (exact ⟨by omega, by omega⟩))); (try simp only [hb, go_sem]))
    | (
        refine AWP.ret ?_
        refine AEnd.is ?_; simp only [go_sem, out_v, out_s, out_n, v_int, v_bool, v_str] <;> rfl)
    | refine AWP.fin (by assumption) ?_
    | fail)

set_option maxHeartbeats 4000000 in
set_option maxRecDepth 8000 in
theorem ovidx_c (l : List Po) (hl : l.length ≤ 9223372036854775807) : ACalls E 184 [posV l, .fn 135 []] (fun r t => r = i64 (idxP (fun p : Po => p.over) l) ∧ t = []) := by -- slices.IndexFunc[[]checkroll/api.Pos,checkroll/api.Pos]
  refine ACalls.of_awp (n := 19) (rs := [.tmp 4]) Tryz.func184 rfl Tryz.ntmps184 rfl ?_
  repeat' (first
    | refine AWP.seqk fun K hK => ?_
    | (refine AWP.region ?_; simp only [go_sem])
    | (refine hK _ ?_; clear hK K)
    | refine AWP.block ?_
    | refine AWP.cond rfl (fun c => ?_) (fun c => ?_) <;> first | exact Bool.noConfusion c | (try simp only [dD] at c)
    | refine AWP.skip ?_
    | (refine AWP.exit ?_; simp only [go_sem])
    | (refine ACall.one (over1_c _) (by kernel_rfl) rfl ?_; simp only [go_sem])
    | (refine AGet.haveM (by assumption) ?_; (try simp only [go_sem]))
    | (refine AGet.have' (by assumption) ?_; (try simp only [go_sem]))
    | ((first | refine AGet.nth ?_ (fun b hb => ?_) | refine AGet.nth1 ?_ (fun b hb => ?_) | with_reducible refine And.intro ?_ ?_); (focus (first | omega | assumption | exact List.length_pos_iff.2 (by assumption) | (simp only [List.length_append, List.length_cons, List.length_nil, List.length_map, List.length_take, List.length_drop] at *; omega) | (rw [wrap64_id (by omega) (by omega)]; omega) | (simp; done) | (simp [spare_len]; done) | (exact ⟨by omega, by omega⟩))); (try simp only [hb, go_sem]))
    | (
        refine AWP.here 2 9 1 rfl ?_
        refine AWP.loopN (ι := Nat) [4, 5, 9, 10, 11, 12, 13, 14, 15, 16, 17, 18] (fun (i : Nat) => [(8, i64 i)]) (fun (i : Nat) => i ≤ l.length ∧ (l.take i).all (fun p : Po => !p.over) = true) (fun (i : Nat) => l.length - i) (0) ?_ ?_ ?_
        · (try simp only [go_sem]); (repeat' (first | refine And.intro ?_ ?_ | exact .inl rfl | exact .inr rfl | exact .inr ⟨rfl, rfl⟩ | trivial | exact .inr (oblA rfl) | exact .inr ⟨rfl, oblA rfl⟩ | exact .inr bel_strs | exact .inr ⟨rfl, bel_strs⟩ | exact .inr ⟨by simp, bel_strs⟩ | (simp; done) | exact .inr ⟨rfl, by simp⟩ | exact .inr ⟨by simp, by simp⟩)); done
        · exact ⟨by omega, by simp⟩
        rintro i ⟨h1, h2⟩
        simp only [go_sem])
    | (
        refine ⟨i + 1, ?_, ?_, ?_⟩
        · (try simp only [go_sem]); (try rw [wrap64_id (by omega) (by omega)]); (repeat' (first | refine And.intro ?_ ?_ | exact .inl rfl | exact .inr rfl | exact .inr ⟨rfl, rfl⟩ | trivial | exact .inr (oblA rfl) | exact .inr ⟨rfl, oblA rfl⟩ | exact .inr bel_strs | exact .inr ⟨rfl, bel_strs⟩ | exact .inr ⟨by simp, bel_strs⟩ | (simp; done) | exact .inr ⟨rfl, by simp⟩ | exact .inr ⟨by simp, by simp⟩)); done
        · exact ⟨by omega, all_next hb h2 (by simp_all)⟩
        · (try simp only []); omega)
    | (
        refine AWP.ret ?_
        refine AEnd.is ?_; simp only [go_sem, out_v, out_s, out_n, v_int, v_bool, v_str] <;> (first | (rw [idxP_of hb (by simp_all) h2]; done) | (rw [idxP_none (by omega) h2]; done) | skip))
    | refine AWP.fin (by assumption) ?_
    | fail)

set_option maxHeartbeats 4000000 in
set_option maxRecDepth 8000 in
theorem ovcf_c (l : List Po) (hl : l.length ≤ 9223372036854775807) : ACalls E 134 [posV l, .fn 135 []] (fun r t => r = bl (decide (0 ≤ idxP (fun p : Po => p.over) l)) ∧ t = []) := by -- slices.ContainsFunc[[]checkroll/api.Pos,checkroll/api.Pos]
  refine ACalls.of_awp (n := 9) (rs := [.tmp 4]) Tryz.func134 rfl Tryz.ntmps134 rfl ?_
  repeat' (first
    | refine AWP.seqk fun K hK => ?_
    | (refine AWP.region ?_; simp only [go_sem])
    | (refine hK _ ?_; clear hK K)
    | refine AWP.block ?_
    | refine AWP.cond rfl (fun c => ?_) (fun c => ?_) <;> first | exact Bool.noConfusion c | (try simp only [dD] at c)
    | refine AWP.skip ?_
    | (refine AWP.exit ?_; simp only [go_sem])
    | (refine ACall.one (ovidx_c l hl) (by kernel_rfl) rfl ?_; simp only [go_sem])
    | (refine AGet.haveM (by assumption) ?_; (try simp only [go_sem]))
    | (refine AGet.have' (by assumption) ?_; (try simp only [go_sem]))
    | ((first | refine AGet.nth ?_ (fun b hb => ?_) | refine AGet.nth1 ?_ (fun b hb => ?_) | with_reducible refine And.intro ?_ ?_); (focus (first | omega | assumption | exact List.length_pos_iff.2 (by assumption) | (simp only [List.length_append, List.length_cons, List.length_nil, List.length_map, List.length_take, List.length_drop] at *; omega) | (rw [wrap64_id (by omega) (by omega)]; omega) | (simp; done) | (simp [spare_len]; done) | (exact ⟨by omega, by omega⟩))); (try simp only [hb, go_sem]))
    | (
        refine AWP.ret ?_
        refine AEnd.is ?_; simp only [go_sem, out_v, out_s, out_n, v_int, v_bool, v_str] <;> rfl)
    | refine AWP.fin (by assumption) ?_
    | fail)

set_option maxHeartbeats 4000000 in
set_option maxRecDepth 8000 in
theorem rover_c (l : List Po) (hl : l.length ≤ 9223372036854775807) : ACalls E 57 [posV l] (fun r t => r = bl (l.any (·.over)) ∧ t = []) := by -- checkroll/roll.over
  refine ACalls.of_awp (n := 5) (rs := [.tmp 2]) Tryz.func57 rfl Tryz.ntmps57 rfl ?_
  repeat' (first
    | refine AWP.seqk fun K hK => ?_
    | (refine AWP.region ?_; simp only [go_sem])
    | (refine hK _ ?_; clear hK K)
    | refine AWP.block ?_
    | refine AWP.cond rfl (fun c => ?_) (fun c => ?_) <;> first | exact Bool.noConfusion c | (try simp only [dD] at c)
    | refine AWP.skip ?_
    | (refine AWP.exit ?_; simp only [go_sem])
    | (refine ACall.one (ovcf_c l hl) (by kernel_rfl) rfl ?_; simp only [go_sem])
    | (refine AGet.haveM (by assumption) ?_; (try simp only [go_sem]))
    | (refine AGet.have' (by assumption) ?_; (try simp only [go_sem]))
    | ((first | refine AGet.nth ?_ (fun b hb => ?_) | refine AGet.nth1 ?_ (fun b hb => ?_) | with_reducible refine And.intro ?_ ?_); (focus (first | omega | assumption | exact List.length_pos_iff.2 (by assumption) | (simp only [List.length_append, List.length_cons, List.length_nil, List.length_map, List.length_take, List.length_drop] at *; omega) | (rw [wrap64_id (by omega) (by omega)]; omega) | (simp; done) | (simp [spare_len]; done) | (exact ⟨by omega, by omega⟩))); (try simp only [hb, go_sem]))
    | (
        refine AWP.ret ?_
        refine AEnd.is ?_; simp only [go_sem, out_v, out_s, out_n, v_int, v_bool, v_str] <;> (first | exact idxP_any | skip))
    | refine AWP.fin (by assumption) ?_
    | fail)

set_option maxHeartbeats 4000000 in
set_option maxRecDepth 8000 in
theorem rcarry_c (x y : List Po) (hx : x.length ≤ 400000) (hy : y.length ≤ 400000) : ACalls E 17 [posV x, posV y] (fun r t => r = .tup [posV (carryF x y).1, i64 (carryF x y).2] ∧ t = []) := by -- checkroll/roll.Carry
  have hml := merge_len [x, y]
  simp only [List.flatten_cons, List.flatten_nil, List.append_nil, List.length_append] at hml
  refine ACalls.of_awp (n := 21) (rs := [.tmp 4, .tmp 5]) Tryz.func17 rfl Tryz.ntmps17 rfl ?_
  repeat' (first
    | refine AWP.seqk fun K hK => ?_
    | (refine AWP.region ?_; simp only [go_sem])
    | (refine hK _ ?_; clear hK K)
    | refine AWP.block ?_
    | refine AWP.cond rfl (fun c => ?_) (fun c => ?_) <;> first | exact Bool.noConfusion c | (try simp only [dD] at c)
    | refine AWP.skip ?_
    | (refine AWP.exit ?_; simp only [go_sem])
    | (refine ACall.one (mall_c [x, y] (by simp) (by simp only [List.flatten_cons, List.flatten_nil, List.append_nil, List.length_append]; omega)) (by kernel_rfl) rfl ?_; simp only [go_sem])
    | (refine ACall.one (rover_c (mergeF [x, y]).1 (by omega)) (by kernel_rfl) rfl ?_; simp only [go_sem])
    | (refine AGet.haveM (by assumption) ?_; (try simp only [go_sem]))
    | (refine AGet.have' (by assumption) ?_; (try simp only [go_sem]))
    | ((first | refine AGet.nth ?_ (fun b hb => ?_) | refine AGet.nth1 ?_ (fun b hb => ?_) | with_reducible refine And.intro ?_ ?_); (focus (first | omega | assumption | exact List.length_pos_iff.2 (by assumption) | (simp only [List.length_append, List.length_cons, List.length_nil, List.length_map, List.length_take, List.length_drop] at *; omega) | (rw [wrap64_id (by omega) (by omega)]; omega) | (simp; done) | (simp [spare_len]; done) | (exact ⟨by omega, by omega⟩))); (try simp only [hb, go_sem]))
    | (
        refine AWP.ret ?_
        refine AEnd.is ?_; simp only [go_sem, out_v, out_s, out_n, v_int, v_bool, v_str] <;> (first | (unfold carryF; rw [if_pos (by assumption)]; first | exact ⟨trivial, rfl⟩ | (simp; done)) | (unfold carryF; rw [if_neg (by simp_all), if_pos (by assumption)]; first | exact ⟨trivial, rfl⟩ | (simp; done)) | (unfold carryF; rw [if_neg (by simp_all), if_neg (by simp_all)]; first | exact ⟨⟨rfl, rfl⟩, rfl⟩ | (simp; done)) | skip))
    | refine AWP.fin (by assumption) ?_
    | fail)


end Go.Proofs.YtajeeghgiilhiaaGreat
end
section
set_option linter.unusedVariables false
set_option linter.unusedSimpArgs false
namespace Go.Proofs.YtajeeghgiilhiaaGreat
open Go Go.Abs Go.RowKit Go.Bk
structure GP (n : Nm) (F : List Po) (qs vs : List Int) (ov : Bool) : Prop where
  q : qs = (sameF n F).map (·.qty)
  v : vs = (sameF n F).map (·.value)
  o : ov = (sameF n F).any (·.over)
section
variable {n : Nm} {F l : List Po} {k : Nat} {x : Po} {qs vs : List Int} {ov : Bool} {ls : List (List Po)} {i : Nat}
theorem GP.zero : GP n [] [] [] false := ⟨rfl, rfl, rfl⟩
theorem GP.lens (h : GP n F qs vs ov) : qs.length ≤ F.length ∧ vs.length ≤ F.length := by
  rw [h.q, h.v, List.length_map, List.length_map]
  exact ⟨List.length_filter_le _ _, List.length_filter_le _ _⟩
theorem GP.no {a s : Bs} (h : GP (a, s) (F ++ l.take k) qs vs ov) (hy : l[k]? = some x) (hn : ¬ (x.acc = a ∧ x.sym = s)) : GP (a, s) (F ++ l.take (k + 1)) qs vs ov := by
  have e : sameF (a, s) (F ++ l.take (k + 1)) = sameF (a, s) (F ++ l.take k) := by
    rw [take_next hy, ← List.append_assoc]
    unfold sameF
    rw [List.filter_append, List.filter_cons_of_neg (by simpa [nmP] using hn)]; simp
  exact ⟨by rw [e]; exact h.q, by rw [e]; exact h.v, by rw [e]; exact h.o⟩
theorem GP.yes {a s : Bs} (h : GP (a, s) (F ++ l.take k) qs vs ov) (hy : l[k]? = some x) (h1 : x.acc = a) (h2 : x.sym = s) {o : Bool} (ho : o = (ov || x.over)) : GP (a, s) (F ++ l.take (k + 1)) (qs ++ [x.qty]) (vs ++ [x.value]) o := by
  have e : sameF (a, s) (F ++ l.take (k + 1)) = sameF (a, s) (F ++ l.take k) ++ [x] := by
    rw [take_next hy, ← List.append_assoc]
    unfold sameF
    rw [List.filter_append, List.filter_cons_of_pos (by simp [nmP, h1, h2])]; simp
  refine ⟨by rw [e, List.map_append, ← h.q]; rfl, by rw [e, List.map_append, ← h.v]; rfl, by rw [e, List.any_append, ← h.o, ho]; simp⟩
theorem nm1 {a s : Bs} (h : ¬ x.acc = a) : ¬ (x.acc = a ∧ x.sym = s) := fun e => h e.1
theorem nm2 {a s : Bs} (h : ¬ x.sym = s) : ¬ (x.acc = a ∧ x.sym = s) := fun e => h e.2
theorem one_over (h : GP n (ls.take i).flatten qs vs ov) (hi : ls.length ≤ i) (c : ov = true ∨ (sumF qs).2 = false ∨ (sumF vs).2 = false) : oneF ls.flatten n = ⟨n.1, n.2, 0, 0, true⟩ := by
  rw [List.take_of_length_le hi] at h
  unfold oneF togF
  rw [← h.q, ← h.v, ← h.o]
  rcases c with c | c | c
  · rw [if_pos c]
  · rw [c]; split <;> simp
  · rw [c]; split <;> simp
theorem one_ok (h : GP n (ls.take i).flatten qs vs ov) (hi : ls.length ≤ i) (c : ov = false) (c1 : (sumF qs).2 = true) (c2 : (sumF vs).2 = true) : oneF ls.flatten n = ⟨n.1, n.2, (sumF qs).1, (sumF vs).1, false⟩ := by
  rw [List.take_of_length_le hi] at h
  unfold oneF togF
  rw [← h.q, ← h.v, ← h.o, if_neg (by simp [c]), if_pos (by rw [c1, c2]; rfl)]
theorem putk_next {g : Nm → Po} (hy : l[k]? = some x) : putsF g ((F ++ l.take (k + 1)).map nmP) = putF (putsF g ((F ++ l.take k).map nmP)) (g (nmP x)) := by
  rw [take_next hy, ← List.append_assoc, List.map_append]
  unfold putsF
  rw [List.foldl_append]; rfl
end

set_option maxHeartbeats 16000000 in
set_option maxRecDepth 8000 in
theorem r14one_c (ls : List (List Po)) (a s : Bs) (hl : ls.length ≤ 1000000) (hfl : ls.flatten.length ≤ 1000000) : ACalls E 73 [pssV ls, str a, str s] (fun r t => r = poV (oneF ls.flatten (a, s)) ∧ t = []) := by -- checkroll/checkrollref14.One
  refine ACalls.of_awp (n := 91) (rs := [.cell 6 49]) Tryz.func73 rfl Tryz.ntmps73 rfl ?_
  repeat' (first
    | refine AWP.seqk fun K hK => ?_
    | (
        refine AWP.here 6 11 1 rfl ?_
        obtain ⟨l, hx⟩ : ∃ l, ls[i]? = some l := ⟨_, List.getElem?_eq_getElem (by omega)⟩
        have hll := mem_len hx
        refine AWP.region ?_; simp only [go_sem])
    | (
        refine AWP.here 9 32 9 rfl ?_
        obtain ⟨x, hy⟩ : ∃ x, l[k]? = some x := ⟨_, List.getElem?_eq_getElem (by omega)⟩
        refine AWP.region ?_; simp only [go_sem])
    | (refine AWP.region ?_; simp only [go_sem])
    | (refine hK _ ?_; clear hK K)
    | refine AWP.block ?_
    | refine AWP.cond rfl (fun c => ?_) (fun c => ?_) <;> first | exact Bool.noConfusion c | (try simp only [dD] at c)
    | refine AWP.skip ?_
    | (refine AWP.exit ?_; simp only [go_sem])
    | (refine ACall.one (r1sum_c qs (by omega)) (by kernel_rfl) rfl ?_; simp only [go_sem])
    | (refine ACall.one (r1sum_c vs (by omega)) (by kernel_rfl) rfl ?_; simp only [go_sem])
    | (refine AGuard.splitN (fun h => ?_) (fun h => ?_) <;> simp only [h, go_sem] <;> (try simp only [dD] at h))
    | (refine AGuard.split (fun h => ?_) (fun h => ?_) <;> simp only [h, go_sem] <;> (try simp only [dD] at h))
    | (refine AGet.haveM (by assumption) ?_; (try simp only [go_sem]))
    | (refine AGet.have' (by assumption) ?_; (try simp only [go_sem]))
    | ((first | refine AGet.nth ?_ (fun b hb => ?_) | refine AGet.nth1 ?_ (fun b hb => ?_) | with_reducible refine And.intro ?_ ?_); (focus (first | omega | assumption | exact List.length_pos_iff.2 (by assumption) | (simp only [List.length_append, List.length_cons, List.length_nil, List.length_map, List.length_take, List.length_drop] at *; omega) | (rw [wrap64_id (by omega) (by omega)]; omega) | (simp; done) | (simp [spare_len]; done) | (exact ⟨by omega, by omega⟩))); (try simp only [hb, go_sem]))
    | (
        refine AWP.here 4 17 4 rfl ?_
        refine AWP.nilTok 8 1 rfl ?_
        refine AWP.nilTok 9 1 rfl ?_
        simp only [go_sem]
        refine AWP.loopM (ι := Nat × List Int × List Int × Bool) [11, 12, 17, 18, 19, 20, 21, 22, 23, 24, 25, 26, 27, 28, 29, 30, 31, 32, 33, 34, 35, 36, 37, 38, 39, 40, 41, 42, 43, 44, 45, 46, 47, 48, 49, 50, 51, 52, 53, 54, 55, 56, 57, 58, 59, 60, 61, 62, 63] (fun ⟨i, qs, vs, ov⟩ => [(10, i64 i), (8, .sl (some 0) 1 (qs.map i64)), (9, .sl (some 1) 1 (vs.map i64)), (7, bl ov)]) (fun ⟨i, qs, vs, ov⟩ => [some [.agg [str [], str [], i64 0, i64 0, bl false]]]) (fun ⟨i, qs, vs, ov⟩ => [qs.length, vs.length]) (fun ⟨i, qs, vs, ov⟩ => i ≤ ls.length ∧ GP (a, s) (ls.take i).flatten qs vs ov) (fun ⟨i, qs, vs, ov⟩ => ls.length - i) ((0, [], [], false)) ?_ ?_ ?_
        · (try simp only [go_sem]); (repeat' (first | refine And.intro ?_ ?_ | exact .inl rfl | exact .inr rfl | exact .inr ⟨rfl, rfl⟩ | trivial | exact .inr (oblA rfl) | exact .inr ⟨rfl, oblA rfl⟩ | exact .inr bel_strs | exact .inr ⟨rfl, bel_strs⟩ | exact .inr ⟨by simp, bel_strs⟩ | (simp; done) | exact .inr ⟨rfl, by simp⟩ | exact .inr ⟨by simp, by simp⟩)); done
        · exact ⟨by omega, GP.zero⟩
        rintro ⟨i, qs, vs, ov⟩ ⟨h1, h2⟩
        simp only [go_sem]
        have hf0 := flat_len (ls := ls) (i := i)
        have hq0 := h2.lens)
    | (
        refine AWP.here 7 23 7 rfl ?_
        refine AWP.loopM (ι := Nat × List Int × List Int × Bool) [12, 23, 24, 25, 26, 27, 28, 29, 30, 31, 32, 33, 34, 35, 36, 37, 38, 39, 40, 41, 42, 43, 44, 45, 46, 47, 48, 49, 50, 51, 52, 53, 54, 55, 56, 57, 58, 59, 60, 61, 62, 63] (fun ⟨k, qs2, vs2, ov2⟩ => [(11, i64 k), (8, .sl (some 0) 1 (qs2.map i64)), (9, .sl (some 1) 1 (vs2.map i64)), (7, bl ov2)]) (fun ⟨k, qs2, vs2, ov2⟩ => [some [.agg [str [], str [], i64 0, i64 0, bl false]]]) (fun ⟨k, qs2, vs2, ov2⟩ => [qs2.length, vs2.length]) (fun ⟨k, qs2, vs2, ov2⟩ => k ≤ l.length ∧ GP (a, s) ((ls.take i).flatten ++ l.take k) qs2 vs2 ov2) (fun ⟨k, qs2, vs2, ov2⟩ => l.length - k) ((0, qs, vs, ov)) ?_ ?_ ?_
        · (try simp only [go_sem]); (repeat' (first | refine And.intro ?_ ?_ | exact .inl rfl | exact .inr rfl | exact .inr ⟨rfl, rfl⟩ | trivial | exact .inr (oblA rfl) | exact .inr ⟨rfl, oblA rfl⟩ | exact .inr bel_strs | exact .inr ⟨rfl, bel_strs⟩ | exact .inr ⟨by simp, bel_strs⟩ | (simp; done) | exact .inr ⟨rfl, by simp⟩ | exact .inr ⟨by simp, by simp⟩)); done
        · exact ⟨by omega, by simpa using h2⟩
        rintro ⟨k, qs2, vs2, ov2⟩ ⟨g1, g2⟩
        simp only [go_sem]
        have hq2 := g2.lens
        have hl2 : ((ls.take i).flatten ++ l.take k).length ≤ 2000000 := by rw [List.length_append, List.length_take]; omega)
    | (
        refine ⟨(i + 1, qs2, vs2, ov2), ?_, ⟨by show i + 1 ≤ ls.length; omega, by show GP (a, s) (ls.take (i + 1)).flatten qs2 vs2 ov2; rw [flat_next hx]; rw [List.take_of_length_le (show l.length ≤ k by omega)] at g2; exact g2⟩, by show ls.length - (i + 1) < ls.length - i; omega⟩
        (try simp only [go_sem]); (try rw [wrap64_id (by omega) (by omega)]); (repeat' (first | refine And.intro ?_ ?_ | exact .inl rfl | exact .inr rfl | exact .inr ⟨rfl, rfl⟩ | trivial | exact .inr (oblA rfl) | exact .inr ⟨rfl, oblA rfl⟩ | exact .inr bel_strs | exact .inr ⟨rfl, bel_strs⟩ | exact .inr ⟨by simp, bel_strs⟩ | (simp; done) | exact .inr ⟨rfl, by simp⟩ | exact .inr ⟨by simp, by simp⟩)); done)
    | (
        first
        | (refine ⟨(k + 1, qs2, vs2, ov2), ?_, ⟨by show k + 1 ≤ l.length; omega, by show GP (a, s) ((ls.take i).flatten ++ l.take (k + 1)) qs2 vs2 ov2; exact g2.no hy (by first | exact nm1 (by assumption) | exact nm2 (by assumption) | (intro e; simp_all))⟩, by show l.length - (k + 1) < l.length - k; omega⟩
           (try simp only [go_sem]); (try rw [wrap64_id (by omega) (by omega)]); (repeat' (first | refine And.intro ?_ ?_ | exact .inl rfl | exact .inr rfl | exact .inr ⟨rfl, rfl⟩ | trivial | exact .inr (oblA rfl) | exact .inr ⟨rfl, oblA rfl⟩ | exact .inr bel_strs | exact .inr ⟨rfl, bel_strs⟩ | exact .inr ⟨by simp, bel_strs⟩ | (simp; done) | exact .inr ⟨rfl, by simp⟩ | exact .inr ⟨by simp, by simp⟩)); done)
        | (refine ⟨(k + 1, qs2 ++ [x.qty], vs2 ++ [x.value], true), ?_, ⟨by show k + 1 ≤ l.length; omega, by show GP (a, s) ((ls.take i).flatten ++ l.take (k + 1)) (qs2 ++ [x.qty]) (vs2 ++ [x.value]) true; exact g2.yes hy (by assumption) (by assumption) (by rw [‹ov2 = true›]; rfl)⟩, by show l.length - (k + 1) < l.length - k; omega⟩
           (try simp only [go_sem]); (try rw [wrap64_id (by omega) (by omega)]); (repeat' (first | refine And.intro ?_ ?_ | exact .inl rfl | exact .inr rfl | exact .inr ⟨rfl, rfl⟩ | trivial | exact .inr (oblA rfl) | exact .inr ⟨rfl, oblA rfl⟩ | exact .inr bel_strs | exact .inr ⟨rfl, bel_strs⟩ | exact .inr ⟨by simp, bel_strs⟩ | (simp; done) | exact .inr ⟨rfl, by simp⟩ | exact .inr ⟨by simp, by simp⟩)); done)
        | (refine ⟨(k + 1, qs2 ++ [x.qty], vs2 ++ [x.value], x.over), ?_, ⟨by show k + 1 ≤ l.length; omega, by show GP (a, s) ((ls.take i).flatten ++ l.take (k + 1)) (qs2 ++ [x.qty]) (vs2 ++ [x.value]) x.over; exact g2.yes hy (by assumption) (by assumption) (by rw [‹ov2 = false›]; rfl)⟩, by show l.length - (k + 1) < l.length - k; omega⟩
           (try simp only [go_sem]); (try rw [wrap64_id (by omega) (by omega)]); (repeat' (first | refine And.intro ?_ ?_ | exact .inl rfl | exact .inr rfl | exact .inr ⟨rfl, rfl⟩ | trivial | exact .inr (oblA rfl) | exact .inr ⟨rfl, oblA rfl⟩ | exact .inr bel_strs | exact .inr ⟨rfl, bel_strs⟩ | exact .inr ⟨by simp, bel_strs⟩ | (simp; done) | exact .inr ⟨rfl, by simp⟩ | exact .inr ⟨by simp, by simp⟩)); done))
    | (
        refine AWP.ret ?_
        refine AEnd.is ?_; simp only [go_sem, out_v, out_s, out_n, v_int, v_bool, v_str] <;> (first | (rw [one_over h2 (by omega) (.inl (by assumption))]; simp; done) | (rw [one_over h2 (by omega) (.inr (.inl (by assumption)))]; simp; done) | (rw [one_over h2 (by omega) (.inr (.inr (by assumption)))]; simp; done) | (rw [one_ok h2 (by omega) (by assumption) (by assumption) (by assumption)]; simp; done) | skip))
    | refine AWP.fin (by assumption) ?_
    | fail)

set_option maxHeartbeats 16000000 in
set_option maxRecDepth 8000 in
theorem r14all_c (ls : List (List Po)) (hl : ls.length ≤ 1000000) (hfl : ls.flatten.length ≤ 1000000) : ACalls E 62 [pssV ls] (fun r t => r = .tup [posV (mergeF ls).1, i64 (mergeF ls).2] ∧ t = []) := by -- checkroll/checkrollref14.All
  refine ACalls.of_awp (n := 56) (rs := [.tmp 2, .tmp 3]) Tryz.func62 rfl Tryz.ntmps62 rfl ?_
  repeat' (first
    | refine AWP.seqk fun K hK => ?_
    | (
        refine AWP.here 5 14 6 rfl ?_
        obtain ⟨l, hx⟩ : ∃ l, ls[j]? = some l := ⟨_, List.getElem?_eq_getElem (by omega)⟩
        have hll := mem_len hx
        refine AWP.region ?_; simp only [go_sem])
    | (
        refine AWP.here 10 7 1 rfl ?_
        obtain ⟨l, hz⟩ : ∃ l, ls[i]? = some l := ⟨_, List.getElem?_eq_getElem (by omega)⟩
        have hll := mem_len hz
        refine AWP.region ?_; simp only [go_sem])
    | (
        refine AWP.here 13 35 21 rfl ?_
        obtain ⟨x, hy⟩ : ∃ x, l[k]? = some x := ⟨_, List.getElem?_eq_getElem (by omega)⟩
        refine AWP.regionAs [0, 1, 2, 3, 4, 5, 6, 7, 8, 9, 10, 11, 12, 13, 14, 15, 16, 17, 18, 19, 20] [[], [], [], [], [2, 3], [2, 3, 4], [], [2, 3, 4, 5, 6], [2, 3, 4, 5, 6, 7], [2, 3, 4, 5, 6, 7, 8], [], [], [10, 11], [10, 11, 12], [], [10, 11, 12, 13, 14], [10, 11, 12, 13, 14, 15], [10, 11, 12, 13, 14, 15, 16], [1, 2, 3, 4, 5, 6, 7, 8, 9, 10, 11, 12, 13, 14, 15, 16, 17], [0, 1, 2, 3, 4, 5, 6, 7, 8, 9, 10, 11, 12, 13, 14, 15, 16, 17, 18], [0, 1, 2, 3, 4, 5, 6, 7, 8, 9, 10, 11, 12, 13, 14, 15, 16, 17, 18, 19]] [] (by kernel_rfl) (by kernel_rfl) (by decide) rfl ?_; simp only [go_sem])
    | (refine AWP.region ?_; simp only [go_sem])
    | (refine AWP.here 13 35 21 rfl ?_; refine AWP.regionAs [0, 1, 2, 3, 4, 5, 6, 7, 8, 9, 10, 11, 12, 13, 14, 15, 16, 17, 18, 19, 20] [[], [], [], [], [2, 3], [2, 3, 4], [], [2, 3, 4, 5, 6], [2, 3, 4, 5, 6, 7], [2, 3, 4, 5, 6, 7, 8], [], [], [10, 11], [10, 11, 12], [], [10, 11, 12, 13, 14], [10, 11, 12, 13, 14, 15], [10, 11, 12, 13, 14, 15, 16], [1, 2, 3, 4, 5, 6, 7, 8, 9, 10, 11, 12, 13, 14, 15, 16, 17], [0, 1, 2, 3, 4, 5, 6, 7, 8, 9, 10, 11, 12, 13, 14, 15, 16, 17, 18], [0, 1, 2, 3, 4, 5, 6, 7, 8, 9, 10, 11, 12, 13, 14, 15, 16, 17, 18, 19]] [] (by kernel_rfl) (by kernel_rfl) (by decide) rfl ?_; simp only [go_sem])
    | (refine hK _ ?_; clear hK K)
    | refine AWP.block ?_
    | refine AWP.cond rfl (fun c => ?_) (fun c => ?_) <;> first | exact Bool.noConfusion c | (try simp only [dD] at c)
    | refine AWP.skip ?_
    | (refine AWP.exit ?_; simp only [go_sem])
    | (refine ACall.one (r14right_c l (by omega)) (by kernel_rfl) rfl ?_; simp only [go_sem])
    | (refine ACall.one (r14one_c ls x.acc x.sym hl hfl) (by kernel_rfl) rfl ?_; simp only [go_sem])
    | (refine ACall.one (r13put_c (putsF (oneF ls.flatten) (((ls.take i).flatten ++ l.take k).map nmP)) (oneF ls.flatten (x.acc, x.sym)) (by omega)) (by kernel_rfl) rfl ?_; simp only [go_sem])
    | (refine AGet.haveM (by assumption) ?_; (try simp only [go_sem]))
    | (refine AGet.have' (by assumption) ?_; (try simp only [go_sem]))
    | ((first | refine AGet.nth ?_ (fun b hb => ?_) | refine AGet.nth1 ?_ (fun b hb => ?_) | with_reducible refine And.intro ?_ ?_); (focus (first | omega | assumption | exact List.length_pos_iff.2 (by assumption) | (simp only [List.length_append, List.length_cons, List.length_nil, List.length_map, List.length_take, List.length_drop] at *; omega) | (rw [wrap64_id (by omega) (by omega)]; omega) | (simp; done) | (simp [spare_len]; done) | (exact ⟨by omega, by omega⟩))); (try simp only [hb, go_sem]))
    | (
        refine AWP.here 3 8 4 rfl ?_
        refine AWP.loopN (ι := Nat) [2, 3, 8, 9, 10, 11, 12, 13, 14, 15, 16, 17, 18, 19] (fun (j : Nat) => [(5, i64 j)]) (fun (j : Nat) => j ≤ ls.length ∧ (ls.take j).all riseP = true) (fun (j : Nat) => ls.length - j) (0) ?_ ?_ ?_
        · (try simp only [go_sem]); (repeat' (first | refine And.intro ?_ ?_ | exact .inl rfl | exact .inr rfl | exact .inr ⟨rfl, rfl⟩ | trivial | exact .inr (oblA rfl) | exact .inr ⟨rfl, oblA rfl⟩ | exact .inr bel_strs | exact .inr ⟨rfl, bel_strs⟩ | exact .inr ⟨by simp, bel_strs⟩ | (simp; done) | exact .inr ⟨rfl, by simp⟩ | exact .inr ⟨by simp, by simp⟩)); done
        · exact ⟨by omega, rfl⟩
        rintro j ⟨h1, h2⟩
        simp only [go_sem])
    | (
        refine AWP.here 8 20 4 rfl ?_
        refine AWP.nilPlain 4 5 rfl ?_
        simp only [go_sem]
        refine AWP.loopN (ι := Nat) [7, 20, 21, 22, 23, 24, 25, 26, 27, 28, 29, 30, 31, 32, 33, 34, 35, 36, 37, 38, 39, 40, 41, 42, 43, 44, 45, 46, 47, 48, 49, 50, 51, 52, 53, 54] (fun (i : Nat) => [(6, i64 i), (4, posV (putsF (oneF ls.flatten) ((ls.take i).flatten.map nmP)))]) (fun (i : Nat) => i ≤ ls.length) (fun (i : Nat) => ls.length - i) (0) ?_ ?_ ?_
        · (try simp only [go_sem]); (repeat' (first | refine And.intro ?_ ?_ | exact .inl rfl | exact .inr rfl | exact .inr ⟨rfl, rfl⟩ | trivial | exact .inr (oblA rfl) | exact .inr ⟨rfl, oblA rfl⟩ | exact .inr bel_strs | exact .inr ⟨rfl, bel_strs⟩ | exact .inr ⟨by simp, bel_strs⟩ | (simp; done) | exact .inr ⟨rfl, by simp⟩ | exact .inr ⟨by simp, by simp⟩)); done
        · exact Nat.zero_le _
        rintro i g1
        simp only [go_sem]
        have hall := all_riseEnd (by omega) h2
        have hf0 := flat_len (ls := ls) (i := i))
    | (
        refine AWP.here 11 26 7 rfl ?_
        refine AWP.loopN (ι := Nat) [26, 27, 28, 29, 30, 31, 32, 33, 34, 35, 36, 37, 38, 39, 40, 41, 42, 43, 44, 45, 46, 47, 48, 49, 50, 51, 52, 53, 54] (fun (k : Nat) => [(7, i64 k), (4, posV (putsF (oneF ls.flatten) (((ls.take i).flatten ++ l.take k).map nmP)))]) (fun (k : Nat) => k ≤ l.length) (fun (k : Nat) => l.length - k) (0) ?_ ?_ ?_
        · (try simp only [go_sem]); (try rw [List.take_zero, List.append_nil]); (repeat' (first | refine And.intro ?_ ?_ | exact .inl rfl | exact .inr rfl | exact .inr ⟨rfl, rfl⟩ | trivial | exact .inr (oblA rfl) | exact .inr ⟨rfl, oblA rfl⟩ | exact .inr bel_strs | exact .inr ⟨rfl, bel_strs⟩ | exact .inr ⟨by simp, bel_strs⟩ | (simp; done) | exact .inr ⟨rfl, by simp⟩ | exact .inr ⟨by simp, by simp⟩)); done
        · exact Nat.zero_le _
        rintro k f1
        simp only [go_sem]
        have hpl := puts_len (oneF ls.flatten) (((ls.take i).flatten ++ l.take k).map nmP)
        have hl2 : (((ls.take i).flatten ++ l.take k).map nmP).length ≤ 1000000 := by have := flat_next hz; have h9 := flat_len (ls := ls) (i := i + 1); rw [this, List.length_append] at h9; rw [List.length_map, List.length_append, List.length_take]; omega)
    | (
        refine ⟨j + 1, ?_, ?_, ?_⟩
        · (try simp only [go_sem]); (try rw [wrap64_id (by omega) (by omega)]); (repeat' (first | refine And.intro ?_ ?_ | exact .inl rfl | exact .inr rfl | exact .inr ⟨rfl, rfl⟩ | trivial | exact .inr (oblA rfl) | exact .inr ⟨rfl, oblA rfl⟩ | exact .inr bel_strs | exact .inr ⟨rfl, bel_strs⟩ | exact .inr ⟨by simp, bel_strs⟩ | (simp; done) | exact .inr ⟨rfl, by simp⟩ | exact .inr ⟨by simp, by simp⟩)); done
        · exact ⟨by omega, all_riseNext hx h2 (by assumption)⟩
        · (try simp only []); omega)
    | (
        refine ⟨i + 1, ?_, by show i + 1 ≤ ls.length; omega, by show ls.length - (i + 1) < ls.length - i; omega⟩
        (try rw [flat_next hz]); (try rw [List.take_of_length_le (show l.length ≤ k by omega)]); (try simp only [go_sem]); (try rw [wrap64_id (by omega) (by omega)]); (repeat' (first | refine And.intro ?_ ?_ | exact .inl rfl | exact .inr rfl | exact .inr ⟨rfl, rfl⟩ | trivial | exact .inr (oblA rfl) | exact .inr ⟨rfl, oblA rfl⟩ | exact .inr bel_strs | exact .inr ⟨rfl, bel_strs⟩ | exact .inr ⟨by simp, bel_strs⟩ | (simp; done) | exact .inr ⟨rfl, by simp⟩ | exact .inr ⟨by simp, by simp⟩)); done)
    | (
        refine ⟨k + 1, ?_, ?_, ?_⟩
        · (try simp only [go_sem]); (try rw [wrap64_id (by omega) (by omega)]); (try rw [putk_next hy]); (repeat' (first | refine And.intro ?_ ?_ | exact .inl rfl | exact .inr rfl | exact .inr ⟨rfl, rfl⟩ | trivial | exact .inr (oblA rfl) | exact .inr ⟨rfl, oblA rfl⟩ | exact .inr bel_strs | exact .inr ⟨rfl, bel_strs⟩ | exact .inr ⟨by simp, bel_strs⟩ | (simp; done) | exact .inr ⟨rfl, by simp⟩ | exact .inr ⟨by simp, by simp⟩)); done
        · omega
        · (try simp only []); omega)
    | (
        refine AWP.ret ?_
        refine AEnd.is ?_; simp only [go_sem, out_v, out_s, out_n, v_int, v_bool, v_str] <;> (first | (rw [all_riseNo hx (by assumption)]; first | exact ⟨trivial, rfl⟩ | exact ⟨rfl, rfl⟩ | (simp; done)) | (have hall := all_riseEnd (by omega) h2; rw [List.take_of_length_le (show ls.length ≤ i by omega), merge_puts hall, merge_ok hall]; first | exact ⟨⟨rfl, rfl⟩, rfl⟩ | exact ⟨rfl, rfl⟩ | (simp; done)) | skip))
    | refine AWP.fin (by assumption) ?_
    | fail)


end Go.Proofs.YtajeeghgiilhiaaGreat
end
section
set_option linter.unusedVariables false
set_option linter.unusedSimpArgs false
namespace Go.Proofs.YtajeeghgiilhiaaGreat
open Go Go.Abs Go.RowKit Go.Bk
theorem r11may_t (o : Od) (h : o.opn = true) : ACalls E 139 [odV ⟨o.id, o.acc, o.sym, o.buy, o.qty, o.price, o.done, true⟩] (fun r t => r = bl (mayB o) ∧ t = []) := by
  have e : (⟨o.id, o.acc, o.sym, o.buy, o.qty, o.price, o.done, true⟩ : Od) = o := by cases o; simp_all
  rw [e]; exact r11may_c o
def cB (y : Bool) (w : Ws) : Int := if y then w.1 else w.2
theorem left_is {o : Od} (h1 : o.opn = true) (h2 : mayB o = true) : leftF o = o.qty - o.done := by unfold leftF; simp [h1, h2]
theorem may_amt {o : Od} (h : mayB o = true) : 0 ≤ o.qty ∧ o.qty ≤ 1099511627776 ∧ 0 ≤ o.done ∧ o.done ≤ o.qty := by
  simp only [mayB, smallB, Bool.and_eq_true, decide_eq_true_eq] at h; omega
theorem left_w {o : Od} (h1 : o.opn = true) (h2 : mayB o = true) : IntKind.i64.wrap (o.qty - o.done) = leftF o := by
  have hb := may_amt h2
  rw [wrap64_id (by omega) (by omega), left_is h1 h2]
theorem cB_bnd (y : Bool) {w : Ws} {n : Int} (h : Bnd w n) : -n ≤ cB y w ∧ cB y w ≤ n := by
  unfold Bnd at h; unfold cB; cases y <;> simp <;> omega
section
variable {bk : Bk} {acc sym : Bs} {y : Bool} {i : Nat} {f : Dn} {o : Od} {j : Nat}
theorem one_up (hb : bk.fills[i]? = some f) : cB y (upF bk acc sym (i + 1)) = cB y (upF bk acc sym i) + cB y (fillA (finalF bk f) acc sym f) := by
  rw [upF_next hb]; unfold cB; cases y <;> rfl
theorem cB_no (h : ¬ (f.live = true ∧ f.acc = acc ∧ f.sym = sym)) : cB y (fillA (finalF bk f) acc sym f) = 0 := by
  unfold fillA; rw [if_neg h]; unfold cB; cases y <;> rfl
theorem cB_same (h : f.live = true ∧ f.acc = acc ∧ f.sym = sym) (hy : f.buy = y) : cB y (fillA (finalF bk f) acc sym f) = f.qty := by
  unfold fillA; rw [if_pos h, hy]; unfold cB; cases y <;> rfl
theorem cB_fin (h : f.live = true ∧ f.acc = acc ∧ f.sym = sym) (hy : ¬ f.buy = y) (hf : finalF bk f = true) : cB y (fillA (finalF bk f) acc sym f) = -f.qty := by
  unfold fillA; rw [if_pos h, hf]; unfold cB
  cases hb : f.buy <;> cases y <;> simp_all
theorem cB_nfin (h : f.live = true ∧ f.acc = acc ∧ f.sym = sym) (hy : ¬ f.buy = y) (hf : finalF bk f = false) : cB y (fillA (finalF bk f) acc sym f) = 0 := by
  unfold fillA; rw [if_pos h, hf]; unfold cB
  cases hb : f.buy <;> cases y <;> simp_all
theorem oneO_zero (hi : bk.fills.length ≤ i) : cB y (upF bk acc sym i) = cB y (upO bk acc sym 0) := by
  have e : upF bk acc sym i = upF bk acc sym bk.fills.length := by unfold upF; rw [List.take_of_length_le hi, List.take_length]
  rw [e]; unfold upO cB; cases y <;> simp [sumW]
theorem oneO_up (hc : bk.orders[j]? = some o) : cB y (upO bk acc sym (j + 1)) = cB y (upO bk acc sym j) + cB y (ordA acc sym o) := by
  unfold upO
  rw [take_next hc, List.map_append, sumW_app]
  unfold cB; cases y <;> simp [sumW] <;> omega
theorem oB_no (h : ¬ (o.acc = acc ∧ o.sym = sym ∧ o.buy = y)) : cB y (ordA acc sym o) = 0 := by
  unfold ordA
  split
  · rename_i h2
    have h3 : ¬ o.buy = y := fun e => h ⟨h2.1, h2.2, e⟩
    unfold cB sideW
    cases hb : o.buy <;> cases y <;> simp_all
  · unfold cB; cases y <;> rfl
theorem oB_yes (h1 : o.acc = acc) (h2 : o.sym = sym) (h3 : o.buy = y) : cB y (ordA acc sym o) = leftF o := by
  unfold ordA; rw [if_pos ⟨h1, h2⟩, h3]; unfold cB sideW; cases y <;> rfl
theorem oneO_end (hi : bk.orders.length ≤ j) : cB y (upO bk acc sym j) = cB y (ofE bk acc sym) := by
  unfold upO upF ofE; rw [List.take_of_length_le hi, List.take_length]
end

set_option maxHeartbeats 4000000 in
set_option maxRecDepth 8000 in
theorem r11left_c (o : Od) : ACalls E 140 [odV o] (fun r t => r = i64 (leftF o) ∧ t = []) := by -- checkroll/checkrollref11.Left
  refine ACalls.of_awp (n := 14) (rs := [.tmp 2]) Tryz.func140 rfl Tryz.ntmps140 rfl ?_
  repeat' (first
    | refine AWP.seqk fun K hK => ?_
    | (refine AWP.region ?_; simp only [go_sem])
    | (refine hK _ ?_; clear hK K)
    | refine AWP.block ?_
    | refine AWP.cond rfl (fun c => ?_) (fun c => ?_) <;> first | exact Bool.noConfusion c | (try simp only [dD] at c)
    | refine AWP.skip ?_
    | (refine AWP.exit ?_; simp only [go_sem])
    | (refine ACall.one (r11may_t o (by assumption)) (by kernel_rfl) rfl ?_; simp only [go_sem])
    | (refine ACall.one (r11may_c o) (by kernel_rfl) rfl ?_; simp only [go_sem])
    | (refine AGuard.splitN (fun h => ?_) (fun h => ?_) <;> simp only [h, go_sem] <;> (try simp only [dD] at h))
    | (refine AGuard.split (fun h => ?_) (fun h => ?_) <;> simp only [h, go_sem] <;> (try simp only [dD] at h))
    | (refine AGet.haveM (by assumption) ?_; (try simp only [go_sem]))
    | (refine AGet.have' (by assumption) ?_; (try simp only [go_sem]))
    | ((first | refine AGet.nth ?_ (fun b hb => ?_) | refine AGet.nth1 ?_ (fun b hb => ?_) | with_reducible refine And.intro ?_ ?_); (focus (first | omega | assumption | exact List.length_pos_iff.2 (by assumption) | (simp only [List.length_append, List.length_cons, List.length_nil, List.length_map, List.length_take, List.length_drop] at *; omega) | (rw [wrap64_id (by omega) (by omega)]; omega) | (simp; done) | (simp [spare_len]; done) | (exact ⟨by omega, by omega⟩))); (try simp only [hb, go_sem]))
    | (
        refine AWP.ret ?_
        refine AEnd.is ?_; simp only [go_sem, out_v, out_s, out_n, v_int, v_bool, v_str] <;> (first | (unfold leftF; simp [*]; done) | (have hm : mayB o = true := by assumption; have hop : o.opn = true := by assumption; have hb := may_amt hm; rw [wrap64_id (by omega) (by omega)]; exact (left_is hop hm).symm) | exact left_w (by assumption) (by assumption) | (refine left_w ?_ ?_ <;> simp_all; done) | skip))
    | refine AWP.fin (by assumption) ?_
    | fail)

set_option maxHeartbeats 4000000 in
set_option maxRecDepth 8000 in
theorem r16final_c (bk : Bk) (f : Dn) (h1 : 0 ≤ f.time) (h2 : f.time ≤ bk.clock) (h3 : bk.clock ≤ 4611686018427387904) : ACalls E 58 [bkV bk, dnV f] (fun r t => r = bl (finalF bk f) ∧ t = []) := by -- checkroll/checkrollref16.Final
  refine ACalls.of_awp (n := 21) (rs := [.tmp 4]) Tryz.func58 rfl Tryz.ntmps58 rfl ?_
  repeat' (first
    | refine AWP.seqk fun K hK => ?_
    | (refine AWP.region ?_; simp only [go_sem])
    | (refine hK _ ?_; clear hK K)
    | refine AWP.block ?_
    | refine AWP.cond rfl (fun c => ?_) (fun c => ?_) <;> first | exact Bool.noConfusion c | (try simp only [dD] at c)
    | refine AWP.skip ?_
    | (refine AWP.exit ?_; simp only [go_sem])
    | (refine AGuard.splitN (fun h => ?_) (fun h => ?_) <;> simp only [h, go_sem] <;> (try simp only [dD] at h))
    | (refine AGuard.split (fun h => ?_) (fun h => ?_) <;> simp only [h, go_sem] <;> (try simp only [dD] at h))
    | (refine AGet.haveM (by assumption) ?_; (try simp only [go_sem]))
    | (refine AGet.have' (by assumption) ?_; (try simp only [go_sem]))
    | ((first | refine AGet.nth ?_ (fun b hb => ?_) | refine AGet.nth1 ?_ (fun b hb => ?_) | with_reducible refine And.intro ?_ ?_); (focus (first | omega | assumption | exact List.length_pos_iff.2 (by assumption) | (simp only [List.length_append, List.length_cons, List.length_nil, List.length_map, List.length_take, List.length_drop] at *; omega) | (rw [wrap64_id (by omega) (by omega)]; omega) | (simp; done) | (simp [spare_len]; done) | (exact ⟨by omega, by omega⟩))); (try simp only [hb, go_sem]))
    | (
        refine AWP.ret ?_
        refine AEnd.is ?_; simp only [go_sem, out_v, out_s, out_n, v_int, v_bool, v_str] <;> (first | (rw [final_old h1 h2 h3, wrap64_id (by omega) (by omega)]; exact decide_eq_decide.2 (by omega)) | (exfalso; omega) | skip))
    | refine AWP.fin (by assumption) ?_
    | fail)

theorem r16final_t {g : Dn} (bk : Bk) (f : Dn) (h : g.time = f.time) (h1 : 0 ≤ f.time) (h2 : f.time ≤ bk.clock) (h3 : bk.clock ≤ 4611686018427387904) : ACalls E 58 [bkV bk, dnV g] (fun r t => r = bl (finalF bk f) ∧ t = []) := by
  have e : finalF bk f = finalF bk g := by unfold finalF; rw [h]
  rw [e]; exact r16final_c bk g (by omega) (by omega) h3

set_option maxHeartbeats 16000000 in
set_option maxRecDepth 8000 in
theorem r16one_c (bk : Bk) (acc sym : Bs) (y : Bool) (hr : rightBk bk = true) : ACalls E 71 [bkV bk, str acc, str sym, bl y] (fun r t => r = i64 (cB y (ofE bk acc sym)) ∧ t = []) := by -- checkroll/checkrollref16.One
  have h256 := right_lens2 hr
  have hcl := right_clock hr
  refine ACalls.of_awp (n := 89) (rs := [.tmp 8]) Tryz.func71 rfl Tryz.ntmps71 rfl ?_
  repeat' (first
    | refine AWP.seqk fun K hK => ?_
    | (
        refine AWP.here 5 21 7 rfl ?_
        obtain ⟨f, hb⟩ : ∃ f, bk.fills[i]? = some f := ⟨_, List.getElem?_eq_getElem (by omega)⟩
        have hfa := right_amounts hr f (List.mem_of_getElem? hb)
        refine AWP.region ?_; simp only [go_sem])
    | (
        refine AWP.here 14 63 7 rfl ?_
        obtain ⟨o, hc⟩ : ∃ o, bk.orders[j]? = some o := ⟨_, List.getElem?_eq_getElem (by omega)⟩
        refine AWP.region ?_; simp only [go_sem])
    | (refine AWP.region ?_; simp only [go_sem])
    | (refine hK _ ?_; clear hK K)
    | refine AWP.block ?_
    | refine AWP.cond rfl (fun c => ?_) (fun c => ?_) <;> first | exact Bool.noConfusion c | (try simp only [dD] at c)
    | refine AWP.skip ?_
    | (refine AWP.exit ?_; simp only [go_sem])
    | (refine ACall.one (r16final_t (g := ⟨f.id, f.ord, f.acc, f.sym, f.buy, f.qty, f.price, f.time, true⟩) bk f rfl hfa.2.2.1 hfa.2.2.2 hcl.2) (by kernel_rfl) rfl ?_; simp only [go_sem])
    | (refine ACall.one (r16final_t (g := ⟨f.id, f.ord, f.acc, sym, f.buy, f.qty, f.price, f.time, true⟩) bk f rfl hfa.2.2.1 hfa.2.2.2 hcl.2) (by kernel_rfl) rfl ?_; simp only [go_sem])
    | (refine ACall.one (r16final_t (g := ⟨f.id, f.ord, acc, f.sym, f.buy, f.qty, f.price, f.time, true⟩) bk f rfl hfa.2.2.1 hfa.2.2.2 hcl.2) (by kernel_rfl) rfl ?_; simp only [go_sem])
    | (refine ACall.one (r16final_t (g := ⟨f.id, f.ord, acc, sym, f.buy, f.qty, f.price, f.time, true⟩) bk f rfl hfa.2.2.1 hfa.2.2.2 hcl.2) (by kernel_rfl) rfl ?_; simp only [go_sem])
    | (refine ACall.one (r16final_t (g := ⟨f.id, f.ord, f.acc, f.sym, f.buy, f.qty, f.price, f.time, f.live⟩) bk f rfl hfa.2.2.1 hfa.2.2.2 hcl.2) (by kernel_rfl) rfl ?_; simp only [go_sem])
    | (refine ACall.one (r16final_t (g := ⟨f.id, f.ord, f.acc, sym, f.buy, f.qty, f.price, f.time, f.live⟩) bk f rfl hfa.2.2.1 hfa.2.2.2 hcl.2) (by kernel_rfl) rfl ?_; simp only [go_sem])
    | (refine ACall.one (r16final_t (g := ⟨f.id, f.ord, acc, f.sym, f.buy, f.qty, f.price, f.time, f.live⟩) bk f rfl hfa.2.2.1 hfa.2.2.2 hcl.2) (by kernel_rfl) rfl ?_; simp only [go_sem])
    | (refine ACall.one (r16final_t (g := ⟨f.id, f.ord, acc, sym, f.buy, f.qty, f.price, f.time, f.live⟩) bk f rfl hfa.2.2.1 hfa.2.2.2 hcl.2) (by kernel_rfl) rfl ?_; simp only [go_sem])
    | (refine ACall.one (r11left_c o) (by kernel_rfl) rfl ?_; simp only [go_sem])
    | (refine AGuard.splitN (fun h => ?_) (fun h => ?_) <;> simp only [h, go_sem] <;> (try simp only [dD] at h))
    | (refine AGuard.split (fun h => ?_) (fun h => ?_) <;> simp only [h, go_sem] <;> (try simp only [dD] at h))
    | (refine AGet.haveM (by assumption) ?_; (try simp only [go_sem]))
    | (refine AGet.have' (by assumption) ?_; (try simp only [go_sem]))
    | ((first | refine AGet.nth ?_ (fun b hb => ?_) | refine AGet.nth1 ?_ (fun b hb => ?_) | with_reducible refine And.intro ?_ ?_); (focus (first | omega | assumption | exact List.length_pos_iff.2 (by assumption) | (simp only [List.length_append, List.length_cons, List.length_nil, List.length_map, List.length_take, List.length_drop] at *; omega) | (rw [wrap64_id (by omega) (by omega)]; omega) | (simp; done) | (simp [spare_len]; done) | (exact ⟨by omega, by omega⟩))); (try simp only [hb, go_sem]))
    | (
        refine AWP.here 3 14 5 rfl ?_
        refine AWP.loopM (ι := Nat × Int) [11, 14, 15, 16, 17, 18, 19, 20, 21, 22, 23, 24, 25, 26, 27, 28, 29, 30, 31, 32, 33, 34, 35, 36, 37, 38, 39, 40, 41, 42, 43, 44, 45, 46, 47, 48, 49, 50, 51, 52, 53, 54, 55] (fun ⟨i, n⟩ => [(10, i64 i), (9, i64 n)]) (fun ⟨i, n⟩ => [some [.agg [odsV bk.orders, dnsV bk.fills, .sl none 1 (bk.ids.map str), i64 bk.clock, i64 bk.bad]]]) (fun ⟨i, n⟩ => []) (fun ⟨i, n⟩ => i ≤ bk.fills.length ∧ n = cB y (upF bk acc sym i)) (fun ⟨i, n⟩ => bk.fills.length - i) ((0, 0)) ?_ ?_ ?_
        · (try simp only [go_sem]); (repeat' (first | refine And.intro ?_ ?_ | exact .inl rfl | exact .inr rfl | exact .inr ⟨rfl, rfl⟩ | trivial | exact .inr (oblA rfl) | exact .inr ⟨rfl, oblA rfl⟩ | exact .inr bel_strs | exact .inr ⟨rfl, bel_strs⟩ | exact .inr ⟨by simp, bel_strs⟩ | (simp; done) | exact .inr ⟨rfl, by simp⟩ | exact .inr ⟨by simp, by simp⟩)); done
        · exact ⟨Nat.zero_le _, by cases y <;> rfl⟩
        rintro ⟨i, n⟩ ⟨h1, h2⟩
        simp only [go_sem]
        have hnb := cB_bnd y (upF_bnd (acc := acc) (sym := sym) (i := i) hr))
    | (
        refine AWP.here 12 56 5 rfl ?_
        refine AWP.loopM (ι := Nat × Int) [13, 56, 57, 58, 59, 60, 61, 62, 63, 64, 65, 66, 67, 68, 69, 70, 71, 72, 73, 74, 75, 76, 77, 78, 79, 80, 81, 82, 83, 84, 85, 86, 87] (fun ⟨j, u⟩ => [(12, i64 j), (9, i64 u)]) (fun ⟨j, u⟩ => [some [.agg [odsV bk.orders, dnsV bk.fills, .sl none 1 (bk.ids.map str), i64 bk.clock, i64 bk.bad]]]) (fun ⟨j, u⟩ => []) (fun ⟨j, u⟩ => j ≤ bk.orders.length ∧ u = cB y (upO bk acc sym j)) (fun ⟨j, u⟩ => bk.orders.length - j) ((0, n)) ?_ ?_ ?_
        · (try simp only [go_sem]); (repeat' (first | refine And.intro ?_ ?_ | exact .inl rfl | exact .inr rfl | exact .inr ⟨rfl, rfl⟩ | trivial | exact .inr (oblA rfl) | exact .inr ⟨rfl, oblA rfl⟩ | exact .inr bel_strs | exact .inr ⟨rfl, bel_strs⟩ | exact .inr ⟨by simp, bel_strs⟩ | (simp; done) | exact .inr ⟨rfl, by simp⟩ | exact .inr ⟨by simp, by simp⟩)); done
        · exact ⟨Nat.zero_le _, by rw [h2]; exact oneO_zero (by omega)⟩
        rintro ⟨j, u⟩ ⟨g1, g2⟩
        simp only [go_sem]
        have hnb2 := cB_bnd y (upO_bnd (acc := acc) (sym := sym) (i := j) hr))
    | (
        first
        | (refine ⟨(i + 1, n), ?_, ⟨by show i + 1 ≤ bk.fills.length; omega, by show n = _; rw [one_up hb, cB_no (by first | exact nof1 (by assumption) | exact nof2 (by assumption) | exact nof3 (by assumption)), h2]; omega⟩, by show bk.fills.length - (i + 1) < bk.fills.length - i; omega⟩
           rw [← h2] at hnb; (try simp only [go_sem]); (repeat rw [wrap64_id (by omega) (by omega)]); (repeat' (first | refine And.intro ?_ ?_ | exact .inl rfl | exact .inr rfl | exact .inr ⟨rfl, rfl⟩ | trivial | exact .inr (oblA rfl) | exact .inr ⟨rfl, oblA rfl⟩ | exact .inr bel_strs | exact .inr ⟨rfl, bel_strs⟩ | exact .inr ⟨by simp, bel_strs⟩ | (simp; done) | exact .inr ⟨rfl, by simp⟩ | exact .inr ⟨by simp, by simp⟩)); done)
        | (refine ⟨(i + 1, n + f.qty), ?_, ⟨by show i + 1 ≤ bk.fills.length; omega, by show n + f.qty = _; rw [one_up hb, cB_same ⟨by assumption, by assumption, by assumption⟩ (by assumption), h2]⟩, by show bk.fills.length - (i + 1) < bk.fills.length - i; omega⟩
           rw [← h2] at hnb; (try simp only [go_sem]); (repeat rw [wrap64_id (by omega) (by omega)]); (repeat' (first | refine And.intro ?_ ?_ | exact .inl rfl | exact .inr rfl | exact .inr ⟨rfl, rfl⟩ | trivial | exact .inr (oblA rfl) | exact .inr ⟨rfl, oblA rfl⟩ | exact .inr bel_strs | exact .inr ⟨rfl, bel_strs⟩ | exact .inr ⟨by simp, bel_strs⟩ | (simp; done) | exact .inr ⟨rfl, by simp⟩ | exact .inr ⟨by simp, by simp⟩)); done)
        | (refine ⟨(i + 1, n - f.qty), ?_, ⟨by show i + 1 ≤ bk.fills.length; omega, by show n - f.qty = _; rw [one_up hb, cB_fin ⟨by assumption, by assumption, by assumption⟩ (by assumption) (by assumption), h2]; omega⟩, by show bk.fills.length - (i + 1) < bk.fills.length - i; omega⟩
           rw [← h2] at hnb; (try simp only [go_sem]); (repeat rw [wrap64_id (by omega) (by omega)]); (repeat' (first | refine And.intro ?_ ?_ | exact .inl rfl | exact .inr rfl | exact .inr ⟨rfl, rfl⟩ | trivial | exact .inr (oblA rfl) | exact .inr ⟨rfl, oblA rfl⟩ | exact .inr bel_strs | exact .inr ⟨rfl, bel_strs⟩ | exact .inr ⟨by simp, bel_strs⟩ | (simp; done) | exact .inr ⟨rfl, by simp⟩ | exact .inr ⟨by simp, by simp⟩)); done)
        | (refine ⟨(i + 1, n), ?_, ⟨by show i + 1 ≤ bk.fills.length; omega, by show n = _; rw [one_up hb, cB_nfin ⟨by assumption, by assumption, by assumption⟩ (by assumption) (by assumption), h2]; omega⟩, by show bk.fills.length - (i + 1) < bk.fills.length - i; omega⟩
           rw [← h2] at hnb; (try simp only [go_sem]); (repeat rw [wrap64_id (by omega) (by omega)]); (repeat' (first | refine And.intro ?_ ?_ | exact .inl rfl | exact .inr rfl | exact .inr ⟨rfl, rfl⟩ | trivial | exact .inr (oblA rfl) | exact .inr ⟨rfl, oblA rfl⟩ | exact .inr bel_strs | exact .inr ⟨rfl, bel_strs⟩ | exact .inr ⟨by simp, bel_strs⟩ | (simp; done) | exact .inr ⟨rfl, by simp⟩ | exact .inr ⟨by simp, by simp⟩)); done))
    | (
        first
        | (refine ⟨(j + 1, u), ?_, ⟨by show j + 1 ≤ bk.orders.length; omega, by show u = _; rw [oneO_up hc, oB_no (by (try clear hK); simp_all), g2]; omega⟩, by show bk.orders.length - (j + 1) < bk.orders.length - j; omega⟩
           rw [← g2] at hnb2; have hlb := left_bnd o; (try simp only [go_sem]); (repeat rw [wrap64_id (by omega) (by omega)]); (repeat' (first | refine And.intro ?_ ?_ | exact .inl rfl | exact .inr rfl | exact .inr ⟨rfl, rfl⟩ | trivial | exact .inr (oblA rfl) | exact .inr ⟨rfl, oblA rfl⟩ | exact .inr bel_strs | exact .inr ⟨rfl, bel_strs⟩ | exact .inr ⟨by simp, bel_strs⟩ | (simp; done) | exact .inr ⟨rfl, by simp⟩ | exact .inr ⟨by simp, by simp⟩)); done)
        | (refine ⟨(j + 1, u + leftF o), ?_, ⟨by show j + 1 ≤ bk.orders.length; omega, by show u + leftF o = _; rw [oneO_up hc, oB_yes (by assumption) (by assumption) (by assumption), g2]⟩, by show bk.orders.length - (j + 1) < bk.orders.length - j; omega⟩
           rw [← g2] at hnb2; have hlb := left_bnd o; (try simp only [go_sem]); (repeat rw [wrap64_id (by omega) (by omega)]); (repeat' (first | refine And.intro ?_ ?_ | exact .inl rfl | exact .inr rfl | exact .inr ⟨rfl, rfl⟩ | trivial | exact .inr (oblA rfl) | exact .inr ⟨rfl, oblA rfl⟩ | exact .inr bel_strs | exact .inr ⟨rfl, bel_strs⟩ | exact .inr ⟨by simp, bel_strs⟩ | (simp; done) | exact .inr ⟨rfl, by simp⟩ | exact .inr ⟨by simp, by simp⟩)); done))
    | (
        refine AWP.ret ?_
        refine AEnd.is ?_; simp only [go_sem, out_v, out_s, out_n, v_int, v_bool, v_str] <;> (first | (rw [g2, oneO_end (by omega)]; done) | (rw [g2, oneO_end (by omega)]; rfl) | skip))
    | refine AWP.fin (by assumption) ?_
    | fail)

set_option maxHeartbeats 4000000 in
set_option maxRecDepth 8000 in
theorem r16of_c (bk : Bk) (acc sym : Bs) (ho : bk.orders.length ≤ 1000000) (hf : bk.fills.length ≤ 1000000) (hi : bk.ids.length ≤ 1000000) : ACalls E 22 [bkV bk, str acc, str sym] (fun r t => r = wV (ofF bk acc sym) ∧ t = []) := by -- checkroll/checkrollref16.Of
  refine ACalls.of_awp (n := 20) (rs := [.cell 6 45]) Tryz.func22 rfl Tryz.ntmps22 rfl ?_
  repeat' (first
    | refine AWP.seqk fun K hK => ?_
    | (refine AWP.region ?_; simp only [go_sem])
    | (refine AWP.here 3 11 10 rfl ?_; refine AWP.regionO [0, 1, 2, 4, 5, 6, 3, 7, 8, 9] [] (by kernel_rfl) (by kernel_rfl) rfl ?_; simp only [go_sem])
    | (refine hK _ ?_; clear hK K)
    | refine AWP.block ?_
    | refine AWP.cond rfl (fun c => ?_) (fun c => ?_) <;> first | exact Bool.noConfusion c | (try simp only [dD] at c)
    | refine AWP.skip ?_
    | (refine AWP.exit ?_; simp only [go_sem])
    | (refine ACall.one (r12right_c bk (by omega) (by omega) (by omega)) (by kernel_rfl) rfl ?_; simp only [go_sem])
    | (refine ACall.one (r16one_c bk acc sym true (by assumption)) (by kernel_rfl) rfl ?_; simp only [go_sem])
    | (refine ACall.one (r16one_c bk acc sym false (by assumption)) (by kernel_rfl) rfl ?_; simp only [go_sem])
    | (refine AGet.haveM (by assumption) ?_; (try simp only [go_sem]))
    | (refine AGet.have' (by assumption) ?_; (try simp only [go_sem]))
    | ((first | refine AGet.nth ?_ (fun b hb => ?_) | refine AGet.nth1 ?_ (fun b hb => ?_) | with_reducible refine And.intro ?_ ?_); (focus (first | omega | assumption | exact List.length_pos_iff.2 (by assumption) | (simp only [List.length_append, List.length_cons, List.length_nil, List.length_map, List.length_take, List.length_drop] at *; omega) | (rw [wrap64_id (by omega) (by omega)]; omega) | (simp; done) | (simp [spare_len]; done) | (exact ⟨by omega, by omega⟩))); (try simp only [hb, go_sem]))
    | (
        refine AWP.ret ?_
        refine AEnd.is ?_; simp only [go_sem, out_v, out_s, out_n, v_int, v_bool, v_str] <;> (first | (rw [of_no (by assumption)]; done) | (rw [of_no (by assumption)]; simp; done) | (unfold ofF; rw [if_pos (by assumption)]; first | done | exact ⟨rfl, rfl⟩ | (simp [cB]; done)) | skip))
    | refine AWP.fin (by assumption) ?_
    | fail)


end Go.Proofs.YtajeeghgiilhiaaGreat
end
section
/-
  DERIVED: THE SHELF's CONTRACTS AT THIS DUMP, IN PLAIN WORDS (tools/lay-plain.mjs out of 'TrySortF.lean', which tools/lay-shelf.mjs wrote): THE SAME DECLARATIONS UNDER THE SAME NAMES: 'import', 'namespace', 'open', 'def', 'theorem' AND NOTHING ELSE: no command of the shelf's: FOR A HAND-IN. Each laying: the table of numbers ('.._ren') and one theorem, a field a fact of the dump's own or the kernel's comparison; each contract: ONE APPLICATION.
-/
namespace Go.Proofs
open Go.Shelf
def Tryz.sortf129_ren : Go.Shelf.Ren := ⟨fun | 6 => 129 | 15 => 169 | 14 => 182 | 28 => 205 | 29 => 206 | 20 => 217 | 21 => 218 | 22 => 219 | 23 => 220 | 24 => 221 | 25 => 222 | 26 => 223 | 27 => 224 | 46 => 249 | 47 => 229 | 48 => 230 | 49 => 250 | 50 => 251 | 57 => 258 | n => n, fun | 22 => 174 | 24 => 176 | 25 => 180 | 3 => 3 | 39 => 205 | 0 => 0 | 53 => 53 | 55 => 201 | 4 => 4 | 46 => 226 | 45 => 225 | 50 => 148 | 5 => 5 | 9 => 9 | 66 => 243 | 70 => 247 | 76 => 263 | 77 => 264 | n => n, fun | n => n⟩
theorem Tryz.sortf129 : Go.Proofs.SlLaysF0.n6 Tryz.prog Tryz.sortf129_ren := {
  mixed := by kernel_rfl
  f6 := ⟨Tryz.f129.name, by decide, Tryz.func129.trans (congrArg some (by kernel_rfl))⟩
  f14 := ⟨Tryz.f182.name, by decide, Tryz.func182.trans (congrArg some (by kernel_rfl))⟩
  f15 := Tryz.func169.trans (congrArg some (by kernel_rfl))
  f20 := ⟨Tryz.f217.name, by decide, Tryz.func217.trans (congrArg some (by kernel_rfl))⟩
  f21 := ⟨Tryz.f218.name, by decide, Tryz.func218.trans (congrArg some (by kernel_rfl))⟩
  f22 := ⟨Tryz.f219.name, by decide, Tryz.func219.trans (congrArg some (by kernel_rfl))⟩
  f23 := ⟨Tryz.f220.name, by decide, Tryz.func220.trans (congrArg some (by kernel_rfl))⟩
  f24 := ⟨Tryz.f221.name, by decide, Tryz.func221.trans (congrArg some (by kernel_rfl))⟩
  f25 := ⟨Tryz.f222.name, by decide, Tryz.func222.trans (congrArg some (by kernel_rfl))⟩
  f26 := ⟨Tryz.f223.name, by decide, Tryz.func223.trans (congrArg some (by kernel_rfl))⟩
  f27 := ⟨Tryz.f224.name, by decide, Tryz.func224.trans (congrArg some (by kernel_rfl))⟩
  f28 := Tryz.func205.trans (congrArg some (by kernel_rfl))
  f29 := Tryz.func206.trans (congrArg some (by kernel_rfl))
  f46 := ⟨Tryz.f249.name, by decide, Tryz.func249.trans (congrArg some (by kernel_rfl))⟩
  f47 := Tryz.func229.trans (congrArg some (by kernel_rfl))
  f48 := Tryz.func230.trans (congrArg some (by kernel_rfl))
  f49 := ⟨Tryz.f250.name, by decide, Tryz.func250.trans (congrArg some (by kernel_rfl))⟩
  f50 := ⟨Tryz.f251.name, by decide, Tryz.func251.trans (congrArg some (by kernel_rfl))⟩
  f57 := ⟨Tryz.f258.name, by decide, Tryz.func258.trans (congrArg some (by kernel_rfl))⟩
  t0 := Tryz.underlying0
  a0 := Tryz.isAgg0
  z0 := Tryz.sizeOf0
  v0 := Tryz.zeroValue0
  t3 := Tryz.underlying3
  a3 := Tryz.isAgg3
  z3 := Tryz.sizeOf3
  v3 := Tryz.zeroValue3
  t4 := Tryz.underlying4
  a4 := Tryz.isAgg4
  z4 := Tryz.sizeOf4
  v4 := Tryz.zeroValue4
  t5 := Tryz.underlying5
  a5 := Tryz.isAgg5
  z5 := Tryz.sizeOf5
  v5 := Tryz.zeroValue5
  t9 := Tryz.underlying9
  a9 := Tryz.isAgg9
  z9 := Tryz.sizeOf9
  v9 := Tryz.zeroValue9
  t22 := Tryz.underlying174
  a22 := Tryz.isAgg174
  z22 := Tryz.sizeOf174
  v22 := Tryz.zeroValue174
  t25 := Tryz.underlying180
  a25 := Tryz.isAgg180
  z25 := Tryz.sizeOf180
  v25 := Tryz.zeroValue180
  t39 := Tryz.underlying205
  a39 := Tryz.isAgg205
  z39 := Tryz.sizeOf205
  v39 := Tryz.zeroValue205
  t45 := Tryz.underlying225
  a45 := Tryz.isAgg225
  z45 := Tryz.sizeOf225
  v45 := Tryz.zeroValue225
  t46 := Tryz.underlying226
  a46 := Tryz.isAgg226
  z46 := Tryz.sizeOf226
  v46 := Tryz.zeroValue226
  t50 := Tryz.underlying148
  a50 := Tryz.isAgg148
  z50 := Tryz.sizeOf148
  v50 := Tryz.zeroValue148
  t53 := Tryz.underlying53
  a53 := Tryz.isAgg53
  z53 := Tryz.sizeOf53
  v53 := Tryz.zeroValue53
  t55 := Tryz.underlying201
  a55 := Tryz.isAgg201
  z55 := Tryz.sizeOf201
  v55 := Tryz.zeroValue201
  t66 := Tryz.underlying243
  a66 := Tryz.isAgg243
  z66 := Tryz.sizeOf243
  v66 := Tryz.zeroValue243
  t70 := Tryz.underlying247
  a70 := Tryz.isAgg247
  z70 := Tryz.sizeOf247
  v70 := Tryz.zeroValue247
  t76 := Tryz.underlying263
  a76 := Tryz.isAgg263
  z76 := Tryz.sizeOf263
  v76 := Tryz.zeroValue263
  t77 := Tryz.underlying264
  a77 := Tryz.isAgg264
  z77 := Tryz.sizeOf264
  v77 := Tryz.zeroValue264 }
end Go.Proofs
end
section
/- A row of one's own is sorted in place, at elements of k cells. -/
set_option linter.unusedVariables false
set_option linter.unusedSimpArgs false
namespace Go.Abs
open Go Go.RowKit Go.Sort Go.Proofs Go.Maps
theorem heap_putK {w : World} {g n : Nat} {os : Array Obj} {d : Array Value} {cur : Array Value} {e : TypeId} {fz : Nat × Nat} (hb : w.heap[g]? = some (.cells cur e fz)) :
    (grow (putRow id (Sort.ahead w n) g 0 d) os).heap[g]? = some (.cells (putCells id 0 d cur) e fz) := by
  have hlt := (Array.getElem?_eq_some_iff.1 hb).1
  rw [heap_grow_old _ _ (by simpa using hlt)]
  simp [putRow, mapBlock, Sort.ahead, Array.getElem?_modify, hb, onCells]
theorem grownBy_putK {w : World} {n g : Nat} {os : Array Obj} (d : Array Value) : w.grownBy (grow (putRow id (Sort.ahead w n) g 0 d) os) (some g) :=
  ⟨rfl, rfl, rfl, by simp [grow, putRow, mapBlock, Sort.ahead], fun k hk hne => by
    rw [heap_grow_old _ _ (by simpa [putRow, mapBlock, Sort.ahead] using hk)]
    have : g ≠ k := fun e => hne (by rw [e])
    simp [putRow, mapBlock, Sort.ahead, Array.getElem?_modify, this]⟩
theorem AWPL.sortK {E : Env} {Q : Exit → St → Prop} {st : St} {ops : Array Oper} {rest : List Oper} {g gc : FuncId} {dst : Option Tmp} {f x y : Operand} {tys : Array TypeId} {ty : TypeId} {pos : String} {after : Array Edge}
    {α : Type} [Inhabited α] (enc : α → List Value) (k : Nat) (fV : α → AV) (hk0 : 0 < k) (hk : ∀ z, (enc z).length = k) (hf : ∀ z, (fV z).leaves = (enc z).map AV.v) (h1c : ∀ z, ∀ v ∈ enc z, v.oneCell' = true)
    (hc : callable E.P g = true) (he : st.ev f = .fn g []) (hy : st.ev y = .fn gc [])
    (F : List α → List α) (hF : ∀ l, (F l).length = l.length)
    (hsort : ∀ (blk cap : Nat) (l : List α) (w : World), HoldsK enc k w blk 0 l.toArray → blk < w.heap.size → l.length < 4611686018427387904 →
      Calls E.P g #[.slice (some ⟨blk, 0, none⟩) l.length cap, .func (.func gc) #[] #[]] w fun e w' => e = .returned (.tuple #[]) ∧ ∃ n os, w' = grow (putRowK enc k (Sort.ahead w n) blk 0 (F l).toArray) os)
    (hnone : ∀ (p : Option Addr) (cap : Nat) (w : World), Calls E.P g #[.slice p 0 cap, .func (.func gc) #[] #[]] w fun e w' => e = .returned (.tuple #[]) ∧ w' = w)
    {id cap : Nat} {l : List α} {sp : List AV} (hx : st.ev x = .mu id k 0 l.length cap) (ho : st.own[id]? = some (some (l.map fV ++ sp))) (hsz : l.length ≤ 1000000)
    (h : AWPL E ops rest Q (St.put { st with own := st.own.set id (some ((F l).map fV ++ sp)) } dst (.tup []))) :
    AWPL E ops (⟨dst, .call ⟨.value f, #[x, y], tys⟩, ty, pos, after, none⟩ :: rest) Q st := by
  refine AWPL.callRaw hc he fun w0 im0 cx a w vs h0 hG r hpw => ?_
  obtain ⟨hn, hp⟩ := hpw
  obtain ⟨v, u, rfl⟩ : ∃ v u, vs = [v, u] := by
    match vs, hn with
    | [v, u], _ => exact ⟨v, u, rfl⟩
  have hv : VR cx (.mu id k 0 l.length cap) v := by
    have := hp 0 _ v rfl rfl
    rwa [← hx]
  have hu : u = .func (.func gc) #[] #[] := by
    have := hp 1 _ u rfl rfl
    rw [hy] at this
    obtain ⟨us, rfl, hnu, _⟩ := this.inv_fn
    have : us = [] := List.eq_nil_of_length_eq_zero (by simpa using hnu)
    rw [this]
  subst hu
  have hF0 : F [] = [] := List.eq_nil_of_length_eq_zero (hF [])
  have same : l = [] → { st with own := st.own.set id (some ((F l).map fV ++ sp)) } = st := fun e => by
    subst e
    have e1 : st.own.set id (some ((F []).map fV ++ sp)) = st.own := by
      apply List.ext_getElem?
      intro j
      rw [List.getElem?_set]
      split
      · rename_i hj; subst hj
        rw [if_pos (lt_of_get ho), ho]; simp [hF0]
      · rfl
    rw [e1]
  rcases hv.inv_mu with ⟨b, hb, hcap, rfl⟩ | ⟨hl, rfl, rfl⟩
  · rcases Nat.eq_zero_or_pos l.length with hz | hz
    · have hl : l = [] := List.eq_nil_of_length_eq_zero hz
      subst hl
      refine (hnone _ cap w).mono ?_
      rintro e w' ⟨rfl, rfl⟩
      exact ⟨_, rfl, cx, st, .tup [], r, .tup [] [] rfl (by simp), by rw [same rfl] at h; exact h⟩
    · have hOK := r.own id b k _ hb ho
      obtain ⟨cs, te, lo, hi, hblk, hfr, hsize, hlv, hcell⟩ := hOK.blk
      have hdiv : ∀ {n t : Nat}, t < n * k → t / k < n := fun {n t} h => Nat.div_lt_of_lt_mul (by rw [Nat.mul_comm]; exact h)
      have hleaf : ∀ (m : List α) (i j : Nat), i < m.length → j < k → (fV m[i]!).leaves[j]? = some (.v (enc m[i]!)[j]!) := fun m i j hi hj => by
        rw [hf, List.getElem?_map, List.getElem?_eq_getElem (by rw [hk]; exact hj), getElem!_pos (enc m[i]!) j (by rw [hk]; exact hj)]; rfl
      have hget : ∀ t, t < l.length * k → cs[t]? = some (flatK enc k l.toArray)[t]! := fun t ht => by
        have hi := hdiv ht
        have hj := Nat.mod_lt t hk0
        have e1 : (l.map fV ++ sp)[t / k]? = some (fV l[t / k]!) := by
          rw [List.getElem?_append_left (by simpa using hi)]
          simp [hi]
        obtain ⟨v, hv, hvr, _⟩ := hcell (t / k) _ (t % k) _ e1 (hleaf l _ _ hi hj)
        rw [hvr.inv_v] at hv
        rw [show t / k * k + t % k = t by rw [Nat.mul_comm]; exact Nat.div_add_mod t k] at hv
        rw [hv, get_flatK _ _ _ t (by simpa using ht)]
        simp
      have hH : HoldsK enc k w b 0 l.toArray := fun t ht => by
        have ht' : t < l.length * k := by simpa using ht
        have e2 := hget t ht'
        have hlt : t < cs.size := (Array.getElem?_eq_some_iff.1 e2).1
        constructor
        · simp only [World.cell?, hblk, Nat.zero_add, e2]
          try simp
        · simp only [World.frozen?, hblk, Nat.zero_add]
          rcases hfr with rfl | hfr
          · first | (simp; done) | (simp; omega)
          · first | (simp; done) | (simp; omega)
      have hbs : b < w.heap.size := r.own_lt hb ho
      rw [Nat.zero_mul]
      refine (hsort b cap l w hH hbs (by omega)).mono ?_
      rintro e w' ⟨rfl, n, os, rfl⟩
      refine ⟨_, rfl, cx, { st with own := st.own.set id (some ((F l).map fV ++ sp)) }, .tup [], ?_, .tup [] [] rfl (by simp), h⟩
      obtain ⟨G, hG'⟩ : ∃ G, flatK enc k (F l).toArray = G := ⟨_, rfl⟩
      have hGs : G.size = l.length * k := by rw [← hG', size_flatK]; simp [hF]
      have hGg : ∀ t, t < l.length * k → G[t]! = (enc (F l)[t / k]!)[t % k]! := fun t ht => by
        rw [← hG', get_flatK _ _ _ t (by simpa [hF] using ht)]
        simp
      unfold putRowK
      rw [hG']
      obtain ⟨w1, hw1⟩ : ∃ w1, putRow _root_.id (Sort.ahead w n) b 0 G = w1 := ⟨_, rfl⟩
      have hw1' : grow w1 #[] = w1 := grow_empty w1
      have hsz1 : w1.heap.size = w.heap.size := by rw [← hw1]; simp [putRow, mapBlock, Sort.ahead]
      have r1 : Rel w0 im0 cx { st with own := st.own.set id (some ((F l).map fV ++ sp)) } a w1 := by
        refine r.setOwn hb ho (fun d hd => ?_) ?_ ?_
        · rw [← hw1]
          simp [putRow, mapBlock, Sort.ahead, Array.getElem?_modify, Ne.symm hd]
        · rw [← hw1', ← hw1]
          exact r.below.grown (grownBy_putK G) r.below.size (fun j hj => by cases hj; exact hOK.new) (Nat.le_add_right _ _)
        · refine ⟨_, te, lo, hi, (by rw [← hw1', ← hw1]; exact heap_putK hblk), ?_, ?_, ?_, ?_⟩
          · simpa [putCells] using hfr
          · simp only [List.length_append, List.length_map, hF] at hsize ⊢
            simpa [putCells] using hsize
          · intro i e he
            rcases getElem?_app' _ _ _ _ he with ⟨h1, h2⟩ | ⟨h1, h2⟩
            · rw [List.getElem?_map] at h2
              cases hq : (F l)[i]? with
              | none => simp [hq] at h2
              | some z => simp only [hq, Option.map_some, Option.some.injEq] at h2; subst h2; rw [hf, List.length_map, hk]
            · refine hlv i e ?_
              rw [List.length_map, hF] at h1 h2
              rw [List.getElem?_append_right (by rw [List.length_map]; exact h1), List.length_map]; exact h2
          · intro i e j y he hy
            rcases getElem?_app' _ _ _ _ he with ⟨h1, h2⟩ | ⟨h1, h2⟩
            · rw [List.length_map, hF] at h1
              have h1' : i < (F l).length := by rw [hF]; exact h1
              have hq : e = fV (F l)[i]! := by
                rw [List.getElem?_map, List.getElem?_eq_getElem h1'] at h2
                rw [getElem!_pos (F l) i h1']
                exact (Option.some.inj h2).symm
              subst hq
              have hj : j < k := by
                have := (List.getElem?_eq_some_iff.1 hy).1
                rwa [hf, List.length_map, hk] at this
              rw [hleaf (F l) i j h1' hj] at hy
              simp only [Option.some.injEq] at hy; subst hy
              have ht : i * k + j < l.length * k := by
                have := Nat.mul_le_mul_right k (show i + 1 ≤ l.length from h1)
                rw [Nat.add_mul, Nat.one_mul] at this; omega
              have hlt : i * k + j < cs.size := (Array.getElem?_eq_some_iff.1 (hget _ ht)).1
              refine ⟨(enc (F l)[i]!)[j]!, ?_, .base (.v _), .inr (h1c _ _ (by rw [getElem!_pos _ j (by rw [hk]; exact hj)]; exact List.getElem_mem _))⟩
              simp only [putCells, Array.getElem?_mapIdx, Array.getElem?_eq_getElem hlt, Option.map_some]
              rw [if_pos ⟨Nat.zero_le _, by rw [hGs]; omega⟩, Nat.sub_zero, hGg _ ht]
              have d1 : (i * k + j) / k = i := by rw [Nat.mul_comm, Nat.mul_add_div hk0, Nat.div_eq_of_lt hj, Nat.add_zero]
              have d2 : (i * k + j) % k = j := by rw [Nat.mul_comm, Nat.mul_add_mod, Nat.mod_eq_of_lt hj]
              rw [d1, d2]; rfl
            · have h3 : (l.map fV ++ sp)[i]? = some e := by
                rw [List.length_map, hF] at h1 h2
                rw [List.getElem?_append_right (by rw [List.length_map]; exact h1), List.length_map]; exact h2
              obtain ⟨v, hv, hvr, hv1⟩ := hcell i e j y h3 hy
              refine ⟨v, ?_, hvr, hv1⟩
              rw [List.length_map, hF] at h1
              have hlt := (Array.getElem?_eq_some_iff.1 hv).1
              simp only [putCells, Array.getElem?_mapIdx, Array.getElem?_eq_getElem hlt, Option.map_some]
              have hns : ¬ (0 ≤ i * k + j ∧ i * k + j < 0 + G.size) := by
                have := Nat.mul_le_mul_right k (show l.length ≤ i from h1)
                rw [hGs]; omega
              rw [if_neg hns]
              rw [Array.getElem?_eq_getElem hlt] at hv; exact hv
      rw [hw1]
      exact r1.ext (w' := grow w1 os) ((Below.refl _ w1).grown (w' := grow w1 os) (row := none) ⟨rfl, rfl, rfl, by simp [grow], fun k hk _ => heap_grow_old _ _ hk⟩ (Nat.le_refl _) (fun j hj => by cases hj) (Nat.le_refl _))
  · have hl : l = [] := List.eq_nil_of_length_eq_zero hl
    subst hl
    refine (hnone _ 0 w).mono ?_
    rintro e w' ⟨rfl, rfl⟩
    exact ⟨_, rfl, cx, st, .tup [], r, .tup [] [] rfl (by simp), by rw [same rfl] at h; exact h⟩
end Go.Abs
end
section
set_option linter.unusedVariables false
set_option linter.unusedSimpArgs false
namespace Go.Proofs.YtajeeghgiilhiaaGreat
open Go Go.Abs Go.RowKit Go.Bk
abbrev nmV (x : Bs × Bs) : AV := .agg [str x.1, str x.2]

set_option maxHeartbeats 4000000 in
set_option maxRecDepth 8000 in
theorem cnanD_c (s : Bs) : ACalls ED 183 [str s] (fun r t => r = bl false ∧ t = []) := by -- cmp.isNaN[string]
  refine ACalls.of_awp (n := 6) (rs := [.tmp 2]) Tryz.func183 rfl Tryz.ntmps183 rfl ?_
  repeat' (first
    | refine AWP.seqk fun K hK => ?_
    | (refine AWP.region ?_; simp only [go_sem])
    | (refine hK _ ?_; clear hK K)
    | refine AWP.block ?_
    | refine AWP.cond rfl (fun c => ?_) (fun c => ?_) <;> first | exact Bool.noConfusion c | (try simp only [dD] at c)
    | refine AWP.skip ?_
    | (refine AWP.exit ?_; simp only [go_sem])
    | (refine AGet.haveM (by assumption) ?_; (try simp only [go_sem]))
    | (refine AGet.have' (by assumption) ?_; (try simp only [go_sem]))
    | ((first | refine AGet.nth ?_ (fun b hb => ?_) | refine AGet.nth1 ?_ (fun b hb => ?_) | with_reducible refine And.intro ?_ ?_); (focus (first | omega | assumption | exact List.length_pos_iff.2 (by assumption) | (simp only [List.length_append, List.length_cons, List.length_nil, List.length_map, List.length_take, List.length_drop] at *; omega) | (rw [wrap64_id (by omega) (by omega)]; omega) | (simp; done) | (simp [spare_len]; done) | (exact ⟨by omega, by omega⟩))); (try simp only [hb, go_sem]))
    | (
        refine AWP.ret ?_
        refine AEnd.is ?_; simp only [go_sem, out_v, out_s, out_n, v_int, v_bool, v_str] <;> (simp; done))
    | refine AWP.fin (by assumption) ?_
    | fail)

set_option maxHeartbeats 4000000 in
set_option maxRecDepth 8000 in
theorem ccmpD_c (s u : Bs) : ACalls ED 132 [str s, str u] (fun r t => r = i64 (cmpS s u) ∧ t = []) := by -- cmp.Compare[string]
  refine ACalls.of_awp (n := 20) (rs := [.tmp 4]) Tryz.func132 rfl Tryz.ntmps132 rfl ?_
  repeat' (first
    | refine AWP.seqk fun K hK => ?_
    | (refine AWP.region ?_; simp only [go_sem, Go.Proofs.bytesLess_eq])
    | (refine hK _ ?_; clear hK K)
    | refine AWP.block ?_
    | refine AWP.cond rfl (fun c => ?_) (fun c => ?_) <;> first | exact Bool.noConfusion c | (try simp only [dD] at c)
    | refine AWP.skip ?_
    | (refine AWP.exit ?_; simp only [go_sem, Go.Proofs.bytesLess_eq])
    | (refine ACall.one (cnanD_c _) (by kernel_rfl) rfl ?_; simp only [go_sem, Go.Proofs.bytesLess_eq])
    | (refine AGet.haveM (by assumption) ?_; (try simp only [go_sem, Go.Proofs.bytesLess_eq]))
    | (refine AGet.have' (by assumption) ?_; (try simp only [go_sem, Go.Proofs.bytesLess_eq]))
    | ((first | refine AGet.nth ?_ (fun b hb => ?_) | refine AGet.nth1 ?_ (fun b hb => ?_) | with_reducible refine And.intro ?_ ?_); (focus (first | omega | assumption | exact List.length_pos_iff.2 (by assumption) | (simp only [List.length_append, List.length_cons, List.length_nil, List.length_map, List.length_take, List.length_drop] at *; omega) | (rw [wrap64_id (by omega) (by omega)]; omega) | (simp; done) | (simp [spare_len]; done) | (exact ⟨by omega, by omega⟩))); (try simp only [hb, go_sem, Go.Proofs.bytesLess_eq]))
    | (
        refine AWP.ret ?_
        refine AEnd.is ?_; simp only [go_sem, out_v, out_s, out_n, v_int, v_bool, v_str] <;> (simp only [cmpS]; (try simp only [decide_eq_true_eq, decide_eq_false_iff_not, Bool.or_eq_true, Bool.or_eq_false_iff, not_or, Bool.not_eq_true, Bool.not_eq_false] at *); first | (rw [if_pos (by assumption)]; done) | (simp_all; done) | (rcases ‹_ ∨ _› with h3 | h3 <;> simp_all; done) | skip))
    | refine AWP.fin (by assumption) ?_
    | fail)

set_option maxHeartbeats 4000000 in
set_option maxRecDepth 8000 in
theorem corD_c (x y : Int) : ACalls ED 131 [.sl none 1 [i64 x, i64 y]] (fun r t => r = i64 (if x ≠ 0 then x else y) ∧ t = []) := by -- cmp.Or[int]
  refine ACalls.of_awp (n := 18) (rs := [.tmp 2]) Tryz.func131 rfl Tryz.ntmps131 rfl ?_
  repeat' (first
    | refine AWP.seqk fun K hK => ?_
    | (
        refine AWP.here 4 10 3 rfl ?_
        obtain ⟨z, hz2, hzz⟩ : ∃ z, ([i64 x, i64 y] : List AV)[i]? = some (i64 z) ∧ (i = 0 ∧ z = x ∨ i = 1 ∧ z = y) := by
          rcases i with _ | _ | i
          · exact ⟨x, rfl, .inl ⟨rfl, rfl⟩⟩
          · exact ⟨y, rfl, .inr ⟨rfl, rfl⟩⟩
          · exfalso; omega
        refine AWP.region ?_; simp only [go_sem, hz2])
    | (refine AWP.region ?_; simp only [go_sem])
    | (refine hK _ ?_; clear hK K)
    | refine AWP.block ?_
    | refine AWP.cond rfl (fun c => ?_) (fun c => ?_) <;> first | exact Bool.noConfusion c | (try simp only [dD] at c)
    | refine AWP.skip ?_
    | (refine AWP.exit ?_; simp only [go_sem])
    | (refine AGet.haveM (by assumption) ?_; (try simp only [go_sem]))
    | (refine AGet.have' (by assumption) ?_; (try simp only [go_sem]))
    | ((first | refine AGet.nth ?_ (fun b hb => ?_) | refine AGet.nth1 ?_ (fun b hb => ?_) | with_reducible refine And.intro ?_ ?_); (focus (first | omega | assumption | exact List.length_pos_iff.2 (by assumption) | (simp only [List.length_append, List.length_cons, List.length_nil, List.length_map, List.length_take, List.length_drop] at *; omega) | (rw [wrap64_id (by omega) (by omega)]; omega) | (simp; done) | (simp [spare_len]; done) | (exact ⟨by omega, by omega⟩))); (try simp only [hb, go_sem]))
    | (
        refine AWP.here 3 9 1 rfl ?_
        refine AWP.loopN (ι := Nat) [2, 5, 9, 10, 11, 12, 13, 14, 15, 16] (fun (i : Nat) => [(8, i64 i)]) (fun (i : Nat) => i ≤ 2 ∧ (0 < i → x = 0) ∧ (1 < i → y = 0)) (fun (i : Nat) => 2 - i) (0) ?_ ?_ ?_
        · (try simp only [go_sem]); (repeat' (first | refine And.intro ?_ ?_ | exact .inl rfl | exact .inr rfl | exact .inr ⟨rfl, rfl⟩ | trivial | exact .inr (oblA rfl) | exact .inr ⟨rfl, oblA rfl⟩ | exact .inr bel_strs | exact .inr ⟨rfl, bel_strs⟩ | exact .inr ⟨by simp, bel_strs⟩ | (simp; done) | exact .inr ⟨rfl, by simp⟩ | exact .inr ⟨by simp, by simp⟩)); done
        · exact ⟨by omega, by omega, by omega⟩
        rintro i ⟨h1, h2, h3⟩
        simp only [go_sem])
    | (
        refine ⟨i + 1, ?_, ?_, ?_⟩
        · (try simp only [go_sem]); (try rw [wrap64_id (by omega) (by omega)]); (repeat' (first | refine And.intro ?_ ?_ | exact .inl rfl | exact .inr rfl | exact .inr ⟨rfl, rfl⟩ | trivial | exact .inr (oblA rfl) | exact .inr ⟨rfl, oblA rfl⟩ | exact .inr bel_strs | exact .inr ⟨rfl, bel_strs⟩ | exact .inr ⟨by simp, bel_strs⟩ | (simp; done) | exact .inr ⟨rfl, by simp⟩ | exact .inr ⟨by simp, by simp⟩)); done
        · (rcases hzz with ⟨rfl, rfl⟩ | ⟨rfl, rfl⟩ <;> exact ⟨by omega, by intros; first | assumption | omega, by intros; first | assumption | omega⟩)
        · (try simp only []); omega)
    | (
        refine AWP.ret ?_
        refine AEnd.is ?_; simp only [go_sem, out_v, out_s, out_n, v_int, v_bool, v_str] <;> (first | rfl | (rcases hzz with ⟨rfl, rfl⟩ | ⟨rfl, rfl⟩ <;> simp_all; done) | (have e1 := h2 (by omega); have e2 := h3 (by omega); subst e1; subst e2; rfl) | skip))
    | refine AWP.fin (by assumption) ?_
    | fail)

set_option maxHeartbeats 4000000 in
set_option maxRecDepth 8000 in
theorem clo_c (x y : Nm) : ACalls ED 130 [nmV x, nmV y] (fun r t => r = i64 (cmpN x y) ∧ t = []) := by -- checkroll/ledger.All$1
  refine ACalls.of_awp (n := 17) (rs := [.tmp 4]) Tryz.func130 rfl Tryz.ntmps130 rfl ?_
  repeat' (first
    | refine AWP.seqk fun K hK => ?_
    | (refine AWP.region ?_; simp only [go_sem])
    | (refine AWP.here 1 5 13 rfl ?_; refine AWP.regionO [0, 1, 2, 3, 5, 6, 7, 8, 4, 9, 10, 11, 12] [] (by kernel_rfl) (by kernel_rfl) rfl ?_; simp only [go_sem])
    | (refine hK _ ?_; clear hK K)
    | refine AWP.block ?_
    | refine AWP.cond rfl (fun c => ?_) (fun c => ?_) <;> first | exact Bool.noConfusion c | (try simp only [dD] at c)
    | refine AWP.skip ?_
    | (refine AWP.exit ?_; simp only [go_sem])
    | (refine ACall.one (ccmpD_c x.1 y.1) (by kernel_rfl) rfl ?_; simp only [go_sem])
    | (refine ACall.one (ccmpD_c x.2 y.2) (by kernel_rfl) rfl ?_; simp only [go_sem])
    | (refine ACall.one (corD_c (cmpS x.1 y.1) (cmpS x.2 y.2)) (by kernel_rfl) rfl ?_; simp only [go_sem])
    | (refine AGet.haveM (by assumption) ?_; (try simp only [go_sem]))
    | (refine AGet.have' (by assumption) ?_; (try simp only [go_sem]))
    | ((first | refine AGet.nth ?_ (fun b hb => ?_) | refine AGet.nth1 ?_ (fun b hb => ?_) | with_reducible refine And.intro ?_ ?_); (focus (first | omega | assumption | exact List.length_pos_iff.2 (by assumption) | (simp only [List.length_append, List.length_cons, List.length_nil, List.length_map, List.length_take, List.length_drop] at *; omega) | (rw [wrap64_id (by omega) (by omega)]; omega) | (simp; done) | (simp [spare_len]; done) | (exact ⟨by omega, by omega⟩))); (try simp only [hb, go_sem]))
    | (
        refine AWP.ret ?_
        refine AEnd.is ?_; simp only [go_sem, out_v, out_s, out_n, v_int, v_bool, v_str] <;> (first | rfl | (simp [cmpN]; done) | skip))
    | refine AWP.fin (by assumption) ?_
    | fail)


/-- What a call leaves that turns nothing old, and draws no less: blocks of its own, and draws. -/
theorem grown_of {W w' : World} (h : Go.Abs.Below True W.heap.size W w') : ∃ q os', w' = Go.Sort.grow (W.drewN q) os' := by
  refine ⟨w'.drawn - W.drawn, w'.heap.extract W.heap.size w'.heap.size, ?_⟩
  have hd := h.drawn trivial
  have hs := h.size
  obtain ⟨hp, tp, dr, os, out⟩ := w'
  have h1 : os = W.os := h.os
  have h2 : tp = W.tape := h.tape
  have h3 : out = W.output := h.output
  subst h1; subst h2; subst h3
  have hh : hp = W.heap ++ hp.extract W.heap.size hp.size := by
    apply Array.ext_getElem?
    intro i
    rcases Nat.lt_or_ge i W.heap.size with hi | hi
    · rw [Array.getElem?_append_left hi]; exact h.block i hi
    · rw [Array.getElem?_append_right hi, Array.getElem?_extract]
      simp only [] at hs
      rcases Nat.lt_or_ge i hp.size with hi2 | hi2
      · rw [if_pos (by simp only [Nat.min_self]; omega)]
        congr 1; omega
      · rw [if_neg (by simp only [Nat.min_self]; omega), Array.getElem?_eq_none hi2]
  show (⟨hp, W.tape, dr, W.os, W.output⟩ : World) = ⟨W.heap ++ hp.extract W.heap.size hp.size, W.tape, W.drawn + (dr - W.drawn), W.os, W.output⟩
  rw [← hh, Nat.add_sub_of_le hd]
def encN (x : Nm) : List Value := [.string ⟨x.1.toArray⟩, .string ⟨x.2.toArray⟩]
theorem cmpLaysN (blk off size : Nat) (w : World) : Go.Proofs.CmpLays Tryz.prog 130 #[] encN 2 cmpN blk off size w := by
  intro m os dk hs x y
  have h := clo_c x y (Go.Proofs.sortWorldK encN 2 w blk off m dk os) (fun _ _ => none) [.agg (encN x).toArray, .agg (encN y).toArray] trivial (fun g cs hg => by cases hg) (fun _ _ _ hx => by cases hx)
    ⟨rfl, fun i z v h1 h2 => by
      rcases i with _ | _ | i
      · cases h1; cases h2
        exact .agg _ _ rfl (fun j y' u hy hu => by
          rcases j with _ | _ | j
          · cases hy; cases hu; exact .v _
          · cases hy; cases hu; exact .v _
          · simp at hy)
      · cases h1; cases h2
        exact .agg _ _ rfl (fun j y' u hy hu => by
          rcases j with _ | _ | j
          · cases hy; cases hu; exact .v _
          · cases hy; cases hu; exact .v _
          · simp at hy)
      · simp at h1⟩
  refine h.mono ?_
  rintro e w' ⟨v, r, tks, im', rfl, hb, _, _, _, _, hv, rfl, _⟩
  have := hv.inv_v
  subst this
  exact ⟨rfl, grown_of hb⟩

end Go.Proofs.YtajeeghgiilhiaaGreat
end
