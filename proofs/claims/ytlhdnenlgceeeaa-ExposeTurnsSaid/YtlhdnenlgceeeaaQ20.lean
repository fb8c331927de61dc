import Derived.Test.YtlhdnenlgceeeaaQ19
import Derived.Test.YtlhdnenlgceeeaaQ6
import Derived.Test.YtlhdnenlgceeeaaPo
set_option linter.unusedVariables false
set_option linter.unusedSimpArgs false
namespace Go.Proofs.Ytlhdnenlgceeeaa
open Go Go.Abs Go.RowKit Go.Bk
def aw16 (c : Int) : Bk := ⟨[⟨[111], [99], [115], true, 10, 5, 4, true⟩], [⟨[97], [], [99], [115], true, 4, 5, 0, true⟩, ⟨[98], [], [99], [115], false, 3, 6, 0, true⟩], [[97], [98]], c, 0⟩
theorem aw16_1 : ofF (aw16 10) [99] [115] = (10, 3) := by decide +kernel
theorem aw16_2 : ofF (aw16 11) [99] [115] = (7, -1) := by decide +kernel
theorem right_fy {b : Bk} (h : rightBk b = true) : True ∧ (b.orders.length ≤ 64 ∧ b.fills.length ≤ 256 ∧ b.ids.length ≤ 256) ∧ ∀ f ∈ b.fills, 0 ≤ f.time ∧ f.time ≤ 4611686018427387904 := by
  have h1 := rightBk_iff.1 h
  refine ⟨trivial, ⟨right_len h1.1.1, h1.1.2.1, h1.1.2.2.1⟩, fun f hf => ?_⟩
  have h2 := h1.2.2.1 f hf
  simp only [fillB, Bool.and_eq_true, decide_eq_true_eq] at h2
  omega
theorem falls_facts {k : Bk} {x : Ex} (hr : rightBk k = true) (hl : k.ids.length < 256) :
    ((comeF k x).2 = 1 → (x.kind = 1 ∨ x.kind = 4) → x.buy = true → (ofF (comeF k x).1 x.acc x.sym).1 ≤ (ofF k x.acc x.sym).1 + x.qty ∧ (ofF (comeF k x).1 x.acc x.sym).2 ≤ (ofF k x.acc x.sym).2) ∧
    ((comeF k x).2 = 1 → (x.kind = 1 ∨ x.kind = 4) → x.buy = false → (ofF (comeF k x).1 x.acc x.sym).1 ≤ (ofF k x.acc x.sym).1 ∧ (ofF (comeF k x).1 x.acc x.sym).2 ≤ (ofF k x.acc x.sym).2 + x.qty) ∧
    ((comeF k x).2 = 1 → ¬ (x.kind = 1 ∨ x.kind = 4) → (ofF (comeF k x).1 x.acc x.sym).1 ≤ (ofF k x.acc x.sym).1 ∧ (ofF (comeF k x).1 x.acc x.sym).2 ≤ (ofF k x.acc x.sym).2) ∧
    (¬ (comeF k x).2 = 1 → ofF (comeF k x).1 x.acc x.sym = ofF k x.acc x.sym) ∧
    ((comeF k x).2 = 1 → 0 ≤ x.qty ∧ x.qty ≤ 1099511627776) ∧
    (-(320 * 1099511627776) ≤ (ofF k x.acc x.sym).1 ∧ (ofF k x.acc x.sym).1 ≤ 320 * 1099511627776 ∧ -(320 * 1099511627776) ≤ (ofF k x.acc x.sym).2 ∧ (ofF k x.acc x.sym).2 ≤ 320 * 1099511627776) ∧
    (-(320 * 1099511627776) ≤ (ofF (comeF k x).1 x.acc x.sym).1 ∧ (ofF (comeF k x).1 x.acc x.sym).1 ≤ 320 * 1099511627776 ∧ -(320 * 1099511627776) ≤ (ofF (comeF k x).1 x.acc x.sym).2 ∧ (ofF (comeF k x).1 x.acc x.sym).2 ≤ 320 * 1099511627776) := by
  have h0 : (comeF k x).2 = 1 → LeW (ofF (comeF k x).1 x.acc x.sym) ((ofF k x.acc x.sym).1 + (moreA x.acc x.sym x).1, (ofF k x.acc x.sym).2 + (moreA x.acc x.sym x).2) := fun h => by
    have := falls (acc := x.acc) (sym := x.sym) hr h
    unfold ofF; rw [if_pos hr, if_pos (comeF_right hr)]; exact this
  refine ⟨fun h1 h2 h3 => ?_, fun h1 h2 h3 => ?_, fun h1 h2 => ?_, fun h1 => stays_of hr hl h1, fun h1 => ?_, of_bnd, of_bnd⟩
  · have := h0 h1
    unfold moreA sideW at this
    rw [if_pos ⟨h2, rfl, rfl⟩, h3, if_pos rfl] at this
    simp only [LeW] at this; omega
  · have := h0 h1
    unfold moreA sideW at this
    rw [if_pos ⟨h2, rfl, rfl⟩, h3, if_neg (by decide)] at this
    simp only [LeW] at this; omega
  · have := h0 h1
    unfold moreA at this
    rw [if_neg (fun h => h2 h.1)] at this
    simp only [LeW] at this; omega
  · have := (exec_small (fresh_cases hr h1).1).1
    simp only [smallB, Bool.and_eq_true, decide_eq_true_eq] at this; omega

set_option maxHeartbeats 4000000 in
set_option maxRecDepth 8000 in
theorem awake16_c  : ACalls E 18 [] (fun r t => r = bl true ∧ t = []) := by -- checkroll/checkrolllaw16.awake
  refine ACalls.of_awp (n := 24) (rs := [.tmp 0]) Try.func18 rfl Try.ntmps18 rfl ?_
  repeat' (first
    | refine AWP.seqk fun K hK => ?_
    | (refine AWP.region ?_; simp only [go_sem, aw16_1, aw16_2])
    | (refine hK _ ?_; clear hK K)
    | refine AWP.block ?_
    | refine AWP.cond rfl (fun c => ?_) (fun c => ?_) <;> first | exact Bool.noConfusion c | (try simp only [dD] at c)
    | refine AWP.skip ?_
    | (refine AWP.exit ?_; simp only [go_sem, aw16_1, aw16_2])
    | (refine ACall.one (eof_c (aw16 10) [99] [115] (by decide) (by decide) (by decide)) (by kernel_rfl) rfl ?_; simp only [go_sem, aw16_1, aw16_2])
    | (refine ACall.one (eof_c (aw16 11) [99] [115] (by decide) (by decide) (by decide)) (by kernel_rfl) rfl ?_; simp only [go_sem, aw16_1, aw16_2])
    | (refine AGuard.splitN (fun h => ?_) (fun h => ?_) <;> simp only [h, go_sem, aw16_1, aw16_2] <;> (try simp only [dD] at h))
    | (refine AGuard.split (fun h => ?_) (fun h => ?_) <;> simp only [h, go_sem, aw16_1, aw16_2] <;> (try simp only [dD] at h))
    | (refine AGet.haveM (by assumption) ?_; (try simp only [go_sem, aw16_1, aw16_2]))
    | (refine AGet.have' (by assumption) ?_; (try simp only [go_sem, aw16_1, aw16_2]))
    | ((first | refine AGet.nth ?_ (fun b hb => ?_) | refine AGet.nth1 ?_ (fun b hb => ?_) | with_reducible refine And.intro ?_ ?_); (focus (first | omega | assumption | exact List.length_pos_iff.2 (by assumption) | (simp only [List.length_append, List.length_cons, List.length_nil, List.length_map, List.length_take, List.length_drop] at *; omega) | (rw [wrap64_id (by omega) (by omega)]; omega) | (simp; done) | (simp [spare_len]; done) | (exact ⟨by omega, by omega⟩))); (try simp only [hb, go_sem, aw16_1, aw16_2]))
    | (
        refine AWP.ret ?_
        refine AEnd.is ?_; simp only [go_sem, out_v, out_s, out_n, v_int, v_bool, v_str] <;> (simp; done))
    | refine AWP.fin (by assumption) ?_)

set_option maxHeartbeats 8000000 in
set_option maxRecDepth 8000 in
theorem falls_c (l : List Ex) (hl : l.length ≤ 9223372036854775807) : ACalls E 8 [exsV l] (fun r t => r = bl true ∧ t = []) := by -- checkroll/checkrolllaw16.ExposeFalls
  refine ACalls.of_awp (n := 93) (rs := [.tmp 2]) Try.func8 rfl Try.ntmps8 rfl ?_
  repeat' (first
    | refine AWP.seqk fun K hK => ?_
    | (
        refine AWP.here 7 23 6 rfl ?_
        obtain ⟨x, hb⟩ : ∃ x, l[i]? = some x := ⟨_, List.getElem?_eq_getElem (by omega)⟩
        have hn := (right_fy (comeF_right (x := x) h3)).2.1
        have hF := falls_facts (x := x) h3 (by omega)
        have hg := (stays_facts (x := x) h3 (by omega)).2.2.2.2
        refine AWP.region ?_; simp only [go_sem])
    | (refine AWP.region ?_; simp only [go_sem])
    | (refine AWP.here 9 33 16 rfl ?_; refine AWP.regionO [0, 1, 2, 3, 4, 6, 7, 8, 9, 10, 12, 13, 5, 11, 14, 15] [8, 9] (by kernel_rfl) (by kernel_rfl) rfl ?_; simp only [go_sem])
    | (refine hK _ ?_; clear hK K)
    | refine AWP.block ?_
    | refine AWP.cond rfl (fun c => ?_) (fun c => ?_) <;> first | exact Bool.noConfusion c | (try simp only [dD] at c)
    | refine AWP.skip ?_
    | (refine AWP.exit ?_; simp only [go_sem])
    | (refine ACall.one (awake16_c) (by kernel_rfl) rfl ?_; simp only [go_sem])
    | (refine ACall.one (come_c k x (by omega) (by omega) (by omega)) (by kernel_rfl) rfl ?_; simp only [go_sem])
    | (refine ACall.one (eof_c k x.acc x.sym (by omega) (by omega) (by omega)) (by kernel_rfl) rfl ?_; simp only [go_sem])
    | (refine ACall.one (eof_c (comeF k x).1 x.acc x.sym (by omega) (by omega) (by omega)) (by kernel_rfl) rfl ?_; simp only [go_sem])
    | (refine AGuard.splitN (fun h => ?_) (fun h => ?_) <;> simp only [h, go_sem] <;> (try simp only [dD] at h))
    | (refine AGuard.split (fun h => ?_) (fun h => ?_) <;> simp only [h, go_sem] <;> (try simp only [dD] at h))
    | (refine AGet.haveM (by assumption) ?_; (try simp only [go_sem]))
    | (refine AGet.have' (by assumption) ?_; (try simp only [go_sem]))
    | ((first | refine AGet.nth ?_ (fun b hb => ?_) | refine AGet.nth1 ?_ (fun b hb => ?_) | with_reducible refine And.intro ?_ ?_); (focus (first | omega | assumption | exact List.length_pos_iff.2 (by assumption) | (simp only [List.length_append, List.length_cons, List.length_nil, List.length_map, List.length_take, List.length_drop] at *; omega) | (rw [wrap64_id (by omega) (by omega)]; omega) | (simp; done) | (simp [spare_len]; done) | (exact ⟨by omega, by omega⟩))); (try simp only [hb, go_sem]))
    | (
        refine AWP.here 5 13 8 rfl ?_
        refine AWP.nilPlainLeaf 0 0 8 _ rfl rfl ?_
        refine AWP.nilPlainLeaf 0 1 9 _ rfl rfl ?_
        refine AWP.nilPlainLeaf 0 2 1 _ rfl rfl ?_
        simp only [go_sem]
        refine AWP.loopM (ι := Nat × Bk) [2, 5, 6, 7, 8, 9, 10, 13, 14, 15, 16, 17, 18, 19, 20, 21, 22, 23, 24, 25, 26, 27, 28, 29, 30, 31, 32, 33, 34, 35, 36, 37, 38, 39, 40, 41, 42, 43, 44, 45, 46, 47, 48, 49, 50, 51, 52, 53, 54, 55, 56, 57, 58, 59, 60, 61, 62, 63, 64, 65, 66, 67, 68, 69, 70, 71, 72, 73, 74, 75, 76, 77, 78, 79, 80, 81, 82, 83, 84, 85, 86, 87, 88, 89, 90, 91, 92] (fun ⟨i, k⟩ => [(4, i64 i)]) (fun ⟨i, k⟩ => [some [.agg [odsV k.orders, dnsV k.fills, .sl none 1 (k.ids.map str), i64 k.clock, i64 k.bad]]]) (fun ⟨i, k⟩ => []) (fun ⟨i, k⟩ => i ≤ l.length ∧ i ≤ 40 ∧ rightBk k = true ∧ k.ids.length ≤ i) (fun ⟨i, k⟩ => l.length - i) ((0, emptyB)) ?_ ?_ ?_
        · (try simp only [go_sem]); (repeat' (first | refine And.intro ?_ ?_ | exact .inl rfl | exact .inr rfl | exact .inr ⟨rfl, rfl⟩ | trivial | exact .inr (oblA rfl) | exact .inr ⟨rfl, oblA rfl⟩ | exact .inr bel_strs | exact .inr ⟨rfl, bel_strs⟩ | exact .inr ⟨by simp, bel_strs⟩ | (simp; done) | exact .inr ⟨rfl, by simp⟩ | exact .inr ⟨by simp, by simp⟩)); done
        · exact ⟨by simp, by simp, empty_right, by simp [emptyB]⟩
        rintro ⟨i, k⟩ ⟨h1, h2, h3, h4⟩
        simp only [go_sem]
        have hk := (right_fy h3).2.1)
    | (
        refine ⟨(i + 1, (comeF k x).1), ?_, ⟨by show i + 1 ≤ l.length; omega, by show i + 1 ≤ 40; omega, comeF_right h3, by show (comeF k x).1.ids.length ≤ i + 1; omega⟩, by show l.length - (i + 1) < l.length - i; omega⟩
        (try simp only [go_sem]); (try rw [wrap64_id (by omega) (by omega)]); (repeat' (first | refine And.intro ?_ ?_ | exact .inl rfl | exact .inr rfl | exact .inr ⟨rfl, rfl⟩ | trivial | exact .inr (oblA rfl) | exact .inr ⟨rfl, oblA rfl⟩ | exact .inr bel_strs | exact .inr ⟨rfl, bel_strs⟩ | exact .inr ⟨by simp, bel_strs⟩ | (simp; done) | exact .inr ⟨rfl, by simp⟩ | exact .inr ⟨by simp, by simp⟩)); done)
    | (
        refine AWP.ret ?_
        refine AEnd.is ?_; simp only [go_sem, out_v, out_s, out_n, v_int, v_bool, v_str] <;> (first
        | rfl
        | (exfalso; obtain ⟨f1, f2, f3, f4, f5, f6, f7⟩ := hF
           first
           | omega
           | (have e1 := f1 (by assumption) (by first | exact .inl (by assumption) | exact .inr (by assumption)) (by assumption); have e2 := f5 (by assumption); (try rw [wrap64_id (by omega) (by omega)] at h); (try rw [wrap64_id (by omega) (by omega)] at c); omega)
           | (have e1 := f2 (by assumption) (by first | exact .inl (by assumption) | exact .inr (by assumption)) (by assumption); have e2 := f5 (by assumption); (try rw [wrap64_id (by omega) (by omega)] at h); (try rw [wrap64_id (by omega) (by omega)] at c); omega)
           | (have e1 := f3 (by assumption) (by omega); (try rw [wrap64_id (by omega) (by omega)] at h); (try rw [wrap64_id (by omega) (by omega)] at c); omega)
           | (have e1 := f4 (by assumption); (try rw [e1] at h); (try rw [e1] at c); (try rw [wrap64_id (by omega) (by omega)] at h); (try rw [wrap64_id (by omega) (by omega)] at c); omega)
           | (have e1 := f4 (by assumption); rw [e1] at c; simp at c; done))
        | skip))
    | refine AWP.fin (by assumption) ?_)


end Go.Proofs.Ytlhdnenlgceeeaa
