import Derived.Test.YtlhdnenlgceeeaaQ10
import Derived.Test.YtlhdnenlgceeeaaBkN
set_option linter.unusedVariables false
set_option linter.unusedSimpArgs false
namespace Go.Proofs.Ytlhdnenlgceeeaa
open Go Go.Abs Go.RowKit Go.Bk
def aw15l : List Ex := [⟨[97], [], [111], [99], [115], 1, true, 10, 5, 0⟩, ⟨[98], [], [111], [99], [115], 2, true, 11, 5, 0⟩]
def aw15s : List Ex := [⟨[97], [], [111], [99], [115], 1, true, 10, 5, 0⟩]
theorem aw15_1 : faultF aw15l = (1, 4) := by decide +kernel
theorem aw15_2 : (faultF aw15s).2 = 0 := by decide +kernel
theorem aw15_3 : laterF [] aw15s = true := by decide +kernel
theorem nil_sl (im : Im) (vs : List Value) (h : Pw0 im [.nilS, exsV aw15s] vs) : Pw0 im [exsV [], exsV aw15s] vs := by
  refine ⟨h.1, fun i x v h1 h2 => ?_⟩
  match i, h1 with
  | 0, h1 =>
    cases h1
    have := h.2 0 .nilS v rfl h2
    cases this
    exact .sl0 10 none 0
  | 1, h1 => exact h.2 1 x v h1 h2
theorem any_next {α : Type} {l : List α} {p : α → Bool} {k : Nat} {y : α} (h : l[k]? = some y) : (l.take (k + 1)).any p = ((l.take k).any p || p y) := by
  rw [take_next h, List.any_append]; simp
section
variable {l : List Ex} {k : Nat} {x y : Ex} {fd : Bool} (hy : l[k]? = some y) (h : fd = (l.take k).any (foundB x))
include hy h
theorem fnd_old (h1 : fd = true) : true = (l.take (k + 1)).any (foundB x) := by rw [any_next hy, ← h, h1]; rfl
theorem fnd_no (h1 : fd = false) (h2 : foundB x y = false) : false = (l.take (k + 1)).any (foundB x) := by rw [any_next hy, ← h, h1, h2]; rfl
theorem fnd_eq (h1 : fd = false) (h2 : y.id = x.ref) (h3 : y.kind = 2) : decide (x.time - y.time ≤ 10) = (l.take (k + 1)).any (foundB x) := by rw [any_next hy, ← h, h1]; simp [foundB, h2, h3]
end
theorem wrap_pred {i : Nat} (h1 : 0 < (i : Int)) (h2 : (i : Int) ≤ 1000000) : (IntKind.i64.wrap ((i : Int) - 1)).toNat = i - 1 := by
  rw [wrap64_id (by omega) (by omega)]; omega
theorem found_not {l : List Ex} {i : Nat} {x : Ex} (h : ∃ k y, k < i ∧ l[k]? = some y ∧ y.id = x.ref ∧ y.kind = 2 ∧ x.time - y.time ≤ 10) (h2 : (l.take i).any (foundB x) = false) : False := by
  obtain ⟨k, y, hk, hy, e1, e2, e3⟩ := h
  have : (l.take i).any (foundB x) = true := List.any_eq_true.2 ⟨y, List.mem_iff_getElem?.2 ⟨k, by rw [List.getElem?_take, if_pos hk]; exact hy⟩, by simp [foundB, e1, e2, e3]⟩
  rw [h2] at this; simp at this

set_option maxHeartbeats 4000000 in
set_option maxRecDepth 8000 in
theorem awake15_c  : ACalls E 30 [] (fun r t => r = bl true ∧ t = []) := by -- checkroll/checkrolllaw15.awake
  refine ACalls.of_awp (n := 33) (rs := [.tmp 0]) Try.func30 rfl Try.ntmps30 rfl ?_
  repeat' (first
    | refine AWP.seqk fun K hK => ?_
    | (refine AWP.region ?_; simp only [go_sem, aw15_1, aw15_2, aw15_3])
    | (refine hK _ ?_; clear hK K)
    | refine AWP.block ?_
    | refine AWP.cond rfl (fun c => ?_) (fun c => ?_) <;> first | exact Bool.noConfusion c | (try simp only [dD] at c)
    | refine AWP.skip ?_
    | (refine AWP.exit ?_; simp only [go_sem, aw15_1, aw15_2, aw15_3])
    | (refine ACall.one (fault_c aw15l (by decide)) (by kernel_rfl) rfl ?_; simp only [go_sem, aw15_1, aw15_2, aw15_3])
    | (refine ACall.one (keeps_c aw15s (by decide)) (by kernel_rfl) rfl ?_; simp only [go_sem, aw15_1, aw15_2, aw15_3])
    | (refine ACall.one (ACalls.of_le nil_sl (later_c [] aw15s (by decide) (by decide))) (by kernel_rfl) rfl ?_; simp only [go_sem, aw15_1, aw15_2, aw15_3])
    | (refine AGuard.splitN (fun h => ?_) (fun h => ?_) <;> simp only [h, go_sem, aw15_1, aw15_2, aw15_3] <;> (try simp only [dD] at h))
    | (refine AGuard.split (fun h => ?_) (fun h => ?_) <;> simp only [h, go_sem, aw15_1, aw15_2, aw15_3] <;> (try simp only [dD] at h))
    | (refine AGet.haveM (by assumption) ?_; (try simp only [go_sem, aw15_1, aw15_2, aw15_3]))
    | (refine AGet.have' (by assumption) ?_; (try simp only [go_sem, aw15_1, aw15_2, aw15_3]))
    | ((first | refine AGet.nth ?_ (fun b hb => ?_) | refine AGet.nth1 ?_ (fun b hb => ?_) | with_reducible refine And.intro ?_ ?_); (focus (first | omega | assumption | exact List.length_pos_iff.2 (by assumption) | (simp only [List.length_append, List.length_cons, List.length_nil, List.length_map, List.length_take, List.length_drop] at *; omega) | (rw [wrap64_id (by omega) (by omega)]; omega) | (simp; done) | (simp [spare_len]; done) | (exact ⟨by omega, by omega⟩))); (try simp only [hb, go_sem, aw15_1, aw15_2, aw15_3]))
    | (
        refine AWP.ret ?_
        refine AEnd.is ?_; simp only [go_sem, out_v, out_s, out_n, v_int, v_bool, v_str] <;> (simp; done))
    | refine AWP.fin (by assumption) ?_)

set_option maxHeartbeats 8000000 in
set_option maxRecDepth 8000 in
theorem times_c (l : List Ex) (hl : l.length ≤ 9223372036854775807) : ACalls E 10 [exsV l] (fun r t => r = bl true ∧ t = []) := by -- checkroll/checkrolllaw15.RuleTimes
  refine ACalls.of_awp (n := 109) (rs := [.tmp 2]) Try.func10 rfl Try.ntmps10 rfl ?_
  repeat' (first
    | refine AWP.seqk fun K hK => ?_
    | (
        refine AWP.here 9 23 16 rfl ?_
        obtain ⟨x, hx⟩ : ∃ x, l[i]? = some x := ⟨_, List.getElem?_eq_getElem (by omega)⟩
        have hT := rule_times hn2 hn3 (i := i) (by omega) hx
        refine AWP.regionO [0, 1, 2, 3, 4, 5, 6, 7, 8, 9, 10, 11, 12, 13, 14, 15] [] (by kernel_rfl) (by kernel_rfl) rfl ?_; simp only [go_sem])
    | (
        refine AWP.here 15 44 11 rfl ?_
        obtain ⟨y, hy⟩ : ∃ y, l[k]? = some y := ⟨_, List.getElem?_eq_getElem (by omega)⟩
        have hY := (rule_times hn2 hn3 (i := k) (by omega) hy).2.2.2
        have hwt : IntKind.i64.wrap (x.time - y.time) = x.time - y.time := wrap64_id (by omega) (by omega)
        refine AWP.regionO [0, 1, 2, 3, 4, 5, 6, 7, 8, 9, 10] [] (by kernel_rfl) (by kernel_rfl) rfl ?_; simp only [go_sem])
    | (
        refine AWP.here 17 55 37 rfl ?_
        refine AWP.regionO [0, 1, 2, 3, 4, 5, 6, 7, 8, 9, 10, 11, 12, 13, 14, 15, 16, 17, 18, 19, 20, 21, 22, 23, 24, 25, 26, 27, 28, 29, 30, 31, 32, 33, 34, 35, 36] [] (by kernel_rfl) (by kernel_rfl) rfl ?_; simp only [go_sem, hwt])
    | (refine AWP.region ?_; simp only [go_sem])
    | (refine AWP.here 9 23 16 rfl ?_; refine AWP.regionO [0, 1, 2, 3, 4, 5, 6, 7, 8, 9, 10, 11, 12, 13, 14, 15] [] (by kernel_rfl) (by kernel_rfl) rfl ?_; simp only [go_sem])
    | (refine AWP.here 15 44 11 rfl ?_; refine AWP.regionO [0, 1, 2, 3, 4, 5, 6, 7, 8, 9, 10] [] (by kernel_rfl) (by kernel_rfl) rfl ?_; simp only [go_sem])
    | (refine AWP.here 17 55 37 rfl ?_; refine AWP.regionO [0, 1, 2, 3, 4, 5, 6, 7, 8, 9, 10, 11, 12, 13, 14, 15, 16, 17, 18, 19, 20, 21, 22, 23, 24, 25, 26, 27, 28, 29, 30, 31, 32, 33, 34, 35, 36] [] (by kernel_rfl) (by kernel_rfl) rfl ?_; simp only [go_sem])
    | (refine hK _ ?_; clear hK K)
    | refine AWP.block ?_
    | refine AWP.cond rfl (fun c => ?_) (fun c => ?_) <;> first | exact Bool.noConfusion c | (try simp only [dD] at c)
    | refine AWP.skip ?_
    | (refine AWP.exit ?_; simp only [go_sem])
    | (refine ACall.one (awake15_c) (by kernel_rfl) rfl ?_; simp only [go_sem])
    | (refine ACall.one (fault_c _ (by first | assumption | omega | (simp only [List.length_take]; omega))) (by kernel_rfl) rfl ?_; simp only [go_sem])
    | (refine AGuard.splitN (fun h => ?_) (fun h => ?_) <;> simp only [h, go_sem] <;> (try simp only [dD] at h))
    | (refine AGuard.split (fun h => ?_) (fun h => ?_) <;> simp only [h, go_sem] <;> (try simp only [dD] at h))
    | (refine AGet.haveM (by assumption) ?_; (try simp only [go_sem]))
    | (refine AGet.have' (by assumption) ?_; (try simp only [go_sem]))
    | ((first | refine AGet.nth ?_ (fun b hb => ?_) | refine AGet.nth1 ?_ (fun b hb => ?_) | with_reducible refine And.intro ?_ ?_); (focus (first | omega | assumption | exact List.length_pos_iff.2 (by assumption) | (simp only [List.length_append, List.length_cons, List.length_nil, List.length_map, List.length_take, List.length_drop] at *; omega) | (rw [wrap64_id (by omega) (by omega)]; omega) | (simp; done) | (simp [spare_len]; done) | (exact ⟨by omega, by omega⟩))); (try simp only [hb, go_sem]))
    | (
        refine AWP.here 7 18 3 rfl ?_
        obtain ⟨n, hn1, hn2, hn3, hn4⟩ := fault_spec l
        simp only [hn1]
        refine AWP.loopN (ι := Nat) [2, 6, 7, 18, 19, 20, 21, 22, 23, 24, 25, 26, 27, 28, 29, 30, 31, 32, 33, 34, 35, 36, 37, 38, 39, 40, 41, 42, 43, 44, 45, 46, 47, 48, 49, 50, 51, 52, 53, 54, 55, 56, 57, 58, 59, 60, 61, 62, 63, 64, 65, 66, 67, 68, 69, 70, 71, 72, 73, 74, 75, 76, 77, 78, 79, 80, 81, 82, 83, 84, 85, 86, 87, 88, 89, 90, 91, 92, 93, 94, 95, 96, 97, 98, 99, 100, 101, 102, 103, 104, 105, 106, 107, 108] (fun (i : Nat) => [(5, i64 i)]) (fun (i : Nat) => i ≤ n) (fun (i : Nat) => n - i) (0) ?_ ?_ ?_
        · (try simp only [go_sem]); (repeat' (first | refine And.intro ?_ ?_ | exact .inl rfl | exact .inr rfl | exact .inr ⟨rfl, rfl⟩ | trivial | exact .inr (oblA rfl) | exact .inr ⟨rfl, oblA rfl⟩ | exact .inr bel_strs | exact .inr ⟨rfl, bel_strs⟩ | exact .inr ⟨by simp, bel_strs⟩ | (simp; done) | exact .inr ⟨rfl, by simp⟩ | exact .inr ⟨by simp, by simp⟩)); done
        · exact Nat.zero_le _
        rintro i g1
        simp only [go_sem])
    | (
        refine AWP.here 13 39 3 rfl ?_
        refine AWP.loopN (ι := Nat × Bool) [2, 39, 40, 41, 42, 43, 44, 45, 46, 47, 48, 49, 50, 51, 52, 53, 54, 55, 56, 57, 58, 59, 60, 61, 62, 63, 64, 65, 66, 67, 68, 69, 70, 71, 72, 73, 74, 75, 76, 77, 78, 79, 80, 81, 82, 83, 84, 85, 86, 87, 88, 89, 90] (fun ⟨k, fd⟩ => [(6, bl fd), (7, i64 k)]) (fun ⟨k, fd⟩ => k ≤ i ∧ fd = (l.take k).any (foundB x)) (fun ⟨k, fd⟩ => i - k) ((0, false)) ?_ ?_ ?_
        · (try simp only [go_sem]); (repeat' (first | refine And.intro ?_ ?_ | exact .inl rfl | exact .inr rfl | exact .inr ⟨rfl, rfl⟩ | trivial | exact .inr (oblA rfl) | exact .inr ⟨rfl, oblA rfl⟩ | exact .inr bel_strs | exact .inr ⟨rfl, bel_strs⟩ | exact .inr ⟨by simp, bel_strs⟩ | (simp; done) | exact .inr ⟨rfl, by simp⟩ | exact .inr ⟨by simp, by simp⟩)); done
        · exact ⟨Nat.zero_le _, by simp⟩
        rintro ⟨k, fd⟩ ⟨g2, g3⟩
        simp only [go_sem])
    | (
        refine ⟨i + 1, ?_, ?_, ?_⟩
        · (try simp only [go_sem]); (try rw [wrap64_id (by omega) (by omega)]); (repeat' (first | refine And.intro ?_ ?_ | exact .inl rfl | exact .inr rfl | exact .inr ⟨rfl, rfl⟩ | trivial | exact .inr (oblA rfl) | exact .inr ⟨rfl, oblA rfl⟩ | exact .inr bel_strs | exact .inr ⟨rfl, bel_strs⟩ | exact .inr ⟨by simp, bel_strs⟩ | (simp; done) | exact .inr ⟨rfl, by simp⟩ | exact .inr ⟨by simp, by simp⟩)); done
        · omega
        · (try simp only []); omega)
    | (
        first
        | (refine ⟨(k + 1, true), ?_, ⟨by show k + 1 ≤ i; omega, fnd_old hy g3 (by assumption)⟩, by show i - (k + 1) < i - k; omega⟩
           (try simp only [go_sem]); (try rw [hwt]); (try rw [wrap64_id (by omega) (by omega)]); (repeat' (first | refine And.intro ?_ ?_ | exact .inl rfl | exact .inr rfl | exact .inr ⟨rfl, rfl⟩ | trivial | exact .inr (oblA rfl) | exact .inr ⟨rfl, oblA rfl⟩ | exact .inr bel_strs | exact .inr ⟨rfl, bel_strs⟩ | exact .inr ⟨by simp, bel_strs⟩ | (simp; done) | exact .inr ⟨rfl, by simp⟩ | exact .inr ⟨by simp, by simp⟩)); done)
        | (refine ⟨(k + 1, false), ?_, ⟨by show k + 1 ≤ i; omega, fnd_no hy g3 (by assumption) (by simp [foundB]; intros; simp_all)⟩, by show i - (k + 1) < i - k; omega⟩
           (try simp only [go_sem]); (try rw [hwt]); (try rw [wrap64_id (by omega) (by omega)]); (repeat' (first | refine And.intro ?_ ?_ | exact .inl rfl | exact .inr rfl | exact .inr ⟨rfl, rfl⟩ | trivial | exact .inr (oblA rfl) | exact .inr ⟨rfl, oblA rfl⟩ | exact .inr bel_strs | exact .inr ⟨rfl, bel_strs⟩ | exact .inr ⟨by simp, bel_strs⟩ | (simp; done) | exact .inr ⟨rfl, by simp⟩ | exact .inr ⟨by simp, by simp⟩)); done)
        | (refine ⟨(k + 1, decide (x.time - y.time ≤ 10)), ?_, ⟨by show k + 1 ≤ i; omega, fnd_eq hy g3 (by assumption) (by assumption) (by assumption)⟩, by show i - (k + 1) < i - k; omega⟩
           (try simp only [go_sem]); (try rw [hwt]); (try rw [wrap64_id (by omega) (by omega)]); (repeat' (first | refine And.intro ?_ ?_ | exact .inl rfl | exact .inr rfl | exact .inr ⟨rfl, rfl⟩ | trivial | exact .inr (oblA rfl) | exact .inr ⟨rfl, oblA rfl⟩ | exact .inr bel_strs | exact .inr ⟨rfl, bel_strs⟩ | exact .inr ⟨by simp, bel_strs⟩ | (simp; done) | exact .inr ⟨rfl, by simp⟩ | exact .inr ⟨by simp, by simp⟩)); done))
    | (
        refine AWP.ret ?_
        refine AEnd.is ?_; simp only [go_sem, out_v, out_s, out_n, v_int, v_bool, v_str] <;> (first
        | rfl
        | (exfalso; rw [wrap_pred (by omega) (by omega)] at hb; have := hT.1 _ (by omega) hb; omega)
        | (exfalso; exact hT.2.1 k y (by omega) hy (by assumption))
        | (exfalso; have e : k = i := by omega
           subst e; exact found_not (hT.2.2.1 (by first | exact .inl (by assumption) | exact .inr (by assumption))) (by rw [← g3]; assumption))))
    | refine AWP.fin (by assumption) ?_)


end Go.Proofs.Ytlhdnenlgceeeaa
