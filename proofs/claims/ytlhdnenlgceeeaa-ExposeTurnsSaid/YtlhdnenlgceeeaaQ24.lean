import Derived.Test.YtlhdnenlgceeeaaQ22
import Derived.Test.YtlhdnenlgceeeaaQ3
import Derived.Test.YtlhdnenlgceeeaaLm
import Derived.Test.YtlhdnenlgceeeaaFacts3
set_option linter.unusedVariables false
set_option linter.unusedSimpArgs false
namespace Go.Proofs.Ytlhdnenlgceeeaa
open Go Go.Abs Go.RowKit Go.Bk
abbrev nmV (x : Bs × Bs) : AV := .agg [str x.1, str x.2]
theorem all_same {l : List (Bs × Bs)} {p x y : Bs × Bs} {i j : Nat} (h : ∀ x ∈ l, x = p) (h1 : l[i]? = some x) (h2 : l[j]? = some y) : x = y := (h x (List.mem_of_getElem? h1)).trans (h y (List.mem_of_getElem? h2)).symm

set_option maxHeartbeats 4000000 in
set_option maxRecDepth 8000 in
theorem blen64_c  : ACalls E 119 [.v (.int .u64 2)] (fun r t => r = i64 2 ∧ t = []) := by -- math/bits.Len64
  refine ACalls.of_awp (n := 25) (rs := [.tmp 2]) Try.func119 rfl Try.ntmps119 rfl ?_
  repeat' (first
    | refine AWP.seqk fun K hK => ?_
    | (refine AWP.region ?_; simp only [go_sem])
    | (refine hK _ ?_; clear hK K)
    | refine AWP.block ?_
    | refine AWP.cond rfl (fun c => ?_) (fun c => ?_) <;> first | exact Bool.noConfusion c | (try simp only [dD] at c)
    | refine AWP.skip ?_
    | (refine AWP.exit ?_; simp only [go_sem])
    | (refine AGet.haveM (by assumption) ?_; (try simp only [go_sem]))
    | (refine AGet.have' (by assumption) ?_; (try simp only [go_sem]))
    | ((first | refine AGet.nth ?_ (fun b hb => ?_) | refine AGet.nth1 ?_ (fun b hb => ?_) | with_reducible refine And.intro ?_ ?_); (focus (first | omega | assumption | exact List.length_pos_iff.2 (by assumption) | (simp only [List.length_append, List.length_cons, List.length_nil, List.length_map, List.length_take, List.length_drop] at *; omega) | (rw [wrap64_id (by omega) (by omega)]; omega) | (simp; done) | (simp [spare_len]; done) | (exact ⟨by omega, by omega⟩))); (try simp only [hb, go_sem]))
    | (
        refine AWP.ret ?_
        refine AEnd.is ?_; simp only [go_sem, out_v, out_s, out_n, v_int, v_bool, v_str] <;> (first | rfl | (simp; done) | skip))
    | (refine ⟨_, by rfl, ?_⟩; simp only [go_sem])
    | refine AWP.fin (by assumption) ?_)

set_option maxHeartbeats 4000000 in
set_option maxRecDepth 8000 in
theorem blen_c  : ACalls E 76 [.v (.int .u64 2)] (fun r t => r = i64 2 ∧ t = []) := by -- math/bits.Len
  refine ACalls.of_awp (n := 8) (rs := [.tmp 2]) Try.func76 rfl Try.ntmps76 rfl ?_
  repeat' (first
    | refine AWP.seqk fun K hK => ?_
    | (refine AWP.region ?_; simp only [go_sem])
    | (refine hK _ ?_; clear hK K)
    | refine AWP.block ?_
    | refine AWP.cond rfl (fun c => ?_) (fun c => ?_) <;> first | exact Bool.noConfusion c | (try simp only [dD] at c)
    | refine AWP.skip ?_
    | (refine AWP.exit ?_; simp only [go_sem])
    | (refine ACall.one (blen64_c) (by kernel_rfl) rfl ?_; simp only [go_sem])
    | (refine AGet.haveM (by assumption) ?_; (try simp only [go_sem]))
    | (refine AGet.have' (by assumption) ?_; (try simp only [go_sem]))
    | ((first | refine AGet.nth ?_ (fun b hb => ?_) | refine AGet.nth1 ?_ (fun b hb => ?_) | with_reducible refine And.intro ?_ ?_); (focus (first | omega | assumption | exact List.length_pos_iff.2 (by assumption) | (simp only [List.length_append, List.length_cons, List.length_nil, List.length_map, List.length_take, List.length_drop] at *; omega) | (rw [wrap64_id (by omega) (by omega)]; omega) | (simp; done) | (simp [spare_len]; done) | (exact ⟨by omega, by omega⟩))); (try simp only [hb, go_sem]))
    | (
        refine AWP.ret ?_
        refine AEnd.is ?_; simp only [go_sem, out_v, out_s, out_n, v_int, v_bool, v_str] <;> (first | rfl | (simp; done) | skip))
    | (refine ⟨_, by rfl, ?_⟩; simp only [go_sem])
    | refine AWP.fin (by assumption) ?_)

set_option maxHeartbeats 4000000 in
set_option maxRecDepth 8000 in
theorem ccmp_c (s u : Bs) (h : s = u) : ACalls E 95 [str s, str u] (fun r t => r = i64 0 ∧ t = []) := by -- cmp.Compare[string]
  subst h
  refine ACalls.of_awp (n := 20) (rs := [.tmp 4]) Try.func95 rfl Try.ntmps95 rfl ?_
  repeat' (first
    | refine AWP.seqk fun K hK => ?_
    | (refine AWP.region ?_; simp only [go_sem, Go.Proofs.bytesLess_eq])
    | (refine hK _ ?_; clear hK K)
    | refine AWP.block ?_
    | refine AWP.cond rfl (fun c => ?_) (fun c => ?_) <;> first | exact Bool.noConfusion c | (try simp only [dD] at c)
    | refine AWP.skip ?_
    | (refine AWP.exit ?_; simp only [go_sem, Go.Proofs.bytesLess_eq])
    | (refine ACall.one (cnan_c _) (by kernel_rfl) rfl ?_; simp only [go_sem, Go.Proofs.bytesLess_eq])
    | (refine AGet.haveM (by assumption) ?_; (try simp only [go_sem, Go.Proofs.bytesLess_eq]))
    | (refine AGet.have' (by assumption) ?_; (try simp only [go_sem, Go.Proofs.bytesLess_eq]))
    | ((first | refine AGet.nth ?_ (fun b hb => ?_) | refine AGet.nth1 ?_ (fun b hb => ?_) | with_reducible refine And.intro ?_ ?_); (focus (first | omega | assumption | exact List.length_pos_iff.2 (by assumption) | (simp only [List.length_append, List.length_cons, List.length_nil, List.length_map, List.length_take, List.length_drop] at *; omega) | (rw [wrap64_id (by omega) (by omega)]; omega) | (simp; done) | (simp [spare_len]; done) | (exact ⟨by omega, by omega⟩))); (try simp only [hb, go_sem, Go.Proofs.bytesLess_eq]))
    | (
        refine AWP.ret ?_
        refine AEnd.is ?_; simp only [go_sem, out_v, out_s, out_n, v_int, v_bool, v_str] <;> (first | rfl | (exfalso; exact List.lt_irrefl _ (by assumption)) | (exfalso; simp_all; done) | skip))
    | refine AWP.fin (by assumption) ?_)

set_option maxHeartbeats 4000000 in
set_option maxRecDepth 8000 in
theorem cor_c (l : List Int) (hl : l.length ≤ 1000) (h : ∀ x ∈ l, x = 0) : ACalls E 94 [.sl none 1 (l.map i64)] (fun r t => r = i64 0 ∧ t = []) := by -- cmp.Or[int]
  refine ACalls.of_awp (n := 18) (rs := [.tmp 2]) Try.func94 rfl Try.ntmps94 rfl ?_
  repeat' (first
    | refine AWP.seqk fun K hK => ?_
    | (
        refine AWP.here 4 10 3 rfl ?_
        obtain ⟨y, hy⟩ : ∃ y, l[i]? = some y := ⟨_, List.getElem?_eq_getElem (by omega)⟩
        have hy0 := h y (List.mem_of_getElem? hy)
        subst hy0
        refine AWP.region ?_; simp only [go_sem])
    | (refine AWP.region ?_; simp only [go_sem])
    | (refine hK _ ?_; clear hK K)
    | refine AWP.block ?_
    | refine AWP.cond rfl (fun c => ?_) (fun c => ?_) <;> first | exact Bool.noConfusion c | (try simp only [dD] at c)
    | refine AWP.skip ?_
    | (refine AWP.exit ?_; simp only [go_sem])
    | (refine AGet.haveM (by assumption) ?_; (try simp only [go_sem]))
    | (refine AGet.have' (by assumption) ?_; (try simp only [go_sem]))
    | ((first | refine AGet.nth ?_ (fun b hb => ?_) | refine AGet.nth1 ?_ (fun b hb => ?_) | with_reducible refine And.intro ?_ ?_); (focus (first | omega | assumption | exact List.length_pos_iff.2 (by assumption) | (simp only [List.length_append, List.length_cons, List.length_nil, List.length_map, List.length_take, List.length_drop] at *; omega) | (rw [wrap64_id (by omega) (by omega)]; omega) | (simp; done) | (simp [spare_len]; done) | (exact ⟨by omega, by omega⟩))); (try simp only [hb, go_sem]))
    | (
        refine AWP.here 3 9 1 rfl ?_
        refine AWP.loopN (ι := Nat) [2, 5, 9, 10, 11, 12, 13, 14, 15, 16] (fun (i : Nat) => [(8, i64 i)]) (fun (i : Nat) => i ≤ l.length) (fun (i : Nat) => l.length - i) (0) ?_ ?_ ?_
        · (try simp only [go_sem]); (repeat' (first | refine And.intro ?_ ?_ | exact .inl rfl | exact .inr rfl | exact .inr ⟨rfl, rfl⟩ | trivial | exact .inr (oblA rfl) | exact .inr ⟨rfl, oblA rfl⟩ | exact .inr bel_strs | exact .inr ⟨rfl, bel_strs⟩ | exact .inr ⟨by simp, bel_strs⟩ | (simp; done) | exact .inr ⟨rfl, by simp⟩ | exact .inr ⟨by simp, by simp⟩)); done
        · exact Nat.zero_le _
        rintro i h1
        simp only [go_sem])
    | (
        refine ⟨i + 1, ?_, ?_, ?_⟩
        · (try simp only [go_sem]); (try rw [wrap64_id (by omega) (by omega)]); (repeat' (first | refine And.intro ?_ ?_ | exact .inl rfl | exact .inr rfl | exact .inr ⟨rfl, rfl⟩ | trivial | exact .inr (oblA rfl) | exact .inr ⟨rfl, oblA rfl⟩ | exact .inr bel_strs | exact .inr ⟨rfl, bel_strs⟩ | exact .inr ⟨by simp, bel_strs⟩ | (simp; done) | exact .inr ⟨rfl, by simp⟩ | exact .inr ⟨by simp, by simp⟩)); done
        · omega
        · (try simp only []); omega)
    | (
        refine AWP.ret ?_
        refine AEnd.is ?_; simp only [go_sem, out_v, out_s, out_n, v_int, v_bool, v_str] <;> (first | rfl | (exfalso; omega) | skip))
    | refine AWP.fin (by assumption) ?_)

set_option maxHeartbeats 4000000 in
set_option maxRecDepth 8000 in
theorem cmpn_c (x y : Bs × Bs) (h : x = y) : ACalls E 93 [nmV x, nmV y] (fun r t => r = i64 0 ∧ t = []) := by -- checkroll/ledger.All$1
  subst h
  refine ACalls.of_awp (n := 17) (rs := [.tmp 4]) Try.func93 rfl Try.ntmps93 rfl ?_
  repeat' (first
    | refine AWP.seqk fun K hK => ?_
    | (refine AWP.region ?_; simp only [go_sem])
    | (refine AWP.here 1 5 13 rfl ?_; refine AWP.regionO [0, 1, 2, 3, 5, 6, 7, 8, 4, 9, 10, 11, 12] [] (by kernel_rfl) (by kernel_rfl) rfl ?_; simp only [go_sem])
    | (refine hK _ ?_; clear hK K)
    | refine AWP.block ?_
    | refine AWP.cond rfl (fun c => ?_) (fun c => ?_) <;> first | exact Bool.noConfusion c | (try simp only [dD] at c)
    | refine AWP.skip ?_
    | (refine AWP.exit ?_; simp only [go_sem])
    | (refine ACall.one (ccmp_c x.1 x.1 rfl) (by kernel_rfl) rfl ?_; simp only [go_sem])
    | (refine ACall.one (ccmp_c x.2 x.2 rfl) (by kernel_rfl) rfl ?_; simp only [go_sem])
    | (refine ACall.one (cor_c [0, 0] (by simp) (by simp)) (by kernel_rfl) rfl ?_; simp only [go_sem])
    | (refine AGet.haveM (by assumption) ?_; (try simp only [go_sem]))
    | (refine AGet.have' (by assumption) ?_; (try simp only [go_sem]))
    | ((first | refine AGet.nth ?_ (fun b hb => ?_) | refine AGet.nth1 ?_ (fun b hb => ?_) | with_reducible refine And.intro ?_ ?_); (focus (first | omega | assumption | exact List.length_pos_iff.2 (by assumption) | (simp only [List.length_append, List.length_cons, List.length_nil, List.length_map, List.length_take, List.length_drop] at *; omega) | (rw [wrap64_id (by omega) (by omega)]; omega) | (simp; done) | (simp [spare_len]; done) | (exact ⟨by omega, by omega⟩))); (try simp only [hb, go_sem]))
    | (
        refine AWP.ret ?_
        refine AEnd.is ?_; simp only [go_sem, out_v, out_s, out_n, v_int, v_bool, v_str] <;> (first | rfl | skip))
    | refine AWP.fin (by assumption) ?_)

set_option maxHeartbeats 4000000 in
set_option maxRecDepth 8000 in
theorem isort_c (l : List (Bs × Bs)) (p : Bs × Bs) (hl : l.length = 2) (ha : ∀ x ∈ l, x = p) : ACalls E 140 [.sl none 2 (l.map nmV), i64 0, i64 2, .fn 93 []] (fun r t => r = .tup [] ∧ t = []) := by -- slices.insertionSortCmpFunc[checkroll/ledger.name]
  refine ACalls.of_awp (n := 53) (rs := []) Try.func140 rfl Try.ntmps140 rfl ?_
  repeat' (first
    | refine AWP.seqk fun K hK => ?_
    | (
        refine AWP.here 4 18 17 rfl ?_
        have hwj : IntKind.i64.wrap ((j : Int) - 1) = ((j - 1 : Nat) : Int) := by rw [wrap64_id (by omega) (by omega)]; omega
        refine AWP.regionO [0, 1, 2, 3, 4, 5, 6, 7, 8, 9, 10, 11, 12, 13, 14, 15, 16] [] (by kernel_rfl) (by kernel_rfl) rfl ?_; simp only [go_sem, hwj, Int.toNat_natCast])
    | (refine AWP.region ?_; simp only [go_sem])
    | (refine AWP.here 4 18 17 rfl ?_; refine AWP.regionO [0, 1, 2, 3, 4, 5, 6, 7, 8, 9, 10, 11, 12, 13, 14, 15, 16] [] (by kernel_rfl) (by kernel_rfl) rfl ?_; simp only [go_sem])
    | (refine AWP.here 6 37 18 rfl ?_; refine AWP.regionO [0, 1, 2, 3, 4, 5, 6, 7, 8, 9, 10, 11, 12, 13, 14, 15, 16, 17] [] (by kernel_rfl) (by kernel_rfl) rfl ?_; simp only [go_sem])
    | (refine hK _ ?_; clear hK K)
    | refine AWP.block ?_
    | refine AWP.cond rfl (fun c => ?_) (fun c => ?_) <;> first | exact Bool.noConfusion c | (try simp only [dD] at c)
    | refine AWP.skip ?_
    | (refine AWP.exit ?_; simp only [go_sem])
    | (refine ACall.one (cmpn_c _ _ (all_same ha (by assumption) (by assumption))) (by kernel_rfl) rfl ?_; simp only [go_sem])
    | (refine AGuard.splitN (fun h => ?_) (fun h => ?_) <;> simp only [h, go_sem] <;> (try simp only [dD] at h))
    | (refine AGuard.split (fun h => ?_) (fun h => ?_) <;> simp only [h, go_sem] <;> (try simp only [dD] at h))
    | (refine AGet.haveM (by assumption) ?_; (try simp only [go_sem]))
    | (refine AGet.have' (by assumption) ?_; (try simp only [go_sem]))
    | ((first | refine AGet.nth ?_ (fun b hb => ?_) | refine AGet.nth1 ?_ (fun b hb => ?_) | with_reducible refine And.intro ?_ ?_); (focus (first | omega | assumption | exact List.length_pos_iff.2 (by assumption) | (simp only [List.length_append, List.length_cons, List.length_nil, List.length_map, List.length_take, List.length_drop] at *; omega) | (rw [wrap64_id (by omega) (by omega)]; omega) | (simp; done) | (simp [spare_len]; done) | (exact ⟨by omega, by omega⟩))); (try simp only [hb, go_sem]))
    | (
        refine AWP.here 1 12 3 rfl ?_
        refine AWP.loopN (ι := Nat) [9, 12, 13, 14, 15, 16, 17, 18, 19, 20, 21, 22, 23, 24, 25, 26, 27, 28, 29, 30, 31, 32, 33, 34, 35, 36, 37, 38, 39, 40, 41, 42, 43, 44, 45, 46, 47, 48, 49, 50, 51, 52] (fun (i : Nat) => [(8, i64 i)]) (fun (i : Nat) => 1 ≤ i ∧ i ≤ 2) (fun (i : Nat) => 2 - i) (1) ?_ ?_ ?_
        · (try simp only [go_sem]); (repeat' (first | refine And.intro ?_ ?_ | exact .inl rfl | exact .inr rfl | exact .inr ⟨rfl, rfl⟩ | trivial | exact .inr (oblA rfl) | exact .inr ⟨rfl, oblA rfl⟩ | exact .inr bel_strs | exact .inr ⟨rfl, bel_strs⟩ | exact .inr ⟨by simp, bel_strs⟩ | (simp; done) | exact .inr ⟨rfl, by simp⟩ | exact .inr ⟨by simp, by simp⟩)); done
        · exact ⟨by omega, by omega⟩
        rintro i ⟨h1, h2⟩
        simp only [go_sem])
    | (
        refine AWP.here 4 18 17 rfl ?_
        refine AWP.loopN (ι := Nat) [18, 19, 20, 21, 22, 23, 24, 25, 26, 27, 28, 29, 30, 31, 32, 33, 34, 35, 36, 37, 38, 39, 40, 41, 42, 43, 44, 45, 46, 47, 48, 49, 50, 51, 52] (fun (j : Nat) => [(9, i64 j)]) (fun (j : Nat) => 1 ≤ j ∧ j ≤ 2 ∧ j < 2) (fun (j : Nat) => 2 - j) (i) ?_ ?_ ?_
        · (try simp only [go_sem]); (repeat' (first | refine And.intro ?_ ?_ | exact .inl rfl | exact .inr rfl | exact .inr ⟨rfl, rfl⟩ | trivial | exact .inr (oblA rfl) | exact .inr ⟨rfl, oblA rfl⟩ | exact .inr bel_strs | exact .inr ⟨rfl, bel_strs⟩ | exact .inr ⟨by simp, bel_strs⟩ | (simp; done) | exact .inr ⟨rfl, by simp⟩ | exact .inr ⟨by simp, by simp⟩)); done
        · exact ⟨by omega, by omega, by omega⟩
        rintro j ⟨g1, g2, g3⟩
        simp only [go_sem])
    | (
        refine ⟨i + 1, ?_, ?_, ?_⟩
        · (try simp only [go_sem]); (try rw [wrap64_id (by omega) (by omega)]); (repeat' (first | refine And.intro ?_ ?_ | exact .inl rfl | exact .inr rfl | exact .inr ⟨rfl, rfl⟩ | trivial | exact .inr (oblA rfl) | exact .inr ⟨rfl, oblA rfl⟩ | exact .inr bel_strs | exact .inr ⟨rfl, bel_strs⟩ | exact .inr ⟨by simp, bel_strs⟩ | (simp; done) | exact .inr ⟨rfl, by simp⟩ | exact .inr ⟨by simp, by simp⟩)); done
        · exact ⟨by omega, by omega⟩
        · (try simp only []); omega)
    | (
        refine ⟨j + 1, ?_, ?_, ?_⟩
        · (try simp only [go_sem]); (try rw [wrap64_id (by omega) (by omega)]); (repeat' (first | refine And.intro ?_ ?_ | exact .inl rfl | exact .inr rfl | exact .inr ⟨rfl, rfl⟩ | trivial | exact .inr (oblA rfl) | exact .inr ⟨rfl, oblA rfl⟩ | exact .inr bel_strs | exact .inr ⟨rfl, bel_strs⟩ | exact .inr ⟨by simp, bel_strs⟩ | (simp; done) | exact .inr ⟨rfl, by simp⟩ | exact .inr ⟨by simp, by simp⟩)); done
        · exact ⟨by omega, by omega, by omega⟩
        · (try simp only []); omega)
    | (
        refine AWP.ret ?_
        refine AEnd.is ?_; simp only [go_sem, out_v, out_s, out_n, v_int, v_bool, v_str] <;> (first | rfl | (simp; done) | skip))
    | exact ⟨[], .tup [], rfl, trivial, rfl, rfl⟩
    | refine AWP.fin (by assumption) ?_)

set_option maxHeartbeats 4000000 in
set_option maxRecDepth 8000 in
theorem pdq_c (l : List (Bs × Bs)) (p : Bs × Bs) (hl : l.length = 2) (ha : ∀ x ∈ l, x = p) : ACalls E 126 [.sl none 2 (l.map nmV), i64 0, i64 2, i64 2, .fn 93 []] (fun r t => r = .tup [] ∧ t = []) := by -- slices.pdqsortCmpFunc[checkroll/ledger.name]
  refine ACalls.of_awp (n := 148) (rs := []) Try.func126 rfl Try.ntmps126 rfl ?_
  repeat' (first
    | refine AWP.seqk fun K hK => ?_
    | (refine AWP.region ?_; simp only [go_sem])
    | (refine AWP.here 17 81 17 rfl ?_; refine AWP.regionO [0, 1, 2, 3, 4, 5, 6, 7, 8, 9, 10, 11, 12, 13, 14, 15, 16] [] (by kernel_rfl) (by kernel_rfl) rfl ?_; simp only [go_sem])
    | (refine hK _ ?_; clear hK K)
    | refine AWP.block ?_
    | refine AWP.cond rfl (fun c => ?_) (fun c => ?_) <;> first | exact Bool.noConfusion c | (try simp only [dD] at c)
    | refine AWP.skip ?_
    | (refine AWP.exit ?_; simp only [go_sem])
    | (refine ACall.one (isort_c l p hl ha) (by kernel_rfl) rfl ?_; simp only [go_sem])
    | (refine ACall.one (pdq_c ) (by kernel_rfl) rfl ?_; simp only [go_sem])
    | (refine AGuard.splitN (fun h => ?_) (fun h => ?_) <;> simp only [h, go_sem] <;> (try simp only [dD] at h))
    | (refine AGuard.split (fun h => ?_) (fun h => ?_) <;> simp only [h, go_sem] <;> (try simp only [dD] at h))
    | (refine AGet.haveM (by assumption) ?_; (try simp only [go_sem]))
    | (refine AGet.have' (by assumption) ?_; (try simp only [go_sem]))
    | ((first | refine AGet.nth ?_ (fun b hb => ?_) | refine AGet.nth1 ?_ (fun b hb => ?_) | with_reducible refine And.intro ?_ ?_); (focus (first | omega | assumption | exact List.length_pos_iff.2 (by assumption) | (simp only [List.length_append, List.length_cons, List.length_nil, List.length_map, List.length_take, List.length_drop] at *; omega) | (rw [wrap64_id (by omega) (by omega)]; omega) | (simp; done) | (simp [spare_len]; done) | (exact ⟨by omega, by omega⟩))); (try simp only [hb, go_sem]))
    | (
        refine AWP.here 2 21 4 rfl ?_
        refine AWP.loopN (ι := Nat) [12, 13, 14, 15, 16, 17, 18, 19, 20, 21, 22, 23, 24, 25, 26, 27, 28, 29, 30, 31, 32, 33, 34, 35, 36, 37, 38, 39, 40, 41, 42, 43, 44, 45, 46, 47, 48, 49, 50, 51, 52, 53, 54, 55, 56, 57, 58, 59, 60, 61, 62, 63, 64, 65, 66, 67, 68, 69, 70, 71, 72, 73, 74, 75, 76, 77, 78, 79, 80, 81, 82, 83, 84, 85, 86, 87, 88, 89, 90, 91, 92, 93, 94, 95, 96, 97, 98, 99, 100, 101, 102, 103, 104, 105, 106, 107, 108, 109, 110, 111, 112, 113, 114, 115, 116, 117, 118, 119, 120, 121, 122, 123, 124, 125, 126, 127, 128, 129, 130, 131, 132, 133, 134, 135, 136, 137, 138, 139, 140, 141, 142, 143, 144, 145, 146, 147] (fun (z : Nat) => [(1, i64 0), (2, i64 2), (3, i64 2), (10, bl true), (11, bl true)]) (fun (z : Nat) => z = 0) (fun (z : Nat) => z) (0) ?_ ?_ ?_
        · (try simp only [go_sem]); (repeat' (first | refine And.intro ?_ ?_ | exact .inl rfl | exact .inr rfl | exact .inr ⟨rfl, rfl⟩ | trivial | exact .inr (oblA rfl) | exact .inr ⟨rfl, oblA rfl⟩ | exact .inr bel_strs | exact .inr ⟨rfl, bel_strs⟩ | exact .inr ⟨by simp, bel_strs⟩ | (simp; done) | exact .inr ⟨rfl, by simp⟩ | exact .inr ⟨by simp, by simp⟩)); done
        · rfl
        rintro z hz
        simp only [go_sem])
    | (
        refine ⟨i + 1, ?_, ?_, ?_⟩
        · (try simp only [go_sem]); (try rw [wrap64_id (by omega) (by omega)]); (repeat' (first | refine And.intro ?_ ?_ | exact .inl rfl | exact .inr rfl | exact .inr ⟨rfl, rfl⟩ | trivial | exact .inr (oblA rfl) | exact .inr ⟨rfl, oblA rfl⟩ | exact .inr bel_strs | exact .inr ⟨rfl, bel_strs⟩ | exact .inr ⟨by simp, bel_strs⟩ | (simp; done) | exact .inr ⟨rfl, by simp⟩ | exact .inr ⟨by simp, by simp⟩)); done
        · omega
        · (try simp only []); omega)
    | (
        refine AWP.ret ?_
        exact ⟨[], .tup [], rfl, trivial, rfl, rfl⟩)
    | exact ⟨[], .tup [], rfl, trivial, rfl, rfl⟩
    | (exfalso; omega)
    | refine AWP.fin (by assumption) ?_)

set_option maxHeartbeats 4000000 in
set_option maxRecDepth 8000 in
theorem sortf_c (l : List (Bs × Bs)) (p : Bs × Bs) (hl : l.length = 2) (ha : ∀ x ∈ l, x = p) : ACalls E 92 [.sl none 2 (l.map nmV), .fn 93 []] (fun r t => r = .tup [] ∧ t = []) := by -- slices.SortFunc[[]checkroll/ledger.name,checkroll/ledger.name]
  have hw2 : IntKind.u64.wrap 2 = 2 := by decide
  refine ACalls.of_awp (n := 14) (rs := []) Try.func92 rfl Try.ntmps92 rfl ?_
  repeat' (first
    | refine AWP.seqk fun K hK => ?_
    | (
        refine AWP.here 0 5 3 rfl ?_
        rw [hl]
        refine AWP.region ?_; simp only [go_sem, hw2])
    | (refine AWP.region ?_; simp only [go_sem, hw2])
    | (refine hK _ ?_; clear hK K)
    | refine AWP.block ?_
    | refine AWP.cond rfl (fun c => ?_) (fun c => ?_) <;> first | exact Bool.noConfusion c | (try simp only [dD] at c)
    | refine AWP.skip ?_
    | (refine AWP.exit ?_; simp only [go_sem, hw2])
    | (refine ACall.one (blen_c) (by kernel_rfl) rfl ?_; simp only [go_sem, hw2])
    | (refine ACall.one (pdq_c l p hl ha) (by kernel_rfl) rfl ?_; simp only [go_sem, hw2])
    | (refine AGet.haveM (by assumption) ?_; (try simp only [go_sem, hw2]))
    | (refine AGet.have' (by assumption) ?_; (try simp only [go_sem, hw2]))
    | ((first | refine AGet.nth ?_ (fun b hb => ?_) | refine AGet.nth1 ?_ (fun b hb => ?_) | with_reducible refine And.intro ?_ ?_); (focus (first | omega | assumption | exact List.length_pos_iff.2 (by assumption) | (simp only [List.length_append, List.length_cons, List.length_nil, List.length_map, List.length_take, List.length_drop] at *; omega) | (rw [wrap64_id (by omega) (by omega)]; omega) | (simp; done) | (simp [spare_len]; done) | (exact ⟨by omega, by omega⟩))); (try simp only [hb, go_sem, hw2]))
    | (
        refine AWP.ret ?_
        refine AEnd.is ?_; simp only [go_sem, out_v, out_s, out_n, v_int, v_bool, v_str] <;> (first | rfl | (simp; done) | skip))
    | exact ⟨[], .tup [], rfl, trivial, rfl, rfl⟩
    | (rw [hl]; simp only [go_sem, hw2])
    | refine AWP.fin (by assumption) ?_)


end Go.Proofs.Ytlhdnenlgceeeaa
