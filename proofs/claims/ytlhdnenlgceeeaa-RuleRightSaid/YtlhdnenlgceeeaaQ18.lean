import Derived.Test.YtlhdnenlgceeeaaQ17
import Derived.Test.YtlhdnenlgceeeaaQ11
import Derived.Test.YtlhdnenlgceeeaaBkR
set_option linter.unusedVariables false
set_option linter.unusedSimpArgs false
namespace Go.Proofs.Ytlhdnenlgceeeaa
open Go Go.Abs Go.RowKit Go.Bk
theorem no_next {l : List Ex} {k : Nat} {x y : Ex} (h : l[k]? = some y) (h2 : ∀ y ∈ l.take k, ¬ y.id = x.id) (h3 : ¬ y.id = x.id) : ∀ y ∈ l.take (k + 1), ¬ y.id = x.id := by
  rw [take_next h]
  intro z hz
  rcases List.mem_append.1 hz with hz | hz
  · exact h2 z hz
  · rw [List.mem_singleton.1 hz]; exact h3

set_option maxHeartbeats 8000000 in
set_option maxRecDepth 8000 in
theorem r15fault_c (l : List Ex) (hl : l.length ≤ 9223372036854775807) (hx : ∀ x ∈ l, exOk x) : ACalls E 32 [exsV l] (fun r t => r = .tup [i64 (faultF l).1, i64 (faultF l).2] ∧ t = []) := by -- checkroll/checkrollref15.Fault
  refine ACalls.of_awp (n := 53) (rs := [.tmp 2, .tmp 3]) Try.func32 rfl Try.ntmps32 rfl ?_
  repeat' (first
    | refine AWP.seqk fun K hK => ?_
    | (
        refine AWP.here 4 13 6 rfl ?_
        obtain ⟨x, hb⟩ : ∃ x, l[i]? = some x := ⟨_, List.getElem?_eq_getElem (by omega)⟩
        refine AWP.region ?_; simp only [go_sem])
    | (
        refine AWP.here 11 28 11 rfl ?_
        obtain ⟨y, hk⟩ : ∃ y, l[k]? = some y := ⟨_, List.getElem?_eq_getElem (by omega)⟩
        refine AWP.regionO [0, 1, 2, 3, 4, 5, 6, 7, 8, 9, 10] [] (by kernel_rfl) (by kernel_rfl) rfl ?_; simp only [go_sem])
    | (
        refine AWP.here 13 40 7 rfl ?_
        have hw : IntKind.i64.wrap ((i : Int) + 1) = (((i + 1 : Nat)) : Int) := by rw [wrap64_id (by omega) (by omega)]; simp
        rw [show k = i by omega] at g2
        refine AWP.region ?_; simp only [go_sem, hw, Int.toNat_natCast])
    | (refine AWP.region ?_; simp only [go_sem])
    | (refine AWP.here 11 28 11 rfl ?_; refine AWP.regionO [0, 1, 2, 3, 4, 5, 6, 7, 8, 9, 10] [] (by kernel_rfl) (by kernel_rfl) rfl ?_; simp only [go_sem])
    | (refine AWP.here 15 48 5 rfl ?_; refine AWP.regionO [0, 1, 2, 3, 4] [] (by kernel_rfl) (by kernel_rfl) rfl ?_; simp only [go_sem])
    | (refine hK _ ?_; clear hK K)
    | refine AWP.block ?_
    | refine AWP.cond rfl (fun c => ?_) (fun c => ?_) <;> first | exact Bool.noConfusion c | (try simp only [dD] at c)
    | refine AWP.skip ?_
    | (refine AWP.exit ?_; simp only [go_sem])
    | (refine ACall.one (r5exec_c x (hx x (List.mem_of_getElem? hb))) (by kernel_rfl) rfl ?_; simp only [go_sem])
    | (refine ACall.one (r12all_c (l.take (i + 1)) (by rw [List.length_take]; omega) (fun y hy => hx y (List.mem_of_mem_take hy))) (by kernel_rfl) rfl ?_; simp only [go_sem])
    | (refine AGet.haveM (by assumption) ?_; (try simp only [go_sem]))
    | (refine AGet.have' (by assumption) ?_; (try simp only [go_sem]))
    | ((first | refine AGet.nth ?_ (fun b hb => ?_) | refine AGet.nth1 ?_ (fun b hb => ?_) | with_reducible refine And.intro ?_ ?_); (focus (first | omega | assumption | exact List.length_pos_iff.2 (by assumption) | (simp only [List.length_append, List.length_cons, List.length_nil, List.length_map, List.length_take, List.length_drop] at *; omega) | (rw [wrap64_id (by omega) (by omega)]; omega) | (simp; done) | (simp [spare_len]; done) | (exact ⟨by omega, by omega⟩))); (try simp only [hb, go_sem]))
    | (
        refine AWP.here 2 7 4 rfl ?_
        refine AWP.loopM (ι := Nat) [2, 3, 5, 6, 7, 8, 9, 10, 11, 12, 13, 14, 15, 16, 17, 18, 19, 20, 21, 22, 23, 24, 25, 26, 27, 28, 29, 30, 31, 32, 33, 34, 35, 36, 37, 38, 39, 40, 41, 42, 43, 44, 45, 46, 47, 48, 49, 50] (fun (i : Nat) => [(4, i64 i)]) (fun (i : Nat) => []) (fun (i : Nat) => []) (fun (i : Nat) => i ≤ l.length ∧ i ≤ 256 ∧ Kept l i) (fun (i : Nat) => l.length - i) (0) ?_ ?_ ?_
        · (try simp only [go_sem]); (repeat' (first | refine And.intro ?_ ?_ | exact .inl rfl | exact .inr rfl | exact .inr ⟨rfl, rfl⟩ | trivial | exact .inr (oblA rfl) | exact .inr ⟨rfl, oblA rfl⟩ | exact .inr bel_strs | exact .inr ⟨rfl, bel_strs⟩ | exact .inr ⟨by simp, bel_strs⟩ | (simp; done) | exact .inr ⟨rfl, by simp⟩ | exact .inr ⟨by simp, by simp⟩)); done
        · exact ⟨Nat.zero_le _, by omega, Kept.zero l⟩
        rintro i ⟨h1, h2, h3⟩
        simp only [go_sem])
    | (
        refine AWP.here 9 23 3 rfl ?_
        refine AWP.loopM (ι := Nat) [2, 3, 23, 24, 25, 26, 27, 28, 29, 30, 31, 32, 33, 34, 35, 36, 37, 38, 39] (fun (k : Nat) => [(5, i64 k)]) (fun (k : Nat) => []) (fun (k : Nat) => []) (fun (k : Nat) => k ≤ i ∧ ∀ y ∈ l.take k, ¬ y.id = x.id) (fun (k : Nat) => i - k) (0) ?_ ?_ ?_
        · (try simp only [go_sem]); (repeat' (first | refine And.intro ?_ ?_ | exact .inl rfl | exact .inr rfl | exact .inr ⟨rfl, rfl⟩ | trivial | exact .inr (oblA rfl) | exact .inr ⟨rfl, oblA rfl⟩ | exact .inr bel_strs | exact .inr ⟨rfl, bel_strs⟩ | exact .inr ⟨by simp, bel_strs⟩ | (simp; done) | exact .inr ⟨rfl, by simp⟩ | exact .inr ⟨by simp, by simp⟩)); done
        · exact ⟨Nat.zero_le _, by simp⟩
        rintro k ⟨g1, g2⟩
        simp only [go_sem])
    | (
        refine ⟨i + 1, ?_, ?_, ?_⟩
        · (try simp only [go_sem]); (try rw [wrap64_id (by omega) (by omega)]); (repeat' (first | refine And.intro ?_ ?_ | exact .inl rfl | exact .inr rfl | exact .inr ⟨rfl, rfl⟩ | trivial | exact .inr (oblA rfl) | exact .inr ⟨rfl, oblA rfl⟩ | exact .inr bel_strs | exact .inr ⟨rfl, bel_strs⟩ | exact .inr ⟨by simp, bel_strs⟩ | (simp; done) | exact .inr ⟨rfl, by simp⟩ | exact .inr ⟨by simp, by simp⟩)); done
        · exact ⟨by omega, by omega, (kept_new hb h3 (by assumption) h1 (by omega) g2).1 (by assumption)⟩
        · (try simp only []); omega)
    | (
        refine ⟨k + 1, ?_, ?_, ?_⟩
        · (try simp only [go_sem]); (try rw [wrap64_id (by omega) (by omega)]); (repeat' (first | refine And.intro ?_ ?_ | exact .inl rfl | exact .inr rfl | exact .inr ⟨rfl, rfl⟩ | trivial | exact .inr (oblA rfl) | exact .inr ⟨rfl, oblA rfl⟩ | exact .inr bel_strs | exact .inr ⟨rfl, bel_strs⟩ | exact .inr ⟨by simp, bel_strs⟩ | (simp; done) | exact .inr ⟨rfl, by simp⟩ | exact .inr ⟨by simp, by simp⟩)); done
        · exact ⟨by omega, no_next hk g2 (by assumption)⟩
        · (try simp only []); omega)
    | (
        refine AWP.ret ?_
        refine AEnd.is ?_; simp only [go_sem, out_v, out_s, out_n, v_int, v_bool, v_str] <;> (first
        | (rw [kept_8 hb h3 (by assumption)]; done)
        | (rw [kept_full hb h3 (by assumption) h1 (by omega)]; done)
        | (rw [kept_dup hb h3 (by assumption) h1 (by omega) (by omega) hk (by assumption)]; done)
        | (rw [(kept_new hb h3 (by assumption) h1 (by omega) g2).2 (by assumption)]; done)
        | (rw [kept_end h3 h1 (by omega)]; done)
        | (rw [kept_8 hb h3 (by assumption)]; simp; done)
        | (rw [kept_full hb h3 (by assumption) h1 (by omega)]; simp; done)
        | (rw [kept_dup hb h3 (by assumption) h1 (by omega) (by omega) hk (by assumption)]; simp; done)
        | (rw [(kept_new hb h3 (by assumption) h1 (by omega) g2).2 (by assumption)]; simp; done)
        | (rw [kept_end h3 h1 (by omega)]; simp; done)
        | skip))
    | refine AWP.fin (by assumption) ?_)

set_option maxHeartbeats 4000000 in
set_option maxRecDepth 8000 in
theorem r15begins_c (p q : List Ex) (hp : p.length ≤ 9223372036854775807) (hq : q.length ≤ 9223372036854775807) : ACalls E 35 [exsV p, exsV q] (fun r t => r = bl (beginsF p q) ∧ t = []) := by -- checkroll/checkrollref15.Begins
  refine ACalls.of_awp (n := 26) (rs := [.tmp 4]) Try.func35 rfl Try.ntmps35 rfl ?_
  repeat' (first
    | refine AWP.seqk fun K hK => ?_
    | (refine AWP.region ?_; simp only [go_sem])
    | (refine AWP.here 6 17 9 rfl ?_; refine AWP.regionO [0, 1, 2, 3, 4, 5, 6, 7, 8] [] (by kernel_rfl) (by kernel_rfl) rfl ?_; simp only [go_sem])
    | (refine hK _ ?_; clear hK K)
    | refine AWP.block ?_
    | refine AWP.cond rfl (fun c => ?_) (fun c => ?_) <;> first | exact Bool.noConfusion c | (try simp only [dD] at c)
    | refine AWP.skip ?_
    | (refine AWP.exit ?_; simp only [go_sem])
    | (refine AGet.haveM (by assumption) ?_; (try simp only [go_sem]))
    | (refine AGet.have' (by assumption) ?_; (try simp only [go_sem]))
    | ((first | refine AGet.nth ?_ (fun b hb => ?_) | refine AGet.nth1 ?_ (fun b hb => ?_) | with_reducible refine And.intro ?_ ?_); (focus (first | omega | assumption | exact List.length_pos_iff.2 (by assumption) | (simp only [List.length_append, List.length_cons, List.length_nil, List.length_map, List.length_take, List.length_drop] at *; omega) | (rw [wrap64_id (by omega) (by omega)]; omega) | (simp; done) | (simp [spare_len]; done) | (exact ⟨by omega, by omega⟩))); (try simp only [hb, go_sem]))
    | (
        refine AWP.here 4 11 4 rfl ?_
        refine AWP.loopN (ι := Nat) [4, 11, 12, 13, 14, 15, 16, 17, 18, 19, 20, 21, 22, 23, 24, 25] (fun (i : Nat) => [(5, i64 i)]) (fun (i : Nat) => i ≤ p.length ∧ p.length ≤ q.length ∧ p.take i = q.take i) (fun (i : Nat) => p.length - i) (0) ?_ ?_ ?_
        · (try simp only [go_sem]); (repeat' (first | refine And.intro ?_ ?_ | exact .inl rfl | exact .inr rfl | exact .inr ⟨rfl, rfl⟩ | trivial | exact .inr (oblA rfl) | exact .inr ⟨rfl, oblA rfl⟩ | exact .inr bel_strs | exact .inr ⟨rfl, bel_strs⟩ | exact .inr ⟨by simp, bel_strs⟩ | (simp; done) | exact .inr ⟨rfl, by simp⟩ | exact .inr ⟨by simp, by simp⟩)); done
        · exact ⟨by omega, by omega, by simp⟩
        rintro i ⟨h1, h2, h3⟩
        simp only [go_sem])
    | (
        refine ⟨i + 1, ?_, ?_, ?_⟩
        · (try simp only [go_sem]); (try rw [wrap64_id (by omega) (by omega)]); (repeat' (first | refine And.intro ?_ ?_ | exact .inl rfl | exact .inr rfl | exact .inr ⟨rfl, rfl⟩ | trivial | exact .inr (oblA rfl) | exact .inr ⟨rfl, oblA rfl⟩ | exact .inr bel_strs | exact .inr ⟨rfl, bel_strs⟩ | exact .inr ⟨by simp, bel_strs⟩ | (simp; done) | exact .inr ⟨rfl, by simp⟩ | exact .inr ⟨by simp, by simp⟩)); done
        · exact ⟨by omega, by omega, eq_next (a := p) (b := q) (by assumption) (by assumption) (by exact ex_eq (by assumption)) h3⟩
        · (try simp only []); omega)
    | (
        refine AWP.ret ?_
        refine AEnd.is ?_; simp only [go_sem, out_v, out_s, out_n, v_int, v_bool, v_str] <;> (first
        | (rw [begins_no1 (by omega)]; done)
        | (rw [begins_no2 (p := p) (q := q) (by assumption) (by assumption) (by exact ex_ne (by assumption))]; done)
        | (rw [begins_yes h2 (by omega) h1 h3]; done)
        | skip))
    | refine AWP.fin (by assumption) ?_)

set_option maxHeartbeats 8000000 in
set_option maxRecDepth 8000 in
theorem rright_c (p q : List Ex) (hp : p.length ≤ 9223372036854775807) (hq : q.length ≤ 9223372036854775807) (hxp : ∀ x ∈ p, exOk x) (hxq : ∀ x ∈ q, exOk x) : ACalls E 9 [exsV p, exsV q] (fun r t => r = bl true ∧ t = []) := by -- checkroll/checkrolllaw15.RuleRight
  refine ACalls.of_awp (n := 68) (rs := [.tmp 4]) Try.func9 rfl Try.ntmps9 rfl ?_
  repeat' (first
    | refine AWP.seqk fun K hK => ?_
    | (refine AWP.region ?_; simp only [go_sem])
    | (refine hK _ ?_; clear hK K)
    | refine AWP.block ?_
    | refine AWP.cond rfl (fun c => ?_) (fun c => ?_) <;> first | exact Bool.noConfusion c | (try simp only [dD] at c)
    | refine AWP.skip ?_
    | (refine AWP.exit ?_; simp only [go_sem])
    | (refine ACall.one (awake15_c) (by kernel_rfl) rfl ?_; simp only [go_sem])
    | (refine ACall.one (fault_c p hp) (by kernel_rfl) rfl ?_; simp only [go_sem])
    | (refine ACall.one (r15fault_c p hp hxp) (by kernel_rfl) rfl ?_; simp only [go_sem])
    | (refine ACall.one (r15fault_c q hq hxq) (by kernel_rfl) rfl ?_; simp only [go_sem])
    | (refine ACall.one (keeps_c p hp) (by kernel_rfl) rfl ?_; simp only [go_sem])
    | (refine ACall.one (later_c p q hp hq) (by kernel_rfl) rfl ?_; simp only [go_sem])
    | (refine ACall.one (r15begins_c p q hp hq) (by kernel_rfl) rfl ?_; simp only [go_sem])
    | (refine AGuard.splitN (fun h => ?_) (fun h => ?_) <;> simp only [h, go_sem] <;> (try simp only [dD] at h))
    | (refine AGuard.split (fun h => ?_) (fun h => ?_) <;> simp only [h, go_sem] <;> (try simp only [dD] at h))
    | (refine AGet.haveM (by assumption) ?_; (try simp only [go_sem]))
    | (refine AGet.have' (by assumption) ?_; (try simp only [go_sem]))
    | ((first | refine AGet.nth ?_ (fun b hb => ?_) | refine AGet.nth1 ?_ (fun b hb => ?_) | with_reducible refine And.intro ?_ ?_); (focus (first | omega | assumption | exact List.length_pos_iff.2 (by assumption) | (simp only [List.length_append, List.length_cons, List.length_nil, List.length_map, List.length_take, List.length_drop] at *; omega) | (rw [wrap64_id (by omega) (by omega)]; omega) | (simp; done) | (simp [spare_len]; done) | (exact ⟨by omega, by omega⟩))); (try simp only [hb, go_sem]))
    | (
        refine AWP.ret ?_
        refine AEnd.is ?_; simp only [go_sem, out_v, out_s, out_n, v_int, v_bool, v_str] <;> (first | (simp [laterF, beginsF, *]; done) | (simp [laterF, beginsF]; done) | skip))
    | refine AWP.fin (by assumption) ?_)


end Go.Proofs.Ytlhdnenlgceeeaa
