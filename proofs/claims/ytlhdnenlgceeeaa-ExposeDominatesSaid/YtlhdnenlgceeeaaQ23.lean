import Derived.Test.YtlhdnenlgceeeaaQ22
import Derived.Test.YtlhdnenlgceeeaaQ20
import Derived.Test.YtlhdnenlgceeeaaQ10
import Derived.Test.YtlhdnenlgceeeaaBkW
set_option linter.unusedVariables false
set_option linter.unusedSimpArgs false
namespace Go.Proofs.Ytlhdnenlgceeeaa
open Go Go.Abs Go.RowKit Go.Bk
theorem no14_next {l : List Ex} {k e : Nat} {x : Ex} (hx : l[e]? = some x) (h : ∀ j y, k ≤ j → j < e → l[j]? = some y → ¬ y.kind = 1 ∧ ¬ y.kind = 4) (h1 : ¬ x.kind = 1) (h2 : ¬ x.kind = 4) : ∀ j y, k ≤ j → j < e + 1 → l[j]? = some y → ¬ y.kind = 1 ∧ ¬ y.kind = 4 := by
  intro j y a1 a2 a3
  by_cases e0 : j = e
  · subst e0; rw [hx] at a3; cases a3; exact ⟨h1, h2⟩
  · exact h j y a1 (by omega) a3

set_option maxHeartbeats 8000000 in
set_option maxRecDepth 8000 in
theorem dominates_c (l : List Ex) (u : UInt8) (hl : l.length ≤ 9223372036854775807) : ACalls E 12 [exsV l, u8 u] (fun r t => r = bl true ∧ t = []) := by -- checkroll/checkrolllaw16.ExposeDominates
  refine ACalls.of_awp (n := 113) (rs := [.tmp 4]) Try.func12 rfl Try.ntmps12 rfl ?_
  repeat' (first
    | refine AWP.seqk fun K hK => ?_
    | (
        refine AWP.here 6 25 6 rfl ?_
        obtain ⟨N, hn1, hn2, hn3, hn4⟩ := fault_spec l
        have hu := UInt8.toNat_lt u
        have hm : u.toNat % (N + 1) < N + 1 := Nat.mod_lt _ (Nat.succ_pos _)
        have e1 : IntKind.i64.wrap (u.toNat : Int) = u.toNat := wrap64_id (by omega) (by omega)
        have e2 : IntKind.i64.wrap ((N : Int) + 1) = (N : Int) + 1 := wrap64_id (by omega) (by omega)
        have e3 := rem_lt (u := u.toNat) (i := N) (by omega)
        have hal := allF_len (l.take (u.toNat % (N + 1)))
        have hll : (l.take (u.toNat % (N + 1))).length ≤ 40 := by rw [List.length_take]; omega
        simp only [hn1]
        refine AWP.region ?_; simp only [go_sem, e1, e2, e3])
    | (
        refine AWP.here 7 30 2 rfl ?_
        (try rw [e1])
        (try rw [e2])
        (try rw [e3])
        refine AWP.region ?_; simp only [go_sem])
    | (
        refine AWP.here 14 62 6 rfl ?_
        have haln := allF_len (l.take n)
        have hlln : (l.take n).length ≤ 40 := by rw [List.length_take]; omega
        refine AWP.region ?_; simp only [go_sem])
    | (
        refine AWP.here 18 71 14 rfl ?_
        obtain ⟨x, hb⟩ : ∃ x, l[i]? = some x := ⟨_, List.getElem?_eq_getElem (by omega)⟩
        refine AWP.regionO [0, 1, 2, 3, 4, 5, 6, 7, 8, 9, 10, 12, 11, 13] [13] (by kernel_rfl) (by kernel_rfl) rfl ?_; simp only [go_sem])
    | (
        refine AWP.here 20 95 18 rfl ?_
        have hD := dominates (acc := x.acc) (sym := x.sym) hn3 g1 (show n ≤ N by omega) hn2 (fun j y a1 a2 => h3 j y a1 (by omega))
        have hN := pos_num (allF (l.take n)) x.acc x.sym
        have hwq : IntKind.i64.wrap (0 - (posF (allF (l.take n)) x.acc x.sym).qty) = -(posF (allF (l.take n)) x.acc x.sym).qty := by rw [wrap64_id (by omega) (by omega)]; omega
        refine AWP.region ?_; simp only [go_sem, hwq])
    | (refine AWP.region ?_; simp only [go_sem])
    | (refine AWP.here 18 71 14 rfl ?_; refine AWP.regionO [0, 1, 2, 3, 4, 5, 6, 7, 8, 9, 10, 12, 11, 13] [13] (by kernel_rfl) (by kernel_rfl) rfl ?_; simp only [go_sem])
    | (refine AWP.here 19 83 14 rfl ?_; refine AWP.regionO [0, 1, 2, 3, 4, 5, 6, 7, 8, 9, 10, 12, 11, 13] [14] (by kernel_rfl) (by kernel_rfl) rfl ?_; simp only [go_sem])
    | (refine hK _ ?_; clear hK K)
    | refine AWP.block ?_
    | refine AWP.cond rfl (fun c => ?_) (fun c => ?_) <;> first | exact Bool.noConfusion c | (try simp only [dD] at c)
    | refine AWP.skip ?_
    | (refine AWP.exit ?_; simp only [go_sem])
    | (refine ACall.one (awake16_c) (by kernel_rfl) rfl ?_; simp only [go_sem])
    | (refine ACall.one (fault_c l (by omega)) (by kernel_rfl) rfl ?_; simp only [go_sem])
    | (refine ACall.one (ball_c (l.take (u.toNat % (N + 1))) (by rw [List.length_take]; omega)) (by kernel_rfl) rfl ?_; simp only [go_sem])
    | (refine ACall.one (ball_c (l.take n) (by rw [List.length_take]; omega)) (by kernel_rfl) rfl ?_; simp only [go_sem])
    | (refine ACall.one (eof_c (allF (l.take (u.toNat % (N + 1)))) x.acc x.sym (by omega) (by omega) (by omega)) (by kernel_rfl) rfl ?_; simp only [go_sem])
    | (refine ACall.one (lof_c (allF (l.take n)) x.acc x.sym (by omega) (by omega) (by omega)) (by kernel_rfl) rfl ?_; simp only [go_sem])
    | (refine AGuard.splitN (fun h => ?_) (fun h => ?_) <;> simp only [h, go_sem] <;> (try simp only [dD] at h))
    | (refine AGuard.split (fun h => ?_) (fun h => ?_) <;> simp only [h, go_sem] <;> (try simp only [dD] at h))
    | (refine AGet.haveM (by assumption) ?_; (try simp only [go_sem]))
    | (refine AGet.have' (by assumption) ?_; (try simp only [go_sem]))
    | ((first | refine AGet.nth ?_ (fun b hb => ?_) | refine AGet.nth1 ?_ (fun b hb => ?_) | with_reducible refine And.intro ?_ ?_); (focus (first | omega | assumption | exact List.length_pos_iff.2 (by assumption) | (simp only [List.length_append, List.length_cons, List.length_nil, List.length_map, List.length_take, List.length_drop] at *; omega) | (rw [wrap64_id (by omega) (by omega)]; omega) | (simp; done) | (simp [spare_len]; done) | (exact ⟨by omega, by omega⟩))); (try simp only [hb, go_sem]))
    | (
        refine AWP.here 8 31 19 rfl ?_
        refine AWP.loopN (ι := Nat) [31, 32, 33, 34, 35, 36, 37, 38, 39, 40, 41, 42, 43, 44, 45, 46, 47, 48, 49, 50, 51] (fun (e : Nat) => [(8, i64 e)]) (fun (e : Nat) => (u.toNat % (N + 1)) ≤ e ∧ e ≤ N ∧ ∀ j y, (u.toNat % (N + 1)) ≤ j → j < e → l[j]? = some y → ¬ y.kind = 1 ∧ ¬ y.kind = 4) (fun (e : Nat) => N - e) ((u.toNat % (N + 1))) ?_ ?_ ?_
        · (try simp only [go_sem]); (repeat' (first | refine And.intro ?_ ?_ | exact .inl rfl | exact .inr rfl | exact .inr ⟨rfl, rfl⟩ | trivial | exact .inr (oblA rfl) | exact .inr ⟨rfl, oblA rfl⟩ | exact .inr bel_strs | exact .inr ⟨rfl, bel_strs⟩ | exact .inr ⟨by simp, bel_strs⟩ | (simp; done) | exact .inr ⟨rfl, by simp⟩ | exact .inr ⟨by simp, by simp⟩)); done
        · exact ⟨Nat.le_refl _, by omega, fun j y a1 a2 => by omega⟩
        rintro e ⟨h1, h2, h3⟩
        simp only [go_sem])
    | (
        refine AWP.here 12 57 3 rfl ?_
        refine AWP.loopM (ι := Nat) [4, 11, 12, 13, 14, 57, 58, 59, 60, 61, 62, 63, 64, 65, 66, 67, 68, 69, 70, 71, 72, 73, 74, 75, 76, 77, 78, 79, 80, 81, 82, 83, 84, 85, 86, 87, 88, 89, 90, 91, 92, 93, 94, 95, 96, 97, 98, 99, 100, 101, 102, 103, 104, 105, 106, 107, 108, 109, 110, 111, 112] (fun (n : Nat) => [(10, i64 n)]) (fun (n : Nat) => [some [.agg [odsV (allF (l.take (u.toNat % (N + 1)))).orders, dnsV (allF (l.take (u.toNat % (N + 1)))).fills, .sl none 1 ((allF (l.take (u.toNat % (N + 1)))).ids.map str), i64 (allF (l.take (u.toNat % (N + 1)))).clock, i64 (allF (l.take (u.toNat % (N + 1)))).bad]]]) (fun (n : Nat) => []) (fun (n : Nat) => (u.toNat % (N + 1)) ≤ n ∧ n ≤ e + 1) (fun (n : Nat) => e + 1 - n) ((u.toNat % (N + 1))) ?_ ?_ ?_
        · (try simp only [go_sem]); (repeat' (first | refine And.intro ?_ ?_ | exact .inl rfl | exact .inr rfl | exact .inr ⟨rfl, rfl⟩ | trivial | exact .inr (oblA rfl) | exact .inr ⟨rfl, oblA rfl⟩ | exact .inr bel_strs | exact .inr ⟨rfl, bel_strs⟩ | exact .inr ⟨by simp, bel_strs⟩ | (simp; done) | exact .inr ⟨rfl, by simp⟩ | exact .inr ⟨by simp, by simp⟩)); done
        · exact ⟨Nat.le_refl _, by omega⟩
        rintro n ⟨g1, g2⟩
        simp only [go_sem])
    | (
        refine AWP.here 16 66 3 rfl ?_
        refine AWP.loopM (ι := Nat) [4, 13, 14, 66, 67, 68, 69, 70, 71, 72, 73, 74, 75, 76, 77, 78, 79, 80, 81, 82, 83, 84, 85, 86, 87, 88, 89, 90, 91, 92, 93, 94, 95, 96, 97, 98, 99, 100, 101, 102, 103, 104, 105, 106, 107, 108, 109, 110, 111, 112] (fun (i : Nat) => [(12, i64 i)]) (fun (i : Nat) => [some [.agg [odsV (allF (l.take (u.toNat % (N + 1)))).orders, dnsV (allF (l.take (u.toNat % (N + 1)))).fills, .sl none 1 ((allF (l.take (u.toNat % (N + 1)))).ids.map str), i64 (allF (l.take (u.toNat % (N + 1)))).clock, i64 (allF (l.take (u.toNat % (N + 1)))).bad]], some [.agg [odsV (allF (l.take n)).orders, dnsV (allF (l.take n)).fills, .sl none 1 ((allF (l.take n)).ids.map str), i64 (allF (l.take n)).clock, i64 (allF (l.take n)).bad]]]) (fun (i : Nat) => []) (fun (i : Nat) => i ≤ e) (fun (i : Nat) => e - i) (0) ?_ ?_ ?_
        · (try simp only [go_sem]); (repeat' (first | refine And.intro ?_ ?_ | exact .inl rfl | exact .inr rfl | exact .inr ⟨rfl, rfl⟩ | trivial | exact .inr (oblA rfl) | exact .inr ⟨rfl, oblA rfl⟩ | exact .inr bel_strs | exact .inr ⟨rfl, bel_strs⟩ | exact .inr ⟨by simp, bel_strs⟩ | (simp; done) | exact .inr ⟨rfl, by simp⟩ | exact .inr ⟨by simp, by simp⟩)); done
        · exact Nat.zero_le _
        rintro i f1
        simp only [go_sem])
    | (
        refine ⟨e + 1, ?_, ?_, ?_⟩
        · (try simp only [go_sem]); (try rw [wrap64_id (by omega) (by omega)]); (repeat' (first | refine And.intro ?_ ?_ | exact .inl rfl | exact .inr rfl | exact .inr ⟨rfl, rfl⟩ | trivial | exact .inr (oblA rfl) | exact .inr ⟨rfl, oblA rfl⟩ | exact .inr bel_strs | exact .inr ⟨rfl, bel_strs⟩ | exact .inr ⟨by simp, bel_strs⟩ | (simp; done) | exact .inr ⟨rfl, by simp⟩ | exact .inr ⟨by simp, by simp⟩)); done
        · exact ⟨by omega, by omega, no14_next hb h3 (by assumption) (by assumption)⟩
        · (try simp only []); omega)
    | (
        refine ⟨n + 1, ?_, ?_, ?_⟩
        · (try simp only [go_sem]); (try rw [wrap64_id (by omega) (by omega)]); (repeat' (first | refine And.intro ?_ ?_ | exact .inl rfl | exact .inr rfl | exact .inr ⟨rfl, rfl⟩ | trivial | exact .inr (oblA rfl) | exact .inr ⟨rfl, oblA rfl⟩ | exact .inr bel_strs | exact .inr ⟨rfl, bel_strs⟩ | exact .inr ⟨by simp, bel_strs⟩ | (simp; done) | exact .inr ⟨rfl, by simp⟩ | exact .inr ⟨by simp, by simp⟩)); done
        · exact ⟨by omega, by omega⟩
        · (try simp only []); omega)
    | (
        refine ⟨i + 1, ?_, ?_, ?_⟩
        · (try simp only [go_sem]); (try rw [wrap64_id (by omega) (by omega)]); (repeat' (first | refine And.intro ?_ ?_ | exact .inl rfl | exact .inr rfl | exact .inr ⟨rfl, rfl⟩ | trivial | exact .inr (oblA rfl) | exact .inr ⟨rfl, oblA rfl⟩ | exact .inr bel_strs | exact .inr ⟨rfl, bel_strs⟩ | exact .inr ⟨by simp, bel_strs⟩ | (simp; done) | exact .inr ⟨rfl, by simp⟩ | exact .inr ⟨by simp, by simp⟩)); done
        · omega
        · (try simp only []); omega)
    | (
        refine AWP.ret ?_
        refine AEnd.is ?_; simp only [go_sem, out_v, out_s, out_n, v_int, v_bool, v_str] <;> (first
        | rfl
        | (exfalso; have h4 := hD (by assumption); omega)
        | skip))
    | refine AWP.fin (by assumption) ?_)


end Go.Proofs.Ytlhdnenlgceeeaa
