import Derived.Test.YtlhdnenlgceeeaaQ11
import Derived.Test.YtlhdnenlgceeeaaBkO
set_option linter.unusedVariables false
set_option linter.unusedSimpArgs false
namespace Go.Proofs.Ytlhdnenlgceeeaa
open Go Go.Abs Go.RowKit Go.Bk
theorem cut_short {l : List Ex} {n : Nat} (f6 : ∀ k, k ≤ n → faultF (l.take k) = ((k : Int), 0)) (k : Nat) : k ≤ n → (faultF (l.take k)).1 = k ∧ (faultF (l.take k)).2 = 0 := fun h => by rw [f6 k h]; exact ⟨rfl, rfl⟩
theorem cut_long {l : List Ex} {n : Nat} (f7 : ∀ k, n < k → faultF (l.take k) = faultF l) (k : Nat) : n < k → (faultF (l.take k)).1 = (faultF l).1 ∧ (faultF (l.take k)).2 = (faultF l).2 := fun h => by rw [f7 k h]; exact ⟨rfl, rfl⟩
theorem later_cut {l : List Ex} {k n : Nat} (f2 : n ≤ l.length) (hk : k ≤ l.length) (f6 : ∀ k, k ≤ n → faultF (l.take k) = ((k : Int), 0)) : laterF (l.take (min k n)) (l.take n) = true := by
  have a1 : (l.take (min k n)).length = min k n := by rw [List.length_take]; omega
  have a2 : (l.take n).length = n := by rw [List.length_take]; omega
  have a3 : (l.take n).take (min k n) = l.take (min k n) := by rw [List.take_take]; congr 1; omega
  rw [later_ok (by omega) (by rw [a1, a3]) (by rw [f6 _ (by omega)]), f6 n (Nat.le_refl n)]; rfl

set_option maxHeartbeats 8000000 in
set_option maxRecDepth 8000 in
theorem prefix_c (l : List Ex) (u : UInt8) (hl : l.length ≤ 9223372036854775807) : ACalls E 11 [exsV l, u8 u] (fun r t => r = bl true ∧ t = []) := by -- checkroll/checkrolllaw15.RulePrefix
  refine ACalls.of_awp (n := 111) (rs := [.tmp 4]) Try.func11 rfl Try.ntmps11 rfl ?_
  repeat' (first
    | refine AWP.seqk fun K hK => ?_
    | (
        refine AWP.here 6 21 25 rfl ?_
        obtain ⟨n, f1, f2, f3, f4, f5, f6, f7, f8, f9⟩ := prefix_facts l
        simp only [f1]
        refine AWP.region ?_; simp only [go_sem])
    | (
        refine AWP.here 8 46 7 rfl ?_
        have hu := UInt8.toNat_lt u
        have hm : u.toNat % (l.length + 1) < l.length + 1 := Nat.mod_lt _ (Nat.succ_pos _)
        have e1 : IntKind.i64.wrap (u.toNat : Int) = u.toNat := wrap64_id (by omega) (by omega)
        have e2 : IntKind.i64.wrap ((l.length : Int) + 1) = (l.length : Int) + 1 := wrap64_id (by omega) (by omega)
        have e3 := rem_lt (u := u.toNat) (i := l.length) (by omega)
        have g1 := cut_short f6 (u.toNat % (l.length + 1))
        have g2 := cut_long f7 (u.toNat % (l.length + 1))
        have g3 := later_cut (l := l) (k := u.toNat % (l.length + 1)) f2 (by omega) f6
        have em : min (((u.toNat % (l.length + 1) : Nat)) : Int) (n : Int) = ((min (u.toNat % (l.length + 1)) n : Nat) : Int) := by omega
        refine AWP.region ?_; simp only [go_sem])
    | (
        refine AWP.here 9 53 9 rfl ?_
        (try rw [e1])
        (try rw [e2])
        (try rw [e3])
        refine AWP.region ?_; simp only [go_sem])
    | (
        refine AWP.here 13 90 22 rfl ?_
        refine AWP.regionO [0, 1, 2, 3, 4, 5, 6, 7, 8, 9, 10, 11, 12, 13, 14, 15, 16, 17, 18, 19, 20, 21] [] (by kernel_rfl) (by kernel_rfl) rfl ?_; simp only [go_sem, em, g3, Int.toNat_natCast])
    | (refine AWP.region ?_; simp only [go_sem])
    | (refine AWP.here 13 90 22 rfl ?_; refine AWP.regionO [0, 1, 2, 3, 4, 5, 6, 7, 8, 9, 10, 11, 12, 13, 14, 15, 16, 17, 18, 19, 20, 21] [] (by kernel_rfl) (by kernel_rfl) rfl ?_; simp only [go_sem])
    | (refine hK _ ?_; clear hK K)
    | refine AWP.block ?_
    | refine AWP.cond rfl (fun c => ?_) (fun c => ?_) <;> first | exact Bool.noConfusion c | (try simp only [dD] at c)
    | refine AWP.skip ?_
    | (refine AWP.exit ?_; simp only [go_sem])
    | (refine ACall.one (awake15_c) (by kernel_rfl) rfl ?_; simp only [go_sem])
    | (refine ACall.one (fault_c l (by omega)) (by kernel_rfl) rfl ?_; simp only [go_sem])
    | (refine ACall.one (fault_c (l.take (u.toNat % (l.length + 1))) (by rw [List.length_take]; omega)) (by kernel_rfl) rfl ?_; simp only [go_sem])
    | (refine ACall.one (ball_c (l.take n) (by rw [List.length_take]; omega)) (by kernel_rfl) rfl ?_; simp only [go_sem])
    | ((try simp only [em, Int.toNat_natCast]); refine ACall.one (later_c (l.take (min (u.toNat % (l.length + 1)) n)) (l.take n) (by rw [List.length_take]; omega) (by rw [List.length_take]; omega)) (by kernel_rfl) rfl ?_; (try simp only [g3]); simp only [go_sem])
    | (refine AGuard.splitN (fun h => ?_) (fun h => ?_) <;> simp only [h, go_sem] <;> (try simp only [dD] at h))
    | (refine AGuard.split (fun h => ?_) (fun h => ?_) <;> simp only [h, go_sem] <;> (try simp only [dD] at h))
    | (refine AGet.haveM (by assumption) ?_; (try simp only [go_sem]))
    | (refine AGet.have' (by assumption) ?_; (try simp only [go_sem]))
    | ((first | refine AGet.nth ?_ (fun b hb => ?_) | refine AGet.nth1 ?_ (fun b hb => ?_) | with_reducible refine And.intro ?_ ?_); (focus (first | omega | assumption | exact List.length_pos_iff.2 (by assumption) | (simp only [List.length_append, List.length_cons, List.length_nil, List.length_map, List.length_take, List.length_drop] at *; omega) | (rw [wrap64_id (by omega) (by omega)]; omega) | (simp; done) | (simp [spare_len]; done) | (exact ⟨by omega, by omega⟩))); (try simp only [hb, go_sem]))
    | (
        refine AWP.ret ?_
        refine AEnd.is ?_; simp only [go_sem, out_v, out_s, out_n, v_int, v_bool, v_str] <;> (first
        | rfl
        | (exfalso; omega)
        | (exfalso; exact h (decide_eq_decide.2 ⟨fun e => by have := f3.1 e; omega, fun e => f3.2 (by omega)⟩))
        | (exfalso; rename_i hd; exact hd (decide_eq_decide.2 ⟨fun e => by have := f3.1 e; omega, fun e => f3.2 (by omega)⟩))
        | (rw [g3]; done)
        | skip))
    | refine AWP.fin (by assumption) ?_)


end Go.Proofs.Ytlhdnenlgceeeaa
