import Derived.Test.YtobaignbahnjbaaDoorM0
import Derived.Test.YtobaignbahnjbaaDoorN3
set_option linter.unusedVariables false
set_option linter.unusedSimpArgs false
namespace Go.Proofs.YtobaignbahnjbaaDoor
open Go Go.Abs Go.RowKit Go.Bk Go.Msg
abbrev exOk (x : Ex) : Prop := x.id.length ≤ 9223372036854775807 ∧ x.ref.length ≤ 9223372036854775807 ∧ x.ord.length ≤ 9223372036854775807 ∧ x.acc.length ≤ 9223372036854775807 ∧ x.sym.length ≤ 9223372036854775807
theorem exec_kind {x : Ex} (h : x.kind < 1 ∨ 8 < x.kind) : execB x = false := by
  unfold execB; rw [if_neg (by omega), if_neg (by omega)]; simp
theorem exec_oth {x : Ex} (h1 : ¬ (x.kind = 4 ∨ x.kind = 7 ∨ x.kind = 8)) (h2 : 1 ≤ x.kind ∧ x.kind ≤ 8) : execB x = (nameB x.id && nameB x.ord && nameB x.acc && nameB x.sym && decide (x.ref = []) && smallB x.qty && smallB x.price && whenB x.time) := by
  unfold execB; rw [if_neg h1, if_pos (by omega)]

set_option maxHeartbeats 4000000 in
set_option maxRecDepth 8000 in
theorem msmall_c (n : Int) : ACalls E 27 [i64 n] (fun r t => r = bl (smallB n) ∧ t = []) := by -- checkroll/msg.small
  refine ACalls.of_awp (n := 9) (rs := [.tmp 2]) Tryd.func27 rfl Tryd.ntmps27 rfl ?_
  repeat' (first
    | refine AWP.seqk fun K hK => ?_
    | (refine AWP.region ?_; simp only [go_sem])
    | (refine hK _ ?_; clear hK K)
    | refine AWP.block ?_
    | refine AWP.cond rfl (fun c => ?_) (fun c => ?_) <;> first | exact Bool.noConfusion c | (try simp only [dD] at c)
    | refine AWP.skip ?_
    | (refine AWP.exit ?_; simp only [go_sem])
    | (refine AGuard.splitN (fun h => ?_) (fun h => ?_) <;> simp only [h, go_sem] <;> (try simp only [dD] at h))
    | (refine AGuard.split (fun h => ?_) (fun h => ?_) <;> simp only [h, go_sem] <;> (try simp only [dD] at h))
    | (refine AGet.haveM (by assumption) ?_; (try simp only [go_sem]))
    | (refine AGet.have' (by assumption) ?_; (try simp only [go_sem]))
    | ((first | refine AGet.nth ?_ (fun b hb => ?_) | refine AGet.nth1 ?_ (fun b hb => ?_) | with_reducible refine And.intro ?_ ?_); (focus (first | omega | assumption | exact List.length_pos_iff.2 (by assumption) | (simp only [List.length_append, List.length_cons, List.length_nil, List.length_map, List.length_take, List.length_drop] at *; omega) | (rw [wrap64_id (by omega) (by omega)]; omega) | (simp; done) | (simp [spare_len]; done) | (exact ⟨by omega, by omega⟩))); (try simp only [hb, go_sem]))
    | (
        refine AWP.ret ?_
        refine AEnd.is ?_; simp only [go_sem, out_v, out_s, out_n, v_int, v_bool, v_str] <;> (simp_all [smallB] <;> omega))
    | refine AWP.fin (by assumption) ?_
    | fail)

set_option maxHeartbeats 4000000 in
set_option maxRecDepth 8000 in
theorem mwhen_c (n : Int) : ACalls E 28 [i64 n] (fun r t => r = bl (whenB n) ∧ t = []) := by -- checkroll/msg.when
  refine ACalls.of_awp (n := 9) (rs := [.tmp 2]) Tryd.func28 rfl Tryd.ntmps28 rfl ?_
  repeat' (first
    | refine AWP.seqk fun K hK => ?_
    | (refine AWP.region ?_; simp only [go_sem])
    | (refine hK _ ?_; clear hK K)
    | refine AWP.block ?_
    | refine AWP.cond rfl (fun c => ?_) (fun c => ?_) <;> first | exact Bool.noConfusion c | (try simp only [dD] at c)
    | refine AWP.skip ?_
    | (refine AWP.exit ?_; simp only [go_sem])
    | (refine AGuard.splitN (fun h => ?_) (fun h => ?_) <;> simp only [h, go_sem] <;> (try simp only [dD] at h))
    | (refine AGuard.split (fun h => ?_) (fun h => ?_) <;> simp only [h, go_sem] <;> (try simp only [dD] at h))
    | (refine AGet.haveM (by assumption) ?_; (try simp only [go_sem]))
    | (refine AGet.have' (by assumption) ?_; (try simp only [go_sem]))
    | ((first | refine AGet.nth ?_ (fun b hb => ?_) | refine AGet.nth1 ?_ (fun b hb => ?_) | with_reducible refine And.intro ?_ ?_); (focus (first | omega | assumption | exact List.length_pos_iff.2 (by assumption) | (simp only [List.length_append, List.length_cons, List.length_nil, List.length_map, List.length_take, List.length_drop] at *; omega) | (rw [wrap64_id (by omega) (by omega)]; omega) | (simp; done) | (simp [spare_len]; done) | (exact ⟨by omega, by omega⟩))); (try simp only [hb, go_sem]))
    | (
        refine AWP.ret ?_
        refine AEnd.is ?_; simp only [go_sem, out_v, out_s, out_n, v_int, v_bool, v_str] <;> (simp_all [whenB] <;> omega))
    | refine AWP.fin (by assumption) ?_
    | fail)

set_option maxHeartbeats 4000000 in
set_option maxRecDepth 8000 in
theorem mname_c (s : List UInt8) : ACalls E 15 [str s] (fun r t => r = bl (nameB s) ∧ t = []) := by -- checkroll/msg.Name
  refine ACalls.of_awp (n := 45) (rs := [.tmp 2]) Tryd.func15 rfl Tryd.ntmps15 rfl ?_
  repeat' (first
    | refine AWP.seqk fun K hK => ?_
    | (refine AWP.region ?_; simp only [go_sem])
    | (refine hK _ ?_; clear hK K)
    | refine AWP.block ?_
    | refine AWP.cond rfl (fun c => ?_) (fun c => ?_) <;> first | exact Bool.noConfusion c | (try simp only [dD] at c)
    | refine AWP.skip ?_
    | (refine AWP.exit ?_; simp only [go_sem])
    | (refine AGuard.splitN (fun h => ?_) (fun h => ?_) <;> simp only [h, go_sem] <;> (try simp only [dD] at h))
    | (refine AGuard.split (fun h => ?_) (fun h => ?_) <;> simp only [h, go_sem] <;> (try simp only [dD] at h))
    | (refine AGet.haveM (by assumption) ?_; (try simp only [go_sem]))
    | (refine AGet.have' (by assumption) ?_; (try simp only [go_sem]))
    | ((first | refine AGet.nth ?_ (fun b hb => ?_) | refine AGet.nth1 ?_ (fun b hb => ?_) | with_reducible refine And.intro ?_ ?_); (focus (first | omega | assumption | exact List.length_pos_iff.2 (by assumption) | (simp only [List.length_append, List.length_cons, List.length_nil, List.length_map, List.length_take, List.length_drop] at *; omega) | (rw [wrap64_id (by omega) (by omega)]; omega) | (simp; done) | (simp [spare_len]; done) | (exact ⟨by omega, by omega⟩))); (try simp only [hb, go_sem]))
    | (
        refine AWP.here 4 16 1 rfl ?_
        refine AWP.loopN (ι := Nat) [2, 3, 4, 16, 17, 18, 19, 20, 21, 22, 23, 24, 25, 26, 27, 28, 29, 30, 31, 32, 33, 34, 35, 36, 37, 38, 39, 40, 41, 42, 43, 44] (fun (i : Nat) => [(15, i64 i)]) (fun (i : Nat) => i ≤ s.length ∧ s.length ≤ 16 ∧ (s.take i).all isName = true) (fun (i : Nat) => s.length - i) (0) ?_ ?_ ?_
        · (try simp only [go_sem]); (repeat' (first | refine And.intro ?_ ?_ | exact .inl rfl | exact .inr rfl | exact .inr ⟨rfl, rfl⟩ | trivial | exact .inr (oblA rfl) | exact .inr ⟨rfl, oblA rfl⟩ | exact .inr bel_strs | exact .inr ⟨rfl, bel_strs⟩ | exact .inr ⟨by simp, bel_strs⟩ | (simp; done) | exact .inr ⟨rfl, by simp⟩ | exact .inr ⟨by simp, by simp⟩)); done
        · exact ⟨by omega, by omega, by simp⟩
        rintro i ⟨h1, h2, h3⟩
        simp only [go_sem])
    | (
        refine ⟨i + 1, ?_, ?_, ?_⟩
        · (try simp only [go_sem]); (try rw [wrap64_id (by omega) (by omega)]); (repeat' (first | refine And.intro ?_ ?_ | exact .inl rfl | exact .inr rfl | exact .inr ⟨rfl, rfl⟩ | trivial | exact .inr (oblA rfl) | exact .inr ⟨rfl, oblA rfl⟩ | exact .inr bel_strs | exact .inr ⟨rfl, bel_strs⟩ | exact .inr ⟨by simp, bel_strs⟩ | (simp; done) | exact .inr ⟨rfl, by simp⟩ | exact .inr ⟨by simp, by simp⟩)); done
        · exact ⟨by omega, by omega, Go.Bk.all_next hb h3 (by simp only [isName]; simp; omega)⟩
        · (try simp only []); omega)
    | (
        refine AWP.ret ?_
        refine AEnd.is ?_; simp only [go_sem, out_v, out_s, out_n, v_int, v_bool, v_str] <;> (first
        | (rw [name_no1 (by omega)]; done)
        | (rw [name_no2 hb (by simp only [isName]; simp; omega)]; done)
        | (rw [name_yes (by omega) (by omega) h3]; done) | skip))
    | refine AWP.fin (by assumption) ?_
    | fail)

set_option maxHeartbeats 4000000 in
set_option maxRecDepth 8000 in
theorem mexec_c (x : Ex) : ACalls E 13 [exV x] (fun r t => r = bl (execB x) ∧ t = []) := by -- checkroll/msg.Exec
  refine ACalls.of_awp (n := 57) (rs := [.tmp 2]) Tryd.func13 rfl Tryd.ntmps13 rfl ?_
  repeat' (first
    | refine AWP.seqk fun K hK => ?_
    | (refine AWP.region ?_; simp only [go_sem])
    | (refine hK _ ?_; clear hK K)
    | refine AWP.block ?_
    | refine AWP.cond rfl (fun c => ?_) (fun c => ?_) <;> first | exact Bool.noConfusion c | (try simp only [dD] at c)
    | refine AWP.skip ?_
    | (refine AWP.exit ?_; simp only [go_sem])
    | (refine ACall.one (mname_c _) (by kernel_rfl) rfl ?_; simp only [go_sem])
    | (refine ACall.one (msmall_c _) (by kernel_rfl) rfl ?_; simp only [go_sem])
    | (refine ACall.one (mwhen_c _) (by kernel_rfl) rfl ?_; simp only [go_sem])
    | (refine AGuard.splitN (fun h => ?_) (fun h => ?_) <;> simp only [h, go_sem] <;> (try simp only [dD] at h))
    | (refine AGuard.split (fun h => ?_) (fun h => ?_) <;> simp only [h, go_sem] <;> (try simp only [dD] at h))
    | (refine AGet.haveM (by assumption) ?_; (try simp only [go_sem]))
    | (refine AGet.have' (by assumption) ?_; (try simp only [go_sem]))
    | ((first | refine AGet.nth ?_ (fun b hb => ?_) | refine AGet.nth1 ?_ (fun b hb => ?_) | with_reducible refine And.intro ?_ ?_); (focus (first | omega | assumption | exact List.length_pos_iff.2 (by assumption) | (simp only [List.length_append, List.length_cons, List.length_nil, List.length_map, List.length_take, List.length_drop] at *; omega) | (rw [wrap64_id (by omega) (by omega)]; omega) | (simp; done) | (simp [spare_len]; done) | (exact ⟨by omega, by omega⟩))); (try simp only [hb, go_sem]))
    | (
        refine AWP.ret ?_
        refine AEnd.is ?_; simp only [go_sem, out_v, out_s, out_n, v_int, v_bool, v_str] <;> (simp_all [execB]))
    | refine AWP.fin (by assumption) ?_
    | fail)

set_option maxHeartbeats 4000000 in
set_option maxRecDepth 8000 in
theorem r5small_c (n : Int) : ACalls E 30 [i64 n] (fun r t => r = bl (smallB n) ∧ t = []) := by -- checkroll/checkrollref05.small
  refine ACalls.of_awp (n := 9) (rs := [.tmp 2]) Tryd.func30 rfl Tryd.ntmps30 rfl ?_
  repeat' (first
    | refine AWP.seqk fun K hK => ?_
    | (refine AWP.region ?_; simp only [go_sem])
    | (refine hK _ ?_; clear hK K)
    | refine AWP.block ?_
    | refine AWP.cond rfl (fun c => ?_) (fun c => ?_) <;> first | exact Bool.noConfusion c | (try simp only [dD] at c)
    | refine AWP.skip ?_
    | (refine AWP.exit ?_; simp only [go_sem])
    | (refine AGuard.splitN (fun h => ?_) (fun h => ?_) <;> simp only [h, go_sem] <;> (try simp only [dD] at h))
    | (refine AGuard.split (fun h => ?_) (fun h => ?_) <;> simp only [h, go_sem] <;> (try simp only [dD] at h))
    | (refine AGet.haveM (by assumption) ?_; (try simp only [go_sem]))
    | (refine AGet.have' (by assumption) ?_; (try simp only [go_sem]))
    | ((first | refine AGet.nth ?_ (fun b hb => ?_) | refine AGet.nth1 ?_ (fun b hb => ?_) | with_reducible refine And.intro ?_ ?_); (focus (first | omega | assumption | exact List.length_pos_iff.2 (by assumption) | (simp only [List.length_append, List.length_cons, List.length_nil, List.length_map, List.length_take, List.length_drop] at *; omega) | (rw [wrap64_id (by omega) (by omega)]; omega) | (simp; done) | (simp [spare_len]; done) | (exact ⟨by omega, by omega⟩))); (try simp only [hb, go_sem]))
    | (
        refine AWP.ret ?_
        refine AEnd.is ?_; simp only [go_sem, out_v, out_s, out_n, v_int, v_bool, v_str] <;> (simp_all [smallB] <;> omega))
    | refine AWP.fin (by assumption) ?_
    | fail)

set_option maxHeartbeats 4000000 in
set_option maxRecDepth 8000 in
theorem r5time_c (n : Int) : ACalls E 31 [i64 n] (fun r t => r = bl (whenB n) ∧ t = []) := by -- checkroll/checkrollref05.time
  refine ACalls.of_awp (n := 9) (rs := [.tmp 2]) Tryd.func31 rfl Tryd.ntmps31 rfl ?_
  repeat' (first
    | refine AWP.seqk fun K hK => ?_
    | (refine AWP.region ?_; simp only [go_sem])
    | (refine hK _ ?_; clear hK K)
    | refine AWP.block ?_
    | refine AWP.cond rfl (fun c => ?_) (fun c => ?_) <;> first | exact Bool.noConfusion c | (try simp only [dD] at c)
    | refine AWP.skip ?_
    | (refine AWP.exit ?_; simp only [go_sem])
    | (refine AGuard.splitN (fun h => ?_) (fun h => ?_) <;> simp only [h, go_sem] <;> (try simp only [dD] at h))
    | (refine AGuard.split (fun h => ?_) (fun h => ?_) <;> simp only [h, go_sem] <;> (try simp only [dD] at h))
    | (refine AGet.haveM (by assumption) ?_; (try simp only [go_sem]))
    | (refine AGet.have' (by assumption) ?_; (try simp only [go_sem]))
    | ((first | refine AGet.nth ?_ (fun b hb => ?_) | refine AGet.nth1 ?_ (fun b hb => ?_) | with_reducible refine And.intro ?_ ?_); (focus (first | omega | assumption | exact List.length_pos_iff.2 (by assumption) | (simp only [List.length_append, List.length_cons, List.length_nil, List.length_map, List.length_take, List.length_drop] at *; omega) | (rw [wrap64_id (by omega) (by omega)]; omega) | (simp; done) | (simp [spare_len]; done) | (exact ⟨by omega, by omega⟩))); (try simp only [hb, go_sem]))
    | (
        refine AWP.ret ?_
        refine AEnd.is ?_; simp only [go_sem, out_v, out_s, out_n, v_int, v_bool, v_str] <;> (simp_all [whenB] <;> omega))
    | refine AWP.fin (by assumption) ?_
    | fail)

set_option maxHeartbeats 4000000 in
set_option maxRecDepth 8000 in
theorem r5name_c (s : List UInt8) (hs : s.length ≤ 9223372036854775807) : ACalls E 16 [str s] (fun r t => r = bl (nameB s) ∧ t = []) := by -- checkroll/checkrollref05.Name
  refine ACalls.of_awp (n := 47) (rs := [.tmp 2]) Tryd.func16 rfl Tryd.ntmps16 rfl ?_
  repeat' (first
    | refine AWP.seqk fun K hK => ?_
    | (refine AWP.region ?_; simp only [go_sem])
    | (refine hK _ ?_; clear hK K)
    | refine AWP.block ?_
    | refine AWP.cond rfl (fun c => ?_) (fun c => ?_) <;> first | exact Bool.noConfusion c | (try simp only [dD] at c)
    | refine AWP.skip ?_
    | (refine AWP.exit ?_; simp only [go_sem])
    | (refine AGuard.splitN (fun h => ?_) (fun h => ?_) <;> simp only [h, go_sem] <;> (try simp only [dD] at h))
    | (refine AGuard.split (fun h => ?_) (fun h => ?_) <;> simp only [h, go_sem] <;> (try simp only [dD] at h))
    | (refine AGet.haveM (by assumption) ?_; (try simp only [go_sem]))
    | (refine AGet.have' (by assumption) ?_; (try simp only [go_sem]))
    | ((first | refine AGet.nth ?_ (fun b hb => ?_) | refine AGet.nth1 ?_ (fun b hb => ?_) | with_reducible refine And.intro ?_ ?_); (focus (first | omega | assumption | exact List.length_pos_iff.2 (by assumption) | (simp only [List.length_append, List.length_cons, List.length_nil, List.length_map, List.length_take, List.length_drop] at *; omega) | (rw [wrap64_id (by omega) (by omega)]; omega) | (simp; done) | (simp [spare_len]; done) | (exact ⟨by omega, by omega⟩))); (try simp only [hb, go_sem]))
    | (
        refine AWP.here 2 5 4 rfl ?_
        refine AWP.loopN (ι := Nat) [2, 4, 5, 6, 7, 8, 9, 10, 11, 12, 13, 14, 15, 16, 17, 18, 19, 20, 21, 22, 23, 24, 25, 26, 27, 28, 29, 30, 31, 32, 33, 34, 35, 36, 37, 38] (fun (i : Nat) => [(3, i64 i)]) (fun (i : Nat) => i ≤ s.length ∧ (s.take i).all isName = true) (fun (i : Nat) => s.length - i) (0) ?_ ?_ ?_
        · (try simp only [go_sem]); (repeat' (first | refine And.intro ?_ ?_ | exact .inl rfl | exact .inr rfl | exact .inr ⟨rfl, rfl⟩ | trivial | exact .inr (oblA rfl) | exact .inr ⟨rfl, oblA rfl⟩ | exact .inr bel_strs | exact .inr ⟨rfl, bel_strs⟩ | exact .inr ⟨by simp, bel_strs⟩ | (simp; done) | exact .inr ⟨rfl, by simp⟩ | exact .inr ⟨by simp, by simp⟩)); done
        · exact ⟨by omega, by simp⟩
        rintro i ⟨h1, h2⟩
        simp only [go_sem])
    | (
        refine ⟨i + 1, ?_, ?_, ?_⟩
        · (try simp only [go_sem]); (try rw [wrap64_id (by omega) (by omega)]); (repeat' (first | refine And.intro ?_ ?_ | exact .inl rfl | exact .inr rfl | exact .inr ⟨rfl, rfl⟩ | trivial | exact .inr (oblA rfl) | exact .inr ⟨rfl, oblA rfl⟩ | exact .inr bel_strs | exact .inr ⟨rfl, bel_strs⟩ | exact .inr ⟨by simp, bel_strs⟩ | (simp; done) | exact .inr ⟨rfl, by simp⟩ | exact .inr ⟨by simp, by simp⟩)); done
        · exact ⟨by omega, Go.Bk.all_next hb h2 (by simp only [isName]; simp; omega)⟩
        · (try simp only []); omega)
    | (
        refine AWP.ret ?_
        refine AEnd.is ?_; simp only [go_sem, out_v, out_s, out_n, v_int, v_bool, v_str] <;> (first
        | (rw [name_no2 hb (by simp only [isName]; simp; omega)]; done)
        | (rw [List.take_of_length_le (by omega)] at h2; rw [Bool.eq_iff_iff]; simp [nameB, h2]; omega)))
    | refine AWP.fin (by assumption) ?_
    | fail)

set_option maxHeartbeats 4000000 in
set_option maxRecDepth 8000 in
theorem r5text_c (s : List UInt8) (hs : s.length ≤ 9223372036854775807) : ACalls E 32 [str s] (fun r t => r = bl (textR s) ∧ t = []) := by -- checkroll/checkrollref05.text
  refine ACalls.of_awp (n := 17) (rs := [.tmp 2]) Tryd.func32 rfl Tryd.ntmps32 rfl ?_
  repeat' (first
    | refine AWP.seqk fun K hK => ?_
    | (refine AWP.region ?_; simp only [go_sem])
    | (refine hK _ ?_; clear hK K)
    | refine AWP.block ?_
    | refine AWP.cond rfl (fun c => ?_) (fun c => ?_) <;> first | exact Bool.noConfusion c | (try simp only [dD] at c)
    | refine AWP.skip ?_
    | (refine AWP.exit ?_; simp only [go_sem])
    | (refine AGet.haveM (by assumption) ?_; (try simp only [go_sem]))
    | (refine AGet.have' (by assumption) ?_; (try simp only [go_sem]))
    | ((first | refine AGet.nth ?_ (fun b hb => ?_) | refine AGet.nth1 ?_ (fun b hb => ?_) | with_reducible refine And.intro ?_ ?_); (focus (first | omega | assumption | exact List.length_pos_iff.2 (by assumption) | (simp only [List.length_append, List.length_cons, List.length_nil, List.length_map, List.length_take, List.length_drop] at *; omega) | (rw [wrap64_id (by omega) (by omega)]; omega) | (simp; done) | (simp [spare_len]; done) | (exact ⟨by omega, by omega⟩))); (try simp only [hb, go_sem]))
    | (
        refine AWP.here 2 4 4 rfl ?_
        refine AWP.loopN (ι := Nat) [2, 4, 5, 6, 7, 8, 9, 10, 11, 12, 13] (fun (i : Nat) => [(3, i64 i)]) (fun (i : Nat) => i ≤ s.length ∧ (1 : UInt8) ∉ s.take i) (fun (i : Nat) => s.length - i) (0) ?_ ?_ ?_
        · (try simp only [go_sem]); (repeat' (first | refine And.intro ?_ ?_ | exact .inl rfl | exact .inr rfl | exact .inr ⟨rfl, rfl⟩ | trivial | exact .inr (oblA rfl) | exact .inr ⟨rfl, oblA rfl⟩ | exact .inr bel_strs | exact .inr ⟨rfl, bel_strs⟩ | exact .inr ⟨by simp, bel_strs⟩ | (simp; done) | exact .inr ⟨rfl, by simp⟩ | exact .inr ⟨by simp, by simp⟩)); done
        · exact ⟨by omega, by simp⟩
        rintro i ⟨h1, h2⟩
        simp only [go_sem])
    | (
        refine ⟨i + 1, ?_, ?_, ?_⟩
        · (try simp only [go_sem]); (try rw [wrap64_id (by omega) (by omega)]); (repeat' (first | refine And.intro ?_ ?_ | exact .inl rfl | exact .inr rfl | exact .inr ⟨rfl, rfl⟩ | trivial | exact .inr (oblA rfl) | exact .inr ⟨rfl, oblA rfl⟩ | exact .inr bel_strs | exact .inr ⟨rfl, bel_strs⟩ | exact .inr ⟨by simp, bel_strs⟩ | (simp; done) | exact .inr ⟨rfl, by simp⟩ | exact .inr ⟨by simp, by simp⟩)); done
        · exact ⟨by omega, Go.Fld.nmem_next hb h2 (Go.Fld.u8_ne (by assumption) rfl)⟩
        · (try simp only []); omega)
    | (
        refine AWP.ret ?_
        refine AEnd.is ?_; simp only [go_sem, out_v, out_s, out_n, v_int, v_bool, v_str] <;> (first
        | (unfold textR; rw [decide_eq_false (p := (1 : UInt8) ∉ s) (fun h => h (Go.Fld.mem_at hb (by assumption) rfl))]; rfl)
        | (rw [List.take_of_length_le (by omega)] at h2; unfold textR; rw [decide_eq_true (p := (1 : UInt8) ∉ s) h2, Bool.true_and]; first | rfl | (rw [Bool.eq_iff_iff]; simp; done) | (rw [Bool.eq_iff_iff]; simp; omega)) | skip))
    | refine AWP.fin (by assumption) ?_
    | fail)

set_option maxHeartbeats 4000000 in
set_option maxRecDepth 8000 in
theorem r5exec_c (x : Ex) (hx : exOk x) : ACalls E 14 [exV x] (fun r t => r = bl (execB x) ∧ t = []) := by -- checkroll/checkrollref05.Exec
  obtain ⟨hs1, hs2, hs3, hs4, hs5⟩ := hx
  refine ACalls.of_awp (n := 68) (rs := [.tmp 2]) Tryd.func14 rfl Tryd.ntmps14 rfl ?_
  repeat' (first
    | refine AWP.seqk fun K hK => ?_
    | (refine AWP.region ?_; simp only [go_sem])
    | (refine hK _ ?_; clear hK K)
    | refine AWP.block ?_
    | refine AWP.cond rfl (fun c => ?_) (fun c => ?_) <;> first | exact Bool.noConfusion c | (try simp only [dD] at c)
    | refine AWP.skip ?_
    | (refine AWP.exit ?_; simp only [go_sem])
    | (refine ACall.one (r5name_c _ (by assumption)) (by kernel_rfl) rfl ?_; simp only [go_sem])
    | (refine ACall.one (r5small_c _) (by kernel_rfl) rfl ?_; simp only [go_sem])
    | (refine ACall.one (r5time_c _) (by kernel_rfl) rfl ?_; simp only [go_sem])
    | (refine AGuard.splitN (fun h => ?_) (fun h => ?_) <;> simp only [h, go_sem] <;> (try simp only [dD] at h))
    | (refine AGuard.split (fun h => ?_) (fun h => ?_) <;> simp only [h, go_sem] <;> (try simp only [dD] at h))
    | (refine AGet.haveM (by assumption) ?_; (try simp only [go_sem]))
    | (refine AGet.have' (by assumption) ?_; (try simp only [go_sem]))
    | ((first | refine AGet.nth ?_ (fun b hb => ?_) | refine AGet.nth1 ?_ (fun b hb => ?_) | with_reducible refine And.intro ?_ ?_); (focus (first | omega | assumption | exact List.length_pos_iff.2 (by assumption) | (simp only [List.length_append, List.length_cons, List.length_nil, List.length_map, List.length_take, List.length_drop] at *; omega) | (rw [wrap64_id (by omega) (by omega)]; omega) | (simp; done) | (simp [spare_len]; done) | (exact ⟨by omega, by omega⟩))); (try simp only [hb, go_sem]))
    | (
        refine AWP.ret ?_
        refine AEnd.is ?_; simp only [go_sem, out_v, out_s, out_n, v_int, v_bool, v_str] <;> (first | (simp_all [execB]; done) | (rw [exec_kind (by omega)]; done) | (rw [exec_oth (by omega) (by omega)]; simp [*]; done)))
    | refine AWP.fin (by assumption) ?_
    | fail)

set_option maxHeartbeats 4000000 in
set_option maxRecDepth 8000 in
theorem msays_c (s : List UInt8) : ACalls E 29 [str s] (fun r t => r = bl (saysB s) ∧ t = []) := by -- checkroll/msg.says
  refine ACalls.of_awp (n := 11) (rs := [.tmp 2]) Tryd.func29 rfl Tryd.ntmps29 rfl ?_
  repeat' (first
    | refine AWP.seqk fun K hK => ?_
    | (refine AWP.region ?_; simp only [go_sem])
    | (refine hK _ ?_; clear hK K)
    | refine AWP.block ?_
    | refine AWP.cond rfl (fun c => ?_) (fun c => ?_) <;> first | exact Bool.noConfusion c | (try simp only [dD] at c)
    | refine AWP.skip ?_
    | (refine AWP.exit ?_; simp only [go_sem])
    | (refine ACall.one (sIndex_c s 1) (by kernel_rfl) rfl ?_; simp only [go_sem])
    | (refine AGuard.splitN (fun h => ?_) (fun h => ?_) <;> simp only [h, go_sem] <;> (try simp only [dD] at h))
    | (refine AGuard.split (fun h => ?_) (fun h => ?_) <;> simp only [h, go_sem] <;> (try simp only [dD] at h))
    | (refine AGet.haveM (by assumption) ?_; (try simp only [go_sem]))
    | (refine AGet.have' (by assumption) ?_; (try simp only [go_sem]))
    | ((first | refine AGet.nth ?_ (fun b hb => ?_) | refine AGet.nth1 ?_ (fun b hb => ?_) | with_reducible refine And.intro ?_ ?_); (focus (first | omega | assumption | exact List.length_pos_iff.2 (by assumption) | (simp only [List.length_append, List.length_cons, List.length_nil, List.length_map, List.length_take, List.length_drop] at *; omega) | (rw [wrap64_id (by omega) (by omega)]; omega) | (simp; done) | (simp [spare_len]; done) | (exact ⟨by omega, by omega⟩))); (try simp only [hb, go_sem]))
    | (
        refine AWP.ret ?_
        refine AEnd.is ?_; simp only [go_sem, out_v, out_s, out_n, v_int, v_bool, v_str] <;> (first | (simp only [saysB, Fld.index_neg]; rw [decide_eq_true (p := s.length ≤ 64) (by omega), Bool.true_and]; done) | (simp only [saysB, Fld.index_neg]; rw [decide_eq_false (p := s.length ≤ 64) (by omega), Bool.false_and]; done) | skip))
    | refine AWP.fin (by assumption) ?_
    | fail)


end Go.Proofs.YtobaignbahnjbaaDoor
