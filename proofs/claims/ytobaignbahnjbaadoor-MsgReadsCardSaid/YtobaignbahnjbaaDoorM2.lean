import Derived.Test.YtobaignbahnjbaaDoorM1
import Derived.Test.YtobaignbahnjbaaDoorN8
set_option linter.unusedVariables false
set_option linter.unusedSimpArgs false
namespace Go.Proofs.YtobaignbahnjbaaDoor
open Go Go.Abs Go.RowKit Go.Bk Go.Msg
abbrev mgOk (m : Mg) : Prop := m.text.length ≤ 9223372036854775807 ∧ exOk m.exec

set_option maxHeartbeats 4000000 in
set_option maxRecDepth 8000 in
theorem mright_c (bs : List UInt8) : ACalls E 20 [bytesV bs] (fun r t => r = bl (Fld.rightB bs) ∧ t = []) := by -- checkroll/frame.Right
  refine ACalls.of_awp (n := 37) (rs := [.tmp 2]) Tryd.func20 rfl Tryd.ntmps20 rfl ?_
  repeat' (first
    | refine AWP.seqk fun K hK => ?_
    | (refine AWP.region ?_; simp only [go_sem])
    | (refine hK _ ?_; clear hK K)
    | refine AWP.block ?_
    | refine AWP.cond rfl (fun c => ?_) (fun c => ?_) <;> first | exact Bool.noConfusion c | (try simp only [dD] at c)
    | refine AWP.skip ?_
    | (refine AWP.exit ?_; simp only [go_sem])
    | (refine ACall.of (fparse_c _) (by kernel_rfl) rfl ?_; rintro r t ⟨rfl, rfl⟩; simp only [go_sem])
    | (refine AGuard.splitN (fun h => ?_) (fun h => ?_) <;> simp only [h, go_sem] <;> (try simp only [dD] at h))
    | (refine AGuard.split (fun h => ?_) (fun h => ?_) <;> simp only [h, go_sem] <;> (try simp only [dD] at h))
    | (refine AGet.haveM (by assumption) ?_; (try simp only [go_sem]))
    | (refine AGet.have' (by assumption) ?_; (try simp only [go_sem]))
    | ((first | refine AGet.nth ?_ (fun b hb => ?_) | refine AGet.nth1 ?_ (fun b hb => ?_) | with_reducible refine And.intro ?_ ?_); (focus (first | omega | assumption | exact List.length_pos_iff.2 (by assumption) | (simp only [List.length_append, List.length_cons, List.length_nil, List.length_map, List.length_take, List.length_drop] at *; omega) | (rw [wrap64_id (by omega) (by omega)]; omega) | (simp; done) | (simp [spare_len]; done) | (exact ⟨by omega, by omega⟩))); (try simp only [hb, go_sem]))
    | (
        refine AWP.here 7 25 1 rfl ?_
        refine AWP.loopM (ι := Nat) [2, 6, 25, 26, 27, 28, 29, 30, 31, 32, 33, 34, 35, 36] (fun (i : Nat) => [(24, i64 i)]) (fun (i : Nat) => []) (fun (i : Nat) => [(Fld.parseL bs).1.length]) (fun (i : Nat) => 1 ≤ bs.length ∧ bs.length ≤ 8000 ∧ i ≤ (Fld.parseL bs).1.length ∧ ((Fld.parseL bs).1.take i).all (fun f => !(decide (8 ≤ f.1) && decide (f.1 ≤ 10))) = true) (fun (i : Nat) => (Fld.parseL bs).1.length - i) (0) ?_ ?_ ?_
        · (try simp only [go_sem]); (repeat' (first | refine And.intro ?_ ?_ | exact .inl rfl | exact .inr rfl | exact .inr ⟨rfl, rfl⟩ | trivial | exact .inr (oblA rfl) | exact .inr ⟨rfl, oblA rfl⟩ | exact .inr bel_strs | exact .inr ⟨rfl, bel_strs⟩ | exact .inr ⟨by simp, bel_strs⟩ | (simp; done) | exact .inr ⟨rfl, by simp⟩ | exact .inr ⟨by simp, by simp⟩)); done
        · exact ⟨by omega, by omega, by omega, by simp⟩
        rintro i ⟨hb1, hb2, h1, h2⟩
        simp only [go_sem]
        have hpl := Go.Fld.parseL_len bs)
    | (
        refine ⟨i + 1, ?_, ?_, ?_⟩
        · (try simp only [go_sem]); (try rw [wrap64_id (by omega) (by omega)]); (repeat' (first | refine And.intro ?_ ?_ | exact .inl rfl | exact .inr rfl | exact .inr ⟨rfl, rfl⟩ | trivial | exact .inr (oblA rfl) | exact .inr ⟨rfl, oblA rfl⟩ | exact .inr bel_strs | exact .inr ⟨rfl, bel_strs⟩ | exact .inr ⟨by simp, bel_strs⟩ | (simp; done) | exact .inr ⟨rfl, by simp⟩ | exact .inr ⟨by simp, by simp⟩)); done
        · exact ⟨by omega, by omega, by omega, by rw [Go.Fld.take_next (by assumption), List.all_append, h2]; simp; omega⟩
        · (try simp only []); omega)
    | (
        refine AWP.ret ?_
        refine AEnd.is ?_; simp only [go_sem, out_v, out_s, out_n, v_int, v_bool, v_str] <;> (first
        | (rw [Go.Fld.right_no1 (by omega)]; done)
        | (rw [Go.Fld.right_no2 (by assumption)]; done)
        | (rw [Go.Fld.right_no3 (by assumption) (by omega) (by omega)]; done)
        | (rw [Go.Fld.right_yes hb1 hb2 (by assumption) (by omega) h2]; done)
        | skip))
    | refine AWP.fin (by assumption) ?_
    | fail)

set_option maxHeartbeats 4000000 in
set_option maxRecDepth 8000 in
theorem bequal_c (a b : List UInt8) : ACalls E 34 [bytesV a, bytesV b] (fun r t => r = bl (decide (a = b)) ∧ t = []) := by -- bytes.Equal
  refine ACalls.of_awp (n := 10) (rs := [.tmp 4]) Tryd.func34 rfl Tryd.ntmps34 rfl ?_
  repeat' (first
    | refine AWP.seqk fun K hK => ?_
    | (refine AWP.region ?_; simp only [go_sem])
    | (refine hK _ ?_; clear hK K)
    | refine AWP.block ?_
    | refine AWP.cond rfl (fun c => ?_) (fun c => ?_) <;> first | exact Bool.noConfusion c | (try simp only [dD] at c)
    | refine AWP.skip ?_
    | (refine AWP.exit ?_; simp only [go_sem])
    | (refine AGet.haveM (by assumption) ?_; (try simp only [go_sem]))
    | (refine AGet.have' (by assumption) ?_; (try simp only [go_sem]))
    | ((first | refine AGet.nth ?_ (fun b hb => ?_) | refine AGet.nth1 ?_ (fun b hb => ?_) | with_reducible refine And.intro ?_ ?_); (focus (first | omega | assumption | exact List.length_pos_iff.2 (by assumption) | (simp only [List.length_append, List.length_cons, List.length_nil, List.length_map, List.length_take, List.length_drop] at *; omega) | (rw [wrap64_id (by omega) (by omega)]; omega) | (simp; done) | (simp [spare_len]; done) | (exact ⟨by omega, by omega⟩))); (try simp only [hb, go_sem]))
    | (
        refine AWP.ret ?_
        refine AEnd.is ?_; simp only [go_sem, out_v, out_s, out_n, v_int, v_bool, v_str] <;> (simp []))
    | refine AWP.fin (by assumption) ?_
    | fail)

set_option maxHeartbeats 4000000 in
set_option maxRecDepth 8000 in
theorem r5num_c (tag n : Int) : ACalls E 25 [i64 tag, i64 n] (fun r t => r = fldV (tag, Fld.showF n) ∧ t = []) := by -- checkroll/checkrollref05.num
  refine ACalls.of_awp (n := 9) (rs := [.cell 4 46]) Tryd.func25 rfl Tryd.ntmps25 rfl ?_
  repeat' (first
    | refine AWP.seqk fun K hK => ?_
    | (refine AWP.region ?_; simp only [go_sem])
    | (refine hK _ ?_; clear hK K)
    | refine AWP.block ?_
    | refine AWP.cond rfl (fun c => ?_) (fun c => ?_) <;> first | exact Bool.noConfusion c | (try simp only [dD] at c)
    | refine AWP.skip ?_
    | (refine AWP.exit ?_; simp only [go_sem])
    | (refine ACall.one (r1show_c n) (by kernel_rfl) rfl ?_; simp only [go_sem])
    | (refine AGet.haveM (by assumption) ?_; (try simp only [go_sem]))
    | (refine AGet.have' (by assumption) ?_; (try simp only [go_sem]))
    | ((first | refine AGet.nth ?_ (fun b hb => ?_) | refine AGet.nth1 ?_ (fun b hb => ?_) | with_reducible refine And.intro ?_ ?_); (focus (first | omega | assumption | exact List.length_pos_iff.2 (by assumption) | (simp only [List.length_append, List.length_cons, List.length_nil, List.length_map, List.length_take, List.length_drop] at *; omega) | (rw [wrap64_id (by omega) (by omega)]; omega) | (simp; done) | (simp [spare_len]; done) | (exact ⟨by omega, by omega⟩))); (try simp only [hb, go_sem]))
    | (
        refine AWP.ret ?_
        refine AEnd.is ?_; simp only [go_sem, out_v, out_s, out_n, v_int, v_bool, v_str] <;> (simp []))
    | refine AWP.fin (by assumption) ?_
    | fail)

set_option maxHeartbeats 4000000 in
set_option maxRecDepth 8000 in
theorem mgright_c (m : Mg) : ACalls E 11 [mgV m] (fun r t => r = bl (rightM m) ∧ t = []) := by -- checkroll/msg.Right
  refine ACalls.of_awp (n := 113) (rs := [.tmp 2]) Tryd.func11 rfl Tryd.ntmps11 rfl ?_
  repeat' (first
    | refine AWP.seqk fun K hK => ?_
    | (refine AWP.region ?_; simp only [go_sem, mg_eq m (bareM m)])
    | (refine AWP.here 17 62 8 rfl ?_; apply AWP.regionAnyJ (.take 0 (.take 1 (.take 2 (.take 4 (.fork (.alt 3 (.take 5 (.take 6 (.take 7 .done))) (.alt 5 (.take 3 (.take 6 (.take 7 .done))) .ends))))))) [[], [0], [], [2], [0, 1], [0, 1, 4], [0, 1, 2, 3, 4, 5], [0, 1, 2, 3, 4, 5, 6]] [] (by kernel_rfl) (by kernel_rfl) (by decide); simp only [go_sem, mg_eq m (bareM m)])
    | (refine AWP.here 20 83 8 rfl ?_; apply AWP.regionAnyJ (.take 0 (.take 1 (.take 2 (.take 4 (.fork (.alt 3 (.take 5 (.take 6 (.take 7 .done))) (.alt 5 (.take 3 (.take 6 (.take 7 .done))) .ends))))))) [[], [0], [], [2], [0, 1], [0, 1, 4], [0, 1, 2, 3, 4, 5], [0, 1, 2, 3, 4, 5, 6]] [] (by kernel_rfl) (by kernel_rfl) (by decide); simp only [go_sem, mg_eq m (bareM m)])
    | (refine hK _ ?_; clear hK K)
    | refine AWP.block ?_
    | refine AWP.cond rfl (fun c => ?_) (fun c => ?_) <;> first | exact Bool.noConfusion c | (try simp only [dD] at c)
    | refine AWP.skip ?_
    | (refine AWP.exit ?_; simp only [go_sem, mg_eq m (bareM m)])
    | (refine ACall.one (msmall_c _) (by kernel_rfl) rfl ?_; simp only [go_sem, mg_eq m (bareM m)])
    | (refine ACall.one (mwhen_c _) (by kernel_rfl) rfl ?_; simp only [go_sem, mg_eq m (bareM m)])
    | (refine ACall.one (msays_c _) (by kernel_rfl) rfl ?_; simp only [go_sem, mg_eq m (bareM m)])
    | (refine ACall.one (mexec_c _) (by kernel_rfl) rfl ?_; simp only [go_sem, mg_eq m (bareM m)])
    | (refine AGuard.splitN (fun h => ?_) (fun h => ?_) <;> simp only [h, go_sem, mg_eq m (bareM m)] <;> (try simp only [dD] at h))
    | (refine AGuard.split (fun h => ?_) (fun h => ?_) <;> simp only [h, go_sem, mg_eq m (bareM m)] <;> (try simp only [dD] at h))
    | (refine AGet.haveM (by assumption) ?_; (try simp only [go_sem, mg_eq m (bareM m)]))
    | (refine AGet.have' (by assumption) ?_; (try simp only [go_sem, mg_eq m (bareM m)]))
    | ((first | refine AGet.nth ?_ (fun b hb => ?_) | refine AGet.nth1 ?_ (fun b hb => ?_) | with_reducible refine And.intro ?_ ?_); (focus (first | omega | assumption | exact List.length_pos_iff.2 (by assumption) | (simp only [List.length_append, List.length_cons, List.length_nil, List.length_map, List.length_take, List.length_drop] at *; omega) | (rw [wrap64_id (by omega) (by omega)]; omega) | (simp; done) | (simp [spare_len]; done) | (exact ⟨by omega, by omega⟩))); (try simp only [hb, go_sem, mg_eq m (bareM m)]))
    | exact rfl
    | refine And.intro (a := ACall _ _ _ _ _ _ _ _) ?_ ?_
    | refine And.intro (a := AGet _ _) ?_ ?_
    | refine And.intro (a := AGuard _ _ _ _ _ _ _) ?_ ?_
    | (
        refine AWP.ret ?_
        refine AEnd.is ?_; simp only [go_sem, out_v, out_s, out_n, v_int, v_bool, v_str] <;> (first | ((try clear hK); obtain ⟨kind, seq, time, copy, a, b, gap, text, ⟨e1, e2, e3, e4, e5, e6, e7, e8, e9, e10⟩⟩ := m; rw [Bool.eq_iff_iff]; simp_all [rightM, okM, bareM, zeroX, and_assoc]; done) | ((try clear hK); obtain ⟨kind, seq, time, copy, a, b, gap, text, ⟨e1, e2, e3, e4, e5, e6, e7, e8, e9, e10⟩⟩ := m; simp_all [rightM, okM, bareM, zeroX]; done) | skip))
    | refine AWP.fin (by assumption) ?_
    | fail)

set_option maxHeartbeats 4000000 in
set_option maxRecDepth 8000 in
theorem r5short_c (m : Mg) : ACalls E 8 [mgV m] (fun r t => (∃ b : Bool, r = bl b) ∧ t = []) := by -- checkroll/checkrollref05.Short
  refine ACalls.of_awp (n := 42) (rs := [.tmp 2]) Tryd.func8 rfl Tryd.ntmps8 rfl ?_
  repeat' (first
    | refine AWP.seqk fun K hK => ?_
    | (refine AWP.region ?_; simp only [go_sem])
    | (refine hK _ ?_; clear hK K)
    | refine AWP.block ?_
    | refine AWP.cond rfl (fun c => ?_) (fun c => ?_) <;> first | exact Bool.noConfusion c | (try simp only [dD] at c)
    | refine AWP.skip ?_
    | (refine AWP.exit ?_; simp only [go_sem])
    | (refine AGuard.splitN (fun h => ?_) (fun h => ?_) <;> simp only [h, go_sem] <;> (try simp only [dD] at h))
    | (refine AGuard.split (fun h => ?_) (fun h => ?_) <;> simp only [h, go_sem] <;> (try simp only [dD] at h))
    | (refine AGet.haveM (by assumption) ?_; (try simp only [go_sem]))
    | (refine AGet.have' (by assumption) ?_; (try simp only [go_sem]))
    | ((first | refine AGet.nth ?_ (fun b hb => ?_) | refine AGet.nth1 ?_ (fun b hb => ?_) | with_reducible refine And.intro ?_ ?_); (focus (first | omega | assumption | exact List.length_pos_iff.2 (by assumption) | (simp only [List.length_append, List.length_cons, List.length_nil, List.length_map, List.length_take, List.length_drop] at *; omega) | (rw [wrap64_id (by omega) (by omega)]; omega) | (simp; done) | (simp [spare_len]; done) | (exact ⟨by omega, by omega⟩))); (try simp only [hb, go_sem]))
    | (
        refine AWP.ret ?_
        (simp only [go_sem]; exact ⟨[], .v _, rfl, rfl, ⟨_, rfl⟩, rfl⟩))
    | refine AWP.fin (by assumption) ?_
    | fail)


end Go.Proofs.YtobaignbahnjbaaDoor
