import Derived.Test.YtajeeghgiilhiaaT9
set_option linter.unusedVariables false
set_option linter.unusedSimpArgs false
namespace Go.Proofs.Ytajeeghgiilhiaa
open Go Go.Abs Go.RowKit Go.Bk
theorem samePs_self (l : List Po) : samePs l l = true := same_iff.2 rfl
theorem same_nil {p : List Po} (h : (carryF p []).2 = 0) : samePs (carryF p []).1 p = true := by rw [carry_nil h]; exact samePs_self p
theorem carry_len (p q : List Po) : (carryF p q).1.length ≤ p.length + q.length := by
  have h := merge_len [p, q]
  simp only [List.flatten_cons, List.flatten_nil, List.append_nil, List.length_append] at h
  unfold carryF; split
  · simp
  · split
    · simp
    · exact h
theorem short_len {p q u : List Po} (h : shortPs [p, q, u] = true) : p.length ≤ 20 ∧ q.length ≤ 20 ∧ u.length ≤ 20 := by
  unfold shortPs at h
  simp only [List.all_cons, List.all_nil, Bool.and_eq_true, decide_eq_true_eq, Bool.and_true] at h
  exact ⟨h.2.1, h.2.2.1, h.2.2.2⟩
theorem rcarry_s (p q : List Po) (hp : p.length ≤ 400000) (hq : q.length ≤ 400000) : ACalls E 6 [posV q, posV p] (fun r t => r = .tup [posV (carryF p q).1, i64 (carryF p q).2] ∧ t = []) := by
  rw [carry_comm]; exact rcarry_c q p hq hp
theorem rcarry_n (p : List Po) (hp : p.length ≤ 400000) : ACalls E 6 [posV p, .nilS] (fun r t => r = .tup [posV (carryF p []).1, i64 (carryF p []).2] ∧ t = []) := by
  intro w im vs h0 hg h1 h2
  refine rcarry_c p [] hp (by simp) w im vs h0 hg h1 ?_
  obtain ⟨hn, hx⟩ := h2
  refine ⟨hn, fun i x v h3 h4 => ?_⟩
  rcases i with _ | _ | i
  · exact hx 0 x v h3 h4
  · cases h3; exact (hx 1 .nilS v rfl h4).of_nil
  · simp at h3

set_option maxHeartbeats 16000000 in
set_option maxRecDepth 8000 in
theorem rollCarries_c (p q u : List Po) (hp : p.length ≤ 9223372036854775807) (hq : q.length ≤ 9223372036854775807) (hu : u.length ≤ 9223372036854775807) : ACalls E 3 [posV p, posV q, posV u] (fun r t => r = bl true ∧ t = []) := by -- checkroll/checkrolllaw25.RollCarries
  refine ACalls.of_awp (n := 99) (rs := [.tmp 6]) Try.func3 rfl Try.ntmps3 rfl ?_
  repeat' (first
    | refine AWP.seqk fun K hK => ?_
    | (
        refine AWP.here 5 28 8 rfl ?_
        obtain ⟨hp20, hq20, hu20⟩ := short_len (by assumption)
        have k1 := carry_len p q
        have k2 := carry_len p []
        have k3 := carry_len (carryF p q).1 u
        have k4 := carry_len q u
        have k5 := carry_len p (carryF q u).1
        simp only [List.length_nil, Nat.add_zero] at k2
        refine AWP.region ?_; simp only [go_sem, samePs_self, ne_eq, not_true_eq_false, decide_false, decide_true, Bool.not_true, Bool.not_false])
    | (refine AWP.region ?_; simp only [go_sem, samePs_self, ne_eq, not_true_eq_false, decide_false, decide_true, Bool.not_true, Bool.not_false])
    | (refine hK _ ?_; clear hK K)
    | refine AWP.block ?_
    | refine AWP.cond rfl (fun c => ?_) (fun c => ?_) <;> first | exact Bool.noConfusion c | (try simp only [dD] at c)
    | refine AWP.skip ?_
    | (refine AWP.exit ?_; simp only [go_sem, samePs_self, ne_eq, not_true_eq_false, decide_false, decide_true, Bool.not_true, Bool.not_false])
    | (refine ACall.one (awake25_c) (by kernel_rfl) rfl ?_; simp only [go_sem, samePs_self, ne_eq, not_true_eq_false, decide_false, decide_true, Bool.not_true, Bool.not_false])
    | (refine ACall.one (r14short_c [p, q, u] (by simp) (by intro l hl; simp only [List.mem_cons, List.not_mem_nil, or_false] at hl; rcases hl with rfl | rfl | rfl <;> assumption)) (by kernel_rfl) rfl ?_; simp only [go_sem, samePs_self, ne_eq, not_true_eq_false, decide_false, decide_true, Bool.not_true, Bool.not_false])
    | (refine ACall.one (rcarry_c p q (by omega) (by omega)) (by kernel_rfl) rfl ?_; simp only [go_sem, samePs_self, ne_eq, not_true_eq_false, decide_false, decide_true, Bool.not_true, Bool.not_false])
    | (refine ACall.one (rcarry_s p q (by omega) (by omega)) (by kernel_rfl) rfl ?_; simp only [go_sem, samePs_self, ne_eq, not_true_eq_false, decide_false, decide_true, Bool.not_true, Bool.not_false])
    | (refine ACall.one (rcarry_n p (by omega)) (by kernel_rfl) rfl ?_; simp only [go_sem, samePs_self, ne_eq, not_true_eq_false, decide_false, decide_true, Bool.not_true, Bool.not_false])
    | (refine ACall.one (rcarry_c (carryF p q).1 u (by omega) (by omega)) (by kernel_rfl) rfl ?_; simp only [go_sem, samePs_self, ne_eq, not_true_eq_false, decide_false, decide_true, Bool.not_true, Bool.not_false])
    | (refine ACall.one (rcarry_c q u (by omega) (by omega)) (by kernel_rfl) rfl ?_; simp only [go_sem, samePs_self, ne_eq, not_true_eq_false, decide_false, decide_true, Bool.not_true, Bool.not_false])
    | (refine ACall.one (rcarry_c p (carryF q u).1 (by omega) (by omega)) (by kernel_rfl) rfl ?_; simp only [go_sem, samePs_self, ne_eq, not_true_eq_false, decide_false, decide_true, Bool.not_true, Bool.not_false])
    | (refine ACall.one (r13same_c (carryF p q).1 (carryF p q).1 (by omega) (by omega)) (by kernel_rfl) rfl ?_; simp only [go_sem, samePs_self, ne_eq, not_true_eq_false, decide_false, decide_true, Bool.not_true, Bool.not_false])
    | (refine ACall.one (r13same_c (carryF p []).1 p (by omega) (by omega)) (by kernel_rfl) rfl ?_; simp only [go_sem, samePs_self, ne_eq, not_true_eq_false, decide_false, decide_true, Bool.not_true, Bool.not_false])
    | (refine ACall.one (r13same_c (carryF (carryF p q).1 u).1 (carryF p (carryF q u).1).1 (by omega) (by omega)) (by kernel_rfl) rfl ?_; simp only [go_sem, samePs_self, ne_eq, not_true_eq_false, decide_false, decide_true, Bool.not_true, Bool.not_false])
    | (refine AGuard.splitN (fun h => ?_) (fun h => ?_) <;> simp only [h, go_sem, samePs_self, ne_eq, not_true_eq_false, decide_false, decide_true, Bool.not_true, Bool.not_false] <;> (try simp only [dD] at h))
    | (refine AGuard.split (fun h => ?_) (fun h => ?_) <;> simp only [h, go_sem, samePs_self, ne_eq, not_true_eq_false, decide_false, decide_true, Bool.not_true, Bool.not_false] <;> (try simp only [dD] at h))
    | (refine AGet.haveM (by assumption) ?_; (try simp only [go_sem, samePs_self, ne_eq, not_true_eq_false, decide_false, decide_true, Bool.not_true, Bool.not_false]))
    | (refine AGet.have' (by assumption) ?_; (try simp only [go_sem, samePs_self, ne_eq, not_true_eq_false, decide_false, decide_true, Bool.not_true, Bool.not_false]))
    | ((first | refine AGet.nth ?_ (fun b hb => ?_) | refine AGet.nth1 ?_ (fun b hb => ?_) | with_reducible refine And.intro ?_ ?_); (focus (first | omega | assumption | exact List.length_pos_iff.2 (by assumption) | (simp only [List.length_append, List.length_cons, List.length_nil, List.length_map, List.length_take, List.length_drop] at *; omega) | (rw [wrap64_id (by omega) (by omega)]; omega) | (simp; done) | (simp [spare_len]; done) | (exact ⟨by omega, by omega⟩))); (try simp only [hb, go_sem, samePs_self, ne_eq, not_true_eq_false, decide_false, decide_true, Bool.not_true, Bool.not_false]))
    | (
        refine AWP.ret ?_
        refine AEnd.is ?_; simp only [go_sem, out_v, out_s, out_n, v_int, v_bool, v_str] <;> (first | rfl | (rw [carry_err (by assumption)]; rfl) | (exact carry_assoc (by assumption) (by assumption) (by assumption) (by assumption)) | (rw [carry_assoc (by assumption) (by assumption) (by assumption) (by assumption)]; exact samePs_self _) | (exact absurd (same_nil (by assumption)) (by simp_all)) | (simp_all; done) | skip))
    | (exfalso; simp_all; done)
    | refine AWP.fin (by assumption) ?_
    | fail)


end Go.Proofs.Ytajeeghgiilhiaa
