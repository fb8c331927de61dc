/- Texts of one chain, put together (G3, G4, Ln, G5, G6, G7, G8, GtB, Lo, G9, Lu). -/
import Derived.Test.YtajeeghgiilhiaaGreatKuK
import Derived.Test.YtajeeghgiilhiaaGreatKuJ
import Derived.Test.YtajeeghgiilhiaaGreatKuE
import Derived.Laws.MakeOwn
set_option linter.unusedVariables false
set_option linter.unusedSimpArgs false
section
namespace Go.Proofs.YtajeeghgiilhiaaGreat
open Go Go.Abs Go.RowKit Go.Bk
theorem right_lens_o {b : Bk} (h : rightBk b = true) : b.orders.length ≤ 64 := (right_fy h).2.1.1
theorem rightO_len {l : List Od} (h : rightO l = true) : l.length ≤ 64 := (rightO_iff.1 h).1
set_option maxHeartbeats 4000000 in
set_option maxRecDepth 8000 in
theorem lget_c (l : List Lm) (a s : Bs) (hl : l.length ≤ 9223372036854775807) : ACalls E 94 [lmsV l, str a, str s] (fun r t => r = .tup [lmV (getL l a s).1, bl (getL l a s).2] ∧ t = []) := by
 refine ACalls.of_awp (n := 33) (rs := [.cell 6 63, .tmp 7]) Tryz.func94 rfl Tryz.ntmps94 rfl ?_
 repeat' (first
 | refine AWP.seqk fun K hK => ?_
 | (
  refine AWP.here 5 18 4 rfl ?_
  obtain ⟨x, hx⟩ : ∃ x, l[i]? = some x := ⟨_, List.getElem?_eq_getElem (by omega)⟩
  refine AWP.region ?_; simp only [go_sem])
 | (refine AWP.region ?_; simp only [go_sem])
 | (refine hK _ ?_; clear hK K)
 | refine AWP.block ?_
 | refine AWP.cond rfl (fun c => ?_) (fun c => ?_) <;> first | exact Bool.noConfusion c | (try simp only [dD] at c)
 | refine AWP.skip ?_
 | (refine AWP.exit ?_; simp only [go_sem])
 | (refine ACall.one (lright_c l hl) (by kernel_rfl) rfl ?_; simp only [go_sem])
 | (refine AGuard.split (fun h => ?_) (fun h => ?_) <;> simp only [h, go_sem] <;> (try simp only [dD] at h))
 | (refine AGet.haveM (by assumption) ?_; (try simp only [go_sem]))
 | ((first | with_reducible refine And.intro ?_ ?_); (focus (first | (simp; done) | fail)); (try simp only [hb, go_sem]))
 | (
  refine AWP.here 4 17 1 rfl ?_
  refine AWP.loopN (ι := Nat) [7, 9, 17, 18, 19, 20, 21, 22, 23, 24, 25, 26, 27, 28, 29, 30, 31] (fun (i : Nat) => [(16, i64 i)]) (fun (i : Nat) => i ≤ l.length ∧ ∀ k y, k < i → l[k]? = some y → ¬ (y.acc = a ∧ y.sym = s)) (fun (i : Nat) => l.length - i) (0) ?_ ?_ ?_
  · (try simp only [go_sem]); (repeat' (first | trivial | fail)); done
  · exact ⟨by omega, fun k y hk => by omega⟩
  rintro i ⟨h1, h3⟩
  simp only [go_sem]
  have hr : rightL l = true := by assumption)
 | (
  refine ⟨i + 1, ?_, ?_, ?_⟩
  · (try simp only [go_sem]); (try rw [wrap64_id (by omega) (by omega)]); (repeat' (first | refine And.intro ?_ ?_ | exact .inr rfl | trivial | fail)); done
  · exact ⟨by omega, none_next h3 hx (by (try clear hK); simp_all)⟩
  · (try simp only []); omega)
 | (
  refine AWP.ret ?_
  refine AEnd.is ?_; simp only [go_sem, out_v, out_s, out_n, v_int, v_bool, v_str] <;> (first | (rw [getL_bad (by assumption)]; simp; done) | (rw [getL_no hr (by omega) h3]; simp; done) | (rw [getL_yes hr hx h3 (by (try clear hK); simp_all) (by (try clear hK); simp_all)]; (try clear hK); simp_all; done) | fail))
 | refine AWP.fin (by assumption) ?_
 | fail)
set_option maxHeartbeats 4000000 in
set_option maxRecDepth 8000 in
theorem lwhy_c (l : List Lm) (o : Od) (w : Ws) (hl : l.length ≤ 9223372036854775807) : ACalls E 38 [lmsV l, odV o, wV w] (fun r t => r = i64 (whyL l o w) ∧ t = []) := by
 refine ACalls.of_awp (n := 81) (rs := [.tmp 6]) Tryz.func38 rfl Tryz.ntmps38 rfl ?_
 repeat' (first
 | refine AWP.seqk fun K hK => ?_
 | (refine AWP.region ?_; simp only [go_sem])
 | (refine hK _ ?_; clear hK K)
 | refine AWP.cond rfl (fun c => ?_) (fun c => ?_) <;> first | exact Bool.noConfusion c | (try simp only [dD] at c)
 | refine AWP.skip ?_
 | (refine ACall.one (lget_c l o.acc o.sym hl) (by kernel_rfl) rfl ?_; simp only [go_sem])
 | (refine ACall.one (nmul_c o.qty o.price) (by kernel_rfl) rfl ?_; simp only [go_sem])
 | (refine ACall.one (nadd_c w.1 o.qty) (by kernel_rfl) rfl ?_; simp only [go_sem])
 | (refine ACall.one (nadd_c w.2 o.qty) (by kernel_rfl) rfl ?_; simp only [go_sem])
 | (refine AGuard.split (fun h => ?_) (fun h => ?_) <;> simp only [h, go_sem] <;> (try simp only [dD] at h))
 | (
  refine AWP.ret ?_
  refine AEnd.is ?_; simp only [go_sem, out_v, out_s, out_n, v_int, v_bool, v_str] <;> (first | (unfold whyL; simp [*]; done) | fail))
 | fail)
set_option maxHeartbeats 4000000 in
set_option maxRecDepth 8000 in
theorem vof_c (l : Int) (g f : Bool) (b n p : Int) : ACalls E 158 [.agg [i64 l, bl g, bl f, i64 b], i64 n, i64 p] (fun r t => r = i64 (ofV l g f b n p) ∧ t = []) := by
 refine ACalls.of_awp (n := 37) (rs := [.tmp 6]) Tryz.func158 rfl Tryz.ntmps158 rfl ?_
 repeat' (first
 | refine AWP.seqk fun K hK => ?_
 | (
  refine AWP.here 9 33 3 rfl ?_
  obtain rfl | rfl | rfl | rfl : i = 1 ∨ i = 2 ∨ i = 3 ∨ i = 4 := by omega
  refine AWP.region ?_; simp only [go_sem])
 | (refine AWP.region ?_; simp only [go_sem])
 | (refine AWP.here 4 16 11 rfl ?_; refine AWP.regionO [0, 2, 3, 6, 1, 4, 5, 7, 8, 9, 10] [] (by kernel_rfl) (by kernel_rfl) rfl ?_; simp only [go_sem])
 | (refine hK _ ?_; clear hK K)
 | refine AWP.block ?_
 | refine AWP.cond rfl (fun c => ?_) (fun c => ?_) <;> first | (try simp only [dD] at c)
 | refine AWP.skip ?_
 | (refine AWP.exit ?_; simp only [go_sem])
 | (refine ACall.one (near_c _) (by kernel_rfl) rfl ?_; simp only [go_sem])
 | (
  refine AWP.here 7 29 2 rfl ?_
  refine AWP.loopN (ι := Nat) [6, 29, 30, 31, 32, 33, 34, 35, 36] (fun (i : Nat) => [(8, i64 i)]) (fun (i : Nat) => i ≤ 4 ∧ (i ≤ 3 → b = 0) ∧ (i ≤ 2 → f = false) ∧ (i ≤ 1 → ¬ nearI p < IntKind.i64.wrap (nearI n - nearI l)) ∧ (i ≤ 0 → g = false)) (fun (i : Nat) => i) (4) ?_ ?_ ?_
  · (try simp only [go_sem]); (repeat' (first | refine And.intro ?_ ?_ | exact .inr (oblA rfl) | fail)); done
  · simp
  rintro i ⟨hi, h3, h2, h1, h0⟩
  simp only [go_sem])
 | (
  first | (refine ⟨0, ?_, ?_, ?_⟩ <;> first | omega | ((try clear hK); simp_all; done) | (simp only [go_sem]; simp; rfl)) | (refine ⟨1, ?_, ?_, ?_⟩ <;> first | omega | ((try clear hK); simp_all; done) | (simp only [go_sem]; simp; rfl)) | (refine ⟨2, ?_, ?_, ?_⟩ <;> first | omega | ((try clear hK); simp_all; done) | (simp only [go_sem]; simp; rfl)) | (refine ⟨3, ?_, ?_, ?_⟩ <;> first | omega | (simp only [go_sem]; simp; rfl)))
 | (
  refine AWP.ret ?_
  refine AEnd.is ?_; simp only [go_sem, out_v, out_s, out_n, v_int, v_bool, v_str] <;> ((try clear hK); simp_all [ofV, wrap_near] <;> omega))
 | refine AWP.fin (by assumption) ?_
 | fail)
set_option maxHeartbeats 4000000 in
set_option maxRecDepth 8000 in
theorem gstate_c (v : Vn) (now pat : Int) (hsm : v.book.orders.length + v.sent.length ≤ 64) : ACalls E 91 [vnV v, i64 now, i64 pat] (fun r t => r = i64 (stateV v now pat) ∧ t = []) := by
 have hws : IntKind.i64.wrap ((v.book.orders.length : Int) + v.sent.length) = (v.book.orders.length : Int) + v.sent.length := wrap64_id (by omega) (by omega)
 have e64 : decide ((64 : Int) ≤ (v.book.orders.length : Int) + v.sent.length) = decide (64 ≤ v.book.orders.length + v.sent.length) := decide_eq_decide.2 (by omega)
 refine ACalls.of_awp (n := 36) (rs := [.tmp 6]) Tryz.func91 rfl Tryz.ntmps91 rfl ?_
 repeat' (first
 | refine AWP.seqk fun K hK => ?_
 | (refine AWP.region ?_; simp only [go_sem, hws, e64])
 | (refine hK _ ?_; clear hK K)
 | (refine ACall.one (vof_c v.last v.gap _ v.book.bad now pat) (by kernel_rfl) rfl ?_; simp only [go_sem, hws, e64])
 | (refine AGuard.splitN (fun h => ?_) (fun h => ?_) <;> simp only [h, go_sem, hws, e64] <;> (try simp only [dD] at h))
 | ((first | with_reducible refine And.intro ?_ ?_); (focus (first | (simp; done) | fail)); (try simp only [hb, go_sem, hws, e64]))
 | (
  refine AWP.ret ?_
  refine AEnd.is ?_; simp only [go_sem, out_v, out_s, out_n, v_int, v_bool, v_str] <;> (first | (unfold stateV; rw [decide_eq_true (by omega), Bool.true_or]; done) | (unfold stateV; rw [decide_eq_false (p := 256 ≤ v.book.ids.length) (by omega), Bool.false_or]; done) | fail))
 | fail)
set_option maxHeartbeats 4000000 in
set_option maxRecDepth 8000 in
theorem rightv_c (v : Vn) (now : Int) (hv : VnIn v) : ACalls E 120 [vnV v, i64 now] (fun r t => r = bl (rightV v now) ∧ t = []) := by
 obtain ⟨ho, hf, hi, hs⟩ := hv
 refine ACalls.of_awp (n := 56) (rs := [.tmp 4]) Tryz.func120 rfl Tryz.ntmps120 rfl ?_
 repeat' (first
 | refine AWP.seqk fun K hK => ?_
 | (
  refine AWP.here 3 17 20 rfl ?_
  have hro := right_lens_o (by assumption)
  have hrs := rightO_len (by assumption)
  have hws : IntKind.i64.wrap ((v.book.orders.length : Int) + v.sent.length) = (v.book.orders.length : Int) + v.sent.length := wrap64_id (by omega) (by omega)
  refine AWP.region ?_; simp only [go_sem, hws])
 | (
  refine AWP.here 7 42 4 rfl ?_
  obtain ⟨o, hx⟩ : ∃ o, v.sent[i]? = some o := ⟨_, List.getElem?_eq_getElem (by omega)⟩
  refine AWP.region ?_; simp only [go_sem])
 | (refine AWP.region ?_; simp only [go_sem])
 | (refine hK _ ?_; clear hK K)
 | refine AWP.block ?_
 | refine AWP.cond rfl (fun c => ?_) (fun c => ?_) <;> first | exact Bool.noConfusion c | (try simp only [dD] at c)
 | refine AWP.skip ?_
 | (refine AWP.exit ?_; simp only [go_sem])
 | (refine ACall.one (bright_c v.book ho hf hi) (by kernel_rfl) rfl ?_; simp only [go_sem])
 | (refine ACall.one (oright_c v.sent hs) (by kernel_rfl) rfl ?_; simp only [go_sem])
 | (refine ACall.one (ghas_c v.book.orders o.id ho) (by kernel_rfl) rfl ?_; simp only [go_sem])
 | (refine AGuard.splitN (fun h => ?_) (fun h => ?_) <;> simp only [h, go_sem] <;> (try simp only [dD] at h))
 | (refine AGuard.split (fun h => ?_) (fun h => ?_) <;> simp only [h, go_sem] <;> (try simp only [dD] at h))
 | (refine AGet.haveM (by assumption) ?_; (try simp only [go_sem]))
 | ((first | with_reducible refine And.intro ?_ ?_); (focus (first | (simp; done) | fail)); (try simp only [hb, go_sem]))
 | (
  refine AWP.here 6 41 1 rfl ?_
  refine AWP.loopN (ι := Nat) [4, 6, 41, 42, 43, 44, 45, 46, 47, 48, 49, 50, 51, 52, 53, 54, 55] (fun (i : Nat) => [(40, i64 i)]) (fun (i : Nat) => i ≤ v.sent.length ∧ ∀ k o, k < i → v.sent[k]? = some o → o.opn = true ∧ hasB v.book.orders o.id = false) (fun (i : Nat) => v.sent.length - i) (0) ?_ ?_ ?_
  · (try simp only [go_sem]); (repeat' (first | exact .inr (oblA rfl) | fail)); done
  · exact ⟨by omega, fun k o hk => by omega⟩
  rintro i ⟨h1, h3⟩
  simp only [go_sem])
 | (
  refine ⟨i + 1, ?_, ?_, ?_⟩
  · (try simp only [go_sem]); (try rw [wrap64_id (by omega) (by omega)]); (repeat' (first | refine And.intro ?_ ?_ | exact .inr rfl | exact .inr (oblA rfl) | fail)); done
  · exact ⟨by omega, each_next h3 hx ⟨by assumption, by assumption⟩⟩
  · (try simp only []); omega)
 | (
  refine AWP.ret ?_
  refine AEnd.is ?_; simp only [go_sem, out_v, out_s, out_n, v_int, v_bool, v_str] <;> (first | (rw [rightV_bad1 (by assumption)]; done) | (rw [rightV_bad2 (by assumption)]; done) | (rw [rightV_bad3 (by omega)]; done) | (rw [rightV_ok (by assumption) (by assumption) (by omega) (by omega) (by omega) (i := i) (by omega) h3]; done) | (rw [rightV_bad4 hx (by simp [*])]; done) | fail))
 | refine AWP.fin (by assumption) ?_
 | fail)
end Go.Proofs.YtajeeghgiilhiaaGreat
end
section
namespace Go.Proofs.YtajeeghgiilhiaaGreat
open Go Go.Abs Go.RowKit Go.Bk
set_option maxHeartbeats 4000000 in
set_option maxRecDepth 8000 in
theorem gright_c (g : Gt) (hg : GtIn g) : ACalls E 45 [gtV g] (fun r t => r = bl (rightG g) ∧ t = []) := by
 have hg1 := hg.1
 have hg2 := hg.2.1
 refine ACalls.of_awp (n := 44) (rs := [.tmp 2]) Tryz.func45 rfl Tryz.ntmps45 rfl ?_
 repeat' (first
 | refine AWP.seqk fun K hK => ?_
 | (
  refine AWP.here 7 36 4 rfl ?_
  obtain ⟨v, hx⟩ : ∃ v, g.venues[i]? = some v := ⟨_, List.getElem?_eq_getElem (by omega)⟩
  refine AWP.region ?_; simp only [go_sem])
 | (refine AWP.region ?_; simp only [go_sem])
 | (refine hK _ ?_; clear hK K)
 | refine AWP.block ?_
 | refine AWP.cond rfl (fun c => ?_) (fun c => ?_) <;> first | exact Bool.noConfusion c | (try simp only [dD] at c)
 | refine AWP.skip ?_
 | (refine AWP.exit ?_; simp only [go_sem])
 | (refine ACall.one (lright_c g.limits hg2) (by kernel_rfl) rfl ?_; simp only [go_sem])
 | (refine ACall.one (gtime_c g.now) (by kernel_rfl) rfl ?_; simp only [go_sem])
 | (refine ACall.one (gtime_c g.pat) (by kernel_rfl) rfl ?_; simp only [go_sem])
 | (refine ACall.one (rightv_c v g.now (hg.2.2 v (List.mem_of_getElem? hx))) (by kernel_rfl) rfl ?_; simp only [go_sem])
 | (refine AGuard.splitN (fun h => ?_) (fun h => ?_) <;> simp only [h, go_sem] <;> (try simp only [dD] at h))
 | (refine AGuard.split (fun h => ?_) (fun h => ?_) <;> simp only [h, go_sem] <;> (try simp only [dD] at h))
 | (refine AGet.haveM (by assumption) ?_; (try simp only [go_sem]))
 | ((first | with_reducible refine And.intro ?_ ?_); (focus (first | (simp; done) | fail)); (try simp only [hb, go_sem]))
 | (
  refine AWP.here 6 35 1 rfl ?_
  refine AWP.loopN (ι := Nat) [2, 4, 35, 36, 37, 38, 39, 40, 41, 42, 43] (fun (i : Nat) => [(34, i64 i)]) (fun (i : Nat) => i ≤ g.venues.length ∧ ∀ k v, k < i → g.venues[k]? = some v → rightV v g.now = true) (fun (i : Nat) => g.venues.length - i) (0) ?_ ?_ ?_
  · (try simp only [go_sem]); (repeat' (first | exact .inr (oblA rfl) | fail)); done
  · exact ⟨by omega, fun k v hk => by omega⟩
  rintro i ⟨h1, h3⟩
  simp only [go_sem])
 | (
  refine ⟨i + 1, ?_, ?_, ?_⟩
  · (try simp only [go_sem]); (try rw [wrap64_id (by omega) (by omega)]); (repeat' (first | refine And.intro ?_ ?_ | exact .inr rfl | exact .inr (oblA rfl) | fail)); done
  · exact ⟨by omega, each_next h3 hx (by assumption)⟩
  · (try simp only []); omega)
 | (
  refine AWP.ret ?_
  refine AEnd.is ?_; simp only [go_sem, out_v, out_s, out_n, v_int, v_bool, v_str] <;> (first | (rw [rightG_bad (by omega)]; done) | (rw [rightG_badl (by assumption)]; done) | (rw [rightG_badn (by assumption)]; done) | (rw [rightG_badp (by assumption)]; done) | (rw [rightG_no hx (by assumption)]; done) | (rw [rightG_ok (by omega) (by omega) (by assumption) (by assumption) (by assumption) (i := i) (by omega) h3]; done) | fail))
 | refine AWP.fin (by assumption) ?_
 | fail)
set_option maxHeartbeats 4000000 in
set_option maxRecDepth 8000 in
theorem gisat_c (g : Gt) (n : Int) (hg : GtIn g) : ACalls E 78 [gtV g, i64 n] (fun r t => r = bl (isAtB g n) ∧ t = []) := by
 have hg1 := hg.1
 have hg2 := hg.2.1
 refine ACalls.of_awp (n := 18) (rs := [.tmp 4]) Tryz.func78 rfl Tryz.ntmps78 rfl ?_
 repeat' (first
 | refine AWP.seqk fun K hK => ?_
 | (refine AWP.region ?_; simp only [go_sem])
 | (refine hK _ ?_; clear hK K)
 | (refine ACall.one (gright_c g hg) (by kernel_rfl) rfl ?_; simp only [go_sem])
 | (refine AGuard.split (fun h => ?_) (fun h => ?_) <;> simp only [h, go_sem] <;> (try simp only [dD] at h))
 | ((first | with_reducible refine And.intro ?_ ?_); (focus (first | (simp; done) | fail)); (try simp only [hb, go_sem]))
 | (
  refine AWP.ret ?_
  refine AEnd.is ?_; simp only [go_sem, out_v, out_s, out_n, v_int, v_bool, v_str] <;> (first | (rw [isAt_eq (by omega) (by omega)]; done) | (rw [isAt_n1 (by omega)]; done) | (rw [isAt_n2 (by omega)]; done) | fail))
 | fail)
set_option maxHeartbeats 4000000 in
set_option maxRecDepth 8000 in
theorem gknown_c (v : Vn) (id : Bs) (hv : VnIn v) : ACalls E 80 [vnV v, str id] (fun r t => r = bl (hasB v.book.orders id || hasB v.sent id) ∧ t = []) := by
 obtain ⟨ho, hf, hi, hs⟩ := hv
 refine ACalls.of_awp (n := 16) (rs := [.tmp 4]) Tryz.func80 rfl Tryz.ntmps80 rfl ?_
 repeat' (first
 | refine AWP.seqk fun K hK => ?_
 | (refine AWP.region ?_; simp only [go_sem])
 | (refine hK _ ?_; clear hK K)
 | (refine ACall.one (ghas_c v.book.orders id ho) (by kernel_rfl) rfl ?_; simp only [go_sem])
 | (refine ACall.one (ghas_c v.sent id hs) (by kernel_rfl) rfl ?_; simp only [go_sem])
 | (refine AGuard.splitN (fun h => ?_) (fun h => ?_) <;> simp only [h, go_sem] <;> (try simp only [dD] at h))
 | (
  refine AWP.ret ?_
  refine AEnd.is ?_; simp only [go_sem, out_v, out_s, out_n, v_int, v_bool, v_str] <;> (first | (simp [*]; done) | fail))
 | fail)
set_option maxHeartbeats 4000000 in
set_option maxRecDepth 8000 in
theorem gworst_c (g : Gt) (a s : Bs) (hg : GtIn g) : ACalls E 84 [gtV g, str a, str s] (fun r t => r = wV (worstG g a s) ∧ t = []) := by
 have hg1 := hg.1
 have hg2 := hg.2.1
 refine ACalls.of_awp (n := 33) (rs := [.cell 6 45]) Tryz.func84 rfl Tryz.ntmps84 rfl ?_
 repeat' (first
 | refine AWP.seqk fun K hK => ?_
 | (
  refine AWP.here 4 15 4 rfl ?_
  obtain ⟨v, hx⟩ : ∃ v, g.venues[i]? = some v := ⟨_, List.getElem?_eq_getElem (by omega)⟩
  have hv := hg.2.2 v (List.mem_of_getElem? hx)
  refine AWP.region ?_; simp only [go_sem])
 | (refine AWP.region ?_; simp only [go_sem])
 | (refine AWP.here 5 17 8 rfl ?_; refine AWP.regionO [0, 1, 2, 3, 4, 5, 6, 7] [] (by kernel_rfl) (by kernel_rfl) rfl ?_; simp only [go_sem])
 | (refine AWP.here 6 24 8 rfl ?_; refine AWP.regionO [0, 1, 2, 3, 4, 5, 6, 7] [] (by kernel_rfl) (by kernel_rfl) rfl ?_; simp only [go_sem])
 | (refine hK _ ?_; clear hK K)
 | refine AWP.block ?_
 | refine AWP.cond rfl (fun c => ?_) (fun c => ?_) <;> first | (try simp only [dD] at c)
 | refine AWP.skip ?_
 | (refine AWP.exit ?_; simp only [go_sem])
 | (refine ACall.one (eof_c v.book a s hv.1 hv.2.1 hv.2.2.1) (by kernel_rfl) rfl ?_; simp only [go_sem])
 | (refine ACall.one (plus_c (worstN g.venues a s i) (ofF v.book a s)) (by kernel_rfl) rfl ?_; simp only [go_sem])
 | (refine ACall.one (plus_c (plusW (worstN g.venues a s i) (ofF v.book a s)) (pendF v.sent a s)) (by kernel_rfl) rfl ?_; simp only [go_sem])
 | (refine ACall.one (pend_c v.sent a s hv.2.2.2) (by kernel_rfl) rfl ?_; simp only [go_sem])
 | (refine AGet.haveM (by assumption) ?_; (try simp only [go_sem]))
 | ((first | with_reducible refine And.intro ?_ ?_); (focus (first | (simp; done) | fail)); (try simp only [hb, go_sem]))
 | (
  refine AWP.here 3 14 1 rfl ?_
  refine AWP.loopM (ι := Nat) [9, 14, 15, 16, 17, 18, 19, 20, 21, 22, 23, 24, 25, 26, 27, 28, 29, 30, 31] (fun (i : Nat) => [(13, i64 i)]) (fun (i : Nat) => [some [.agg [vnsV g.venues, lmsV g.limits, bl g.kill, i64 g.now, i64 g.pat]], some [.agg [i64 0, i64 0]], some [.agg [i64 (worstN g.venues a s i).1, i64 (worstN g.venues a s i).2]]]) (fun (i : Nat) => []) (fun (i : Nat) => i ≤ g.venues.length) (fun (i : Nat) => g.venues.length - i) (0) ?_ ?_ ?_
  · (try simp only [go_sem]); (repeat' (first | refine And.intro ?_ ?_ | trivial | exact .inr (oblA rfl) | exact .inr ⟨rfl, oblA rfl⟩ | fail)); done
  · omega
  rintro i h1
  simp only [go_sem])
 | (
  refine ⟨i + 1, ?_, by omega, by omega⟩
  rw [worstN_next hx]
  (try simp only [go_sem]); (try rw [wrap64_id (by omega) (by omega)]); (repeat' (first | refine And.intro ?_ ?_ | exact .inr rfl | trivial | exact .inr (oblA rfl) | fail)); done)
 | (
  refine AWP.ret ?_
  refine AEnd.is ?_; simp only [go_sem, out_v, out_s, out_n, v_int, v_bool, v_str] <;> (first | (rw [show worstG g a s = worstN g.venues a s i from (worstN_all (by omega)).symm]; simp; done) | fail))
 | refine AWP.fin (by assumption) ?_
 | fail)
set_option maxHeartbeats 4000000 in
set_option maxRecDepth 8000 in
theorem gWorst_c (g : Gt) (a s : Bs) (hg : GtIn g) : ACalls E 31 [gtV g, str a, str s] (fun r t => r = wV (if rightG g then worstG g a s else (0, 0)) ∧ t = []) := by
 have hg1 := hg.1
 have hg2 := hg.2.1
 refine ACalls.of_awp (n := 15) (rs := [.cell 6 45]) Tryz.func31 rfl Tryz.ntmps31 rfl ?_
 repeat' (first
 | refine AWP.seqk fun K hK => ?_
 | (refine AWP.region ?_; simp only [go_sem])
 | (refine hK _ ?_; clear hK K)
 | refine AWP.cond rfl (fun c => ?_) (fun c => ?_) <;> first | (try simp only [dD] at c)
 | refine AWP.skip ?_
 | (refine ACall.one (gright_c g hg) (by kernel_rfl) rfl ?_; simp only [go_sem])
 | (refine ACall.one (gworst_c g a s hg) (by kernel_rfl) rfl ?_; simp only [go_sem])
 | (
  refine AWP.ret ?_
  refine AEnd.is ?_; simp only [go_sem, out_v, out_s, out_n, v_int, v_bool, v_str] <;> (first | (rw [if_pos (by assumption)]; simp; done) | (rw [if_neg (by simp [*])]; simp; done) | fail))
 | fail)
set_option maxHeartbeats 4000000 in
set_option maxRecDepth 8000 in
theorem gwhy_c (g : Gt) (n : Nat) (v : Vn) (o : Od) (hg : GtIn g) (hx : g.venues[n]? = some v) (hsm : v.book.orders.length + v.sent.length ≤ 64) : ACalls E 81 [gtV g, i64 n, odV o] (fun r t => r = i64 (whyG g v o) ∧ t = []) := by
 have hg1 := hg.1
 have hg2 := hg.2.1
 have hn := get_lt hx
 refine ACalls.of_awp (n := 35) (rs := [.tmp 6]) Tryz.func81 rfl Tryz.ntmps81 rfl ?_
 repeat' (first
 | refine AWP.seqk fun K hK => ?_
 | (
  refine AWP.here 4 20 3 rfl ?_
  have hst := stateV_rng v g.now g.pat
  refine AWP.region ?_; simp only [go_sem])
 | (refine AWP.region ?_; simp only [go_sem])
 | (refine AWP.here 3 10 11 rfl ?_; refine AWP.regionO [0, 1, 2, 3, 4, 5, 6, 7, 8, 9, 10] [] (by kernel_rfl) (by kernel_rfl) rfl ?_; simp only [go_sem])
 | (refine AWP.here 6 25 11 rfl ?_; refine AWP.regionO [0, 1, 2, 3, 4, 5, 6, 7, 8, 9, 10] [] (by kernel_rfl) (by kernel_rfl) rfl ?_; simp only [go_sem])
 | (refine hK _ ?_; clear hK K)
 | refine AWP.cond rfl (fun c => ?_) (fun c => ?_) <;> first | (try simp only [dD] at c)
 | refine AWP.skip ?_
 | (refine ACall.one (gstate_c v g.now g.pat hsm) (by kernel_rfl) rfl ?_; simp only [go_sem])
 | (refine ACall.one (lets_c _ _) (by kernel_rfl) rfl ?_; simp only [go_sem])
 | (refine ACall.one (gworst_c g o.acc o.sym hg) (by kernel_rfl) rfl ?_; simp only [go_sem])
 | (refine ACall.one (lwhy_c g.limits o (worstG g o.acc o.sym) hg2) (by kernel_rfl) rfl ?_; simp only [go_sem])
 | (refine AGet.haveM (by assumption) ?_; (try simp only [go_sem]))
 | (
  refine AWP.ret ?_
  refine AEnd.is ?_; simp only [go_sem, out_v, out_s, out_n, v_int, v_bool, v_str] <;> (first | (unfold whyG; simp [*]; done) | (unfold whyG; rw [wrap64_id (by omega) (by omega)]; simp [*]; done) | fail))
 | fail)
set_option maxHeartbeats 4000000 in
set_option maxRecDepth 8000 in
theorem gcancel_c (g : Gt) (n : Int) (id : Bs) (hg : GtIn g) : ACalls E 36 [gtV g, i64 n, str id] (fun r t => r = .tup [bl (cancelG g n id).1, i64 (cancelG g n id).2] ∧ t = []) := by
 have hg1 := hg.1
 have hg2 := hg.2.1
 refine ACalls.of_awp (n := 29) (rs := [.tmp 6, .tmp 7]) Tryz.func36 rfl Tryz.ntmps36 rfl ?_
 repeat' (first
 | refine AWP.seqk fun K hK => ?_
 | (
  refine AWP.here 3 13 7 rfl ?_
  obtain ⟨k, v, rfl, hx⟩ := isAt_get (by assumption)
  have hv := hg.2.2 v (List.mem_of_getElem? hx)
  have hn := get_lt hx
  refine AWP.region ?_; simp only [go_sem])
 | (refine AWP.region ?_; simp only [go_sem])
 | (refine hK _ ?_; clear hK K)
 | refine AWP.cond rfl (fun c => ?_) (fun c => ?_) <;> first | (try simp only [dD] at c)
 | refine AWP.skip ?_
 | (refine ACall.one (gisat_c g n hg) (by kernel_rfl) rfl ?_; simp only [go_sem])
 | (refine ACall.one (gopen_c v.book.orders id hv.1) (by kernel_rfl) rfl ?_; simp only [go_sem])
 | (refine ACall.one (gopen_c v.sent id hv.2.2.2) (by kernel_rfl) rfl ?_; simp only [go_sem])
 | (refine AGuard.splitN (fun h => ?_) (fun h => ?_) <;> simp only [h, go_sem] <;> (try simp only [dD] at h))
 | (refine AGet.haveM (by assumption) ?_; (try simp only [go_sem]))
 | (
  refine AWP.ret ?_
  refine AEnd.is ?_; simp only [go_sem, out_v, out_s, out_n, v_int, v_bool, v_str] <;> (first | (rw [cancel_no (by assumption)]; simp; done) | (rw [cancel_yes (by assumption) hx]; simp [*]; done) | fail))
 | fail)
set_option maxHeartbeats 4000000 in
set_option maxRecDepth 8000 in
theorem gstands_c (g : Gt) (n : Int) (hg : GtIn g) : ACalls E 35 [gtV g, i64 n] (fun r t => r = .tup [i64 (standsG g n).1, i64 (standsG g n).2] ∧ t = []) := by
 have hg1 := hg.1
 have hg2 := hg.2.1
 refine ACalls.of_awp (n := 20) (rs := [.tmp 4, .tmp 5]) Tryz.func35 rfl Tryz.ntmps35 rfl ?_
 repeat' (first
 | refine AWP.seqk fun K hK => ?_
 | (
  refine AWP.here 3 10 12 rfl ?_
  obtain ⟨k, v, rfl, hx⟩ := isAt_get (by assumption)
  have hsm := isAt_small (by assumption) hx
  have hn := get_lt hx
  refine AWP.regionO [0, 1, 2, 3, 4, 5, 6, 7, 8, 9, 10, 11] [] (by kernel_rfl) (by kernel_rfl) rfl ?_; simp only [go_sem])
 | (refine AWP.region ?_; simp only [go_sem])
 | (refine hK _ ?_; clear hK K)
 | refine AWP.cond rfl (fun c => ?_) (fun c => ?_) <;> first | (try simp only [dD] at c)
 | refine AWP.skip ?_
 | (refine ACall.one (gisat_c g n hg) (by kernel_rfl) rfl ?_; simp only [go_sem])
 | (refine ACall.one (gstate_c v g.now g.pat hsm) (by kernel_rfl) rfl ?_; simp only [go_sem])
 | (refine AGet.haveM (by assumption) ?_; (try simp only [go_sem]))
 | (
  refine AWP.ret ?_
  refine AEnd.is ?_; simp only [go_sem, out_v, out_s, out_n, v_int, v_bool, v_str] <;> (first | (rw [stands_no (by assumption)]; simp; done) | (rw [stands_yes (by assumption) hx]; simp [*]; done) | fail))
 | fail)
end Go.Proofs.YtajeeghgiilhiaaGreat
end
section
namespace Go.Abs
open Go Go.RowKit
theorem inb_ret {id : Nat} {Q : Exit → St → Prop} {s : St} : AInBlock id Q .ret s = Q .ret s := rfl
theorem athen_ret {n : St → Prop} {Q : Exit → St → Prop} {s : St} : AThen n Q .ret s = Q .ret s := rfl
theorem ACalls.untok {E : Env} {f : FuncId} {args : List AV} {k n t0 : Nat} {es : List AV} (h : ACalls E f args fun r t => r = .sl (some t0) k es ∧ t = [n]) : ACalls E f args fun r t => r = .sl none k es ∧ t = [] :=
 fun w im vs h0 hg h1 h2 => (h w im vs h0 hg h1 h2).mono fun _ _ ⟨v, r, tks, im', a, b, d, e, f, g, i, j⟩ => by
   obtain ⟨rfl, _⟩ := j
   exact ⟨v, _, [], im', a, b, d, e, f, ⟨fun i T b h => by simp at h, fun i j T U b d h => by simp at h⟩, .base i.sl_base, rfl, rfl⟩
end Go.Abs
end
section
namespace Go.Proofs.YtajeeghgiilhiaaGreat
open Go Go.Abs Go.RowKit Go.Bk
theorem bel_vns {no nt m : Nat} {l : List Vn} : ∀ es, some (l.map vnV ++ spare 8 m) = some es → ∀ e ∈ es, ∀ z ∈ e.leaves, z.bel no nt = true := bel_row fun x z hz => by
 simp only [AV.leaves, List.mem_cons, List.not_mem_nil, or_false] at hz
 rcases hz with rfl | rfl | rfl | rfl | rfl | rfl | rfl | rfl <;> rfl
theorem vn_ren (σ : Nat → Option Nat) (l : List Vn) (m : Nat) : (l.map vnV ++ spare 8 m).map (AV.ren σ) = l.map vnV ++ spare 8 m := ren_row fun _ => rfl
theorem vn_take {l : List Vn} {m : Nat} : (l.map vnV ++ spare 8 m).take l.length = l.map vnV := List.take_left' (by simp)
theorem cl_vn (l : List Vn) : ∀ e ∈ l.map vnV, ∀ x ∈ e.leaves, x.clean1 = some x := by
 intro e he x hx
 obtain ⟨o, _, rfl⟩ := List.mem_map.1 he
 simp only [AV.leaves, List.mem_cons, List.not_mem_nil, or_false] at hx
 rcases hx with rfl | rfl | rfl | rfl | rfl | rfl | rfl | rfl <;> rfl
theorem row_same {l : List Vn} {i m : Nat} {v : Vn} (h : l[i]? = some v) : (l.map vnV ++ spare 8 m).set i (.agg [odsV v.book.orders, dnsV v.book.fills, .sl none 1 (v.book.ids.map str), i64 v.book.clock, i64 v.book.bad, odsV v.sent, i64 v.last, bl v.gap]) = l.map vnV ++ spare 8 m := by
 obtain ⟨hi, rfl⟩ := List.getElem?_eq_some_iff.1 h
 rw [List.set_append_left _ _ (by simpa using hi)]
 congr 1
 apply List.ext_getElem (by simp)
 intro k h1 h2
 rw [List.getElem_set]
 split
 · rename_i e; subst e; simp
 · rfl
theorem spare_zero {k : Nat} : spare k 0 = [] := rfl
theorem dclone_p (l : List Dn) (hl : l.length ≤ 1000000) : ACalls E 127 [.sl none 9 (l.map dnV)] (fun r t => r = .sl none 9 (l.map dnV) ∧ t = []) := (dclone_c l hl).untok
theorem sclone_p (l : List Bs) (hl : l.length ≤ 1000000) : ACalls E 128 [.sl none 1 (l.map str)] (fun r t => r = .sl none 1 (l.map str) ∧ t = []) := (sclone_c l hl).untok
set_option maxHeartbeats 4000000 in
set_option maxRecDepth 8000 in
theorem limclone_c (l : List Lm) (hl : l.length ≤ 1000000) : ACalls E 145 [.sl none 6 (l.map lmV)] (fun r t => r = .sl (some 0) 6 (l.map lmV) ∧ t = [l.length]) := by
 refine ACalls.of_awp (n := 8) (rs := [.tmp 2]) Tryz.func145 rfl Tryz.ntmps145 rfl ?_
 repeat' (first
 | refine AWP.seqk fun K hK => ?_
 | (refine AWP.region ?_; simp only [go_sem])
 | (refine hK _ ?_; clear hK K)
 | refine AWP.cond rfl (fun c => ?_) (fun c => ?_) <;> first | (try simp only [dD] at c)
 | refine AWP.skip ?_
 | ((first | with_reducible refine And.intro ?_ ?_); (focus (first | omega | (simp; done) | fail)); (try simp only [hb, go_sem]))
 | (
  refine AWP.ret ?_
  simp only [go_sem]
  first
  | (have he : l = [] := by
       apply Classical.byContradiction; intro hne
       have := hbb (by simpa using hne)
       rw [this] at c; exact absurd c (by simp)
     exact ⟨[(false, 6)], .sl (some 0) 6 [], rfl, rfl, by rw [he]; rfl, by rw [he]; rfl⟩)
  | exact ⟨[(true, 0)], .sl (some 0) 6 _, rfl, ⟨rfl, rfl, rfl⟩, by simp, by simp [selLens]⟩)
 | (refine fun (bb : Bool) (hbb : _ → bb = false) => ?_)
 | fail)
theorem limclone_p (l : List Lm) (hl : l.length ≤ 1000000) : ACalls E 145 [.sl none 6 (l.map lmV)] (fun r t => r = .sl none 6 (l.map lmV) ∧ t = []) := (limclone_c l hl).untok
set_option maxHeartbeats 4000000 in
set_option maxRecDepth 8000 in
theorem gclone_p (g : Gt) (hg : GtSm g) : ACalls E 76 [gtV g] (fun r t => r = gtV g ∧ t = []) := by
 have hg1 := hg.1
 have hg2 := hg.2.1
 refine ACalls.of_awp (n := 63) (rs := [.cell 2 58]) Tryz.func76 rfl Tryz.ntmps76 rfl ?_
 repeat' (first
 | (
  refine AWP.cutTo hc1 ?_
  first
  | (refine AWP.renum [0, 1, 3] (by decide) rfl rfl ?_; simp only [go_sem, vn_ren, List.length_map]; refine AWP.weaken ?_ (hc1 m); (try simp only [go_sem]); (repeat' (first | refine And.intro ?_ ?_ | trivial | exact .inr (oblA rfl) | exact .inr bel_vns | fail)); done)
  | (have he : g.venues = [] := Classical.byContradiction fun hne => by
       have := hbb (by simpa using hne)
       simp_all
     refine AWP.nilOwn 0 0 8 _ rfl rfl ?_
     simp only [go_sem]
     refine AWP.weaken ?_ (hc1 0); (try simp only [go_sem, he, List.length_nil, List.map_nil, spare_zero]); (repeat' (first | refine And.intro ?_ ?_ | trivial | exact .inr (oblA rfl) | fail)); done))
 | refine AWP.seqk fun K hK => ?_
 | (
  refine AWP.here 1 5 5 rfl ?_
  first
  | (have h0 := hc1; clear h0; refine AWP.regionL ?_; refine AWPL.at 5 2 rfl ?_; simp only [go_sem])
  | (refine AWP.cutAt (ι := Nat) [5, 6, 7, 8] (fun (m : Nat) => []) (fun (m : Nat) => [some [.agg [.mu 2 8 0 g.venues.length (g.venues.length + m), lmsV g.limits, bl g.kill, i64 g.now, i64 g.pat]], some [.agg [.nilS, .nilS, bl false, i64 0, i64 0]], some (g.venues.map vnV ++ spare 8 m)]) (fun (m : Nat) => []) hK (fun m => ?_) (fun hc1 => ?_)))
 | (refine Cut.mk ?_; simp only [go_sem])
 | (
  refine AWP.here 5 15 5 rfl ?_
  obtain ⟨v, hx⟩ : ∃ v, g.venues[i]? = some v := ⟨_, List.getElem?_eq_getElem (by omega)⟩
  have hv := hg.2.2 v (List.mem_of_getElem? hx)
  have hx2 : (g.venues.map vnV ++ spare 8 m)[i]? = some (vnV v) := by rw [List.getElem?_append_left (by simpa using get_lt hx), List.getElem?_map, hx]; rfl
  refine AWP.region ?_; simp only [go_sem])
 | (
  refine AWP.here 7 29 11 rfl ?_
  (try rw [row_same hx])
  refine AWP.region ?_; simp only [go_sem])
 | (
  refine AWP.here 8 39 11 rfl ?_
  (try rw [row_same hx])
  refine AWP.region ?_; simp only [go_sem])
 | (
  refine AWP.here 9 49 9 rfl ?_
  (try rw [row_same hx])
  refine AWP.region ?_; simp only [go_sem])
 | (
  refine AWP.here 10 57 2 rfl ?_
  (try rw [row_same hx])
  refine AWP.region ?_; simp only [go_sem])
 | (
  refine AWP.here 12 62 2 rfl ?_
  refine AWP.publishLeaf 0 0 (jd := 2) (k := 8) (n := g.venues.length) (cap := g.venues.length + m) _ (g.venues.map vnV ++ spare 8 m) (by decide) rfl rfl rfl (by simp [spare_len]) (by rw [vn_take]; exact cl_vn _) ?_
  rw [vn_take]
  simp only [go_sem]
  refine AWP.region ?_; simp only [go_sem])
 | (
  refine AWP.here 3 5 4 rfl ?_
  refine AWP.regionL ?_
  refine AWPL.mkMu ap55 ?_
  simp only [go_sem]
  refine AWPL.at 3 1 rfl ?_
  simp only [go_sem]
  refine AWPL.appMu sr55 ap55 rfl rfl rfl (by simp; omega) (by simp; omega) ?_
  intro m
  simp only [go_sem]
  refine AWPL.of ?_
  simp only [go_sem])
 | (refine AWP.region ?_; simp only [go_sem])
 | (refine hK _ ?_; clear hK K)
 | refine AWP.block ?_
 | refine AWP.cond rfl (fun c => ?_) (fun c => ?_) <;> first | (try simp only [dD] at c)
 | refine AWP.skip ?_
 | (refine AWP.exit ?_; simp only [go_sem])
 | (refine ACall.one (oclone_p v.book.orders hv.1) (by kernel_rfl) rfl ?_; simp only [go_sem])
 | (refine ACall.one (oclone_p v.sent hv.2.2.2) (by kernel_rfl) rfl ?_; simp only [go_sem])
 | (refine ACall.one (dclone_p v.book.fills hv.2.1) (by kernel_rfl) rfl ?_; simp only [go_sem])
 | (refine ACall.one (sclone_p v.book.ids hv.2.2.1) (by kernel_rfl) rfl ?_; simp only [go_sem])
 | (refine ACall.one (limclone_p g.limits hg2) (by kernel_rfl) rfl ?_; simp only [go_sem])
 | (refine AWPL.call (rs := [.tmp 2]) Tryz.func144 rfl Tryz.ntmps144 rfl (by kernel_rfl) rfl rfl ?_; simp only [go_sem])
 | (refine AGet.haveM (by assumption) ?_; (try simp only [go_sem]))
 | (refine AGet.have' (by assumption) ?_; (try simp only [go_sem]))
 | ((first | with_reducible refine And.intro ?_ ?_); (focus (first | omega | (simp; done) | fail)); (try simp only [hb, go_sem]))
 | (
  refine AWP.here 3 13 1 rfl ?_
  refine AWP.loopN (ι := Nat) [3, 4, 13, 14, 15, 16, 17, 18, 19, 20, 21, 22, 23, 24, 25, 26, 27, 28, 29, 30, 31, 32, 33, 34, 35, 36, 37, 38, 39, 40, 41, 42, 43, 44, 45, 46, 47, 48, 49, 50, 51, 52, 53, 54, 55, 56, 57] (fun (i : Nat) => [(12, i64 i)]) (fun (i : Nat) => i ≤ g.venues.length) (fun (i : Nat) => g.venues.length - i) (0) ?_ ?_ ?_
  · (try simp only [go_sem]); (repeat' (first | refine And.intro ?_ ?_ | trivial | exact .inr (oblA rfl) | exact .inr bel_vns | fail)); done
  · omega
  rintro i h1
  simp only [go_sem])
 | (
  refine ⟨i + 1, ?_, ?_, ?_⟩
  · (try simp only [go_sem]); (try rw [wrap64_id (by omega) (by omega)]); (repeat' (first | refine And.intro ?_ ?_ | exact .inr rfl | trivial | exact .inr (oblA rfl) | exact .inr bel_vns | fail)); done
  · omega
  · (try simp only []); omega)
 | (
  refine AWP.ret ?_
  refine AEnd.is ?_; simp only [go_sem, out_v, out_s, out_n, v_int, v_bool, v_str] <;> (first | fail))
 | (refine AWP.ret ?_; refine AInPost.ret rfl ?_; simp only [go_sem])
 | (refine AWP.ret ?_; simp only [inb_ret, athen_ret]; refine AInPost.ret rfl ?_; simp only [go_sem])
 | (refine AWPL.of ?_; simp only [go_sem])
 | ((fail_if_success (have := hbb)); (with_reducible intro bb hbb))
 | refine AWP.fin (by assumption) ?_
 | fail)
end Go.Proofs.YtajeeghgiilhiaaGreat
end
section
namespace Go.Proofs.YtajeeghgiilhiaaGreat
open Go Go.Abs Go.RowKit Go.Bk
set_option maxHeartbeats 4000000 in
set_option maxRecDepth 8000 in
theorem gkill_c (g : Gt) (on : Bool) (hg : GtSm g) : ACalls E 88 [gtV g, bl on] (fun r t => r = .tup [gtV (killG g on).1, i64 (killG g on).2] ∧ t = []) := by
 have hgi := hg.fit
 refine ACalls.of_awp (n := 16) (rs := [.cell 4 58, .tmp 5]) Tryz.func88 rfl Tryz.ntmps88 rfl ?_
 repeat' (first
 | refine AWP.seqk fun K hK => ?_
 | (refine AWP.region ?_; simp only [go_sem])
 | (refine hK _ ?_; clear hK K)
 | refine AWP.cond rfl (fun c => ?_) (fun c => ?_) <;> first | (try simp only [dD] at c)
 | refine AWP.skip ?_
 | (refine ACall.one (gclone_p g hg) (by kernel_rfl) rfl ?_; simp only [go_sem])
 | (refine ACall.one (gright_c g hgi) (by kernel_rfl) rfl ?_; simp only [go_sem])
 | (
  refine AWP.ret ?_
  refine AEnd.is ?_; simp only [go_sem, out_v, out_s, out_n, v_int, v_bool, v_str] <;> (first | (rw [kill_yes (by assumption)]; simp; done) | (rw [kill_no (by assumption)]; simp; done) | fail))
 | fail)
set_option maxHeartbeats 4000000 in
set_option maxRecDepth 8000 in
theorem gtick_c (g : Gt) (now : Int) (hg : GtSm g) : ACalls E 86 [gtV g, i64 now] (fun r t => r = .tup [gtV (tickG g now).1, i64 (tickG g now).2] ∧ t = []) := by
 have hgi := hg.fit
 refine ACalls.of_awp (n := 26) (rs := [.cell 4 58, .tmp 5]) Tryz.func86 rfl Tryz.ntmps86 rfl ?_
 repeat' (first
 | refine AWP.seqk fun K hK => ?_
 | (refine AWP.region ?_; simp only [go_sem])
 | (refine hK _ ?_; clear hK K)
 | refine AWP.cond rfl (fun c => ?_) (fun c => ?_) <;> first | exact Bool.noConfusion c | (try simp only [dD] at c)
 | refine AWP.skip ?_
 | (refine ACall.one (gclone_p g hg) (by kernel_rfl) rfl ?_; simp only [go_sem])
 | (refine ACall.one (gright_c g hgi) (by kernel_rfl) rfl ?_; simp only [go_sem])
 | (refine AGuard.splitN (fun h => ?_) (fun h => ?_) <;> simp only [h, go_sem] <;> (try simp only [dD] at h))
 | (refine AGuard.split (fun h => ?_) (fun h => ?_) <;> simp only [h, go_sem] <;> (try simp only [dD] at h))
 | (
  refine AWP.ret ?_
  refine AEnd.is ?_; simp only [go_sem, out_v, out_s, out_n, v_int, v_bool, v_str] <;> (first | (rw [tick_yes (by assumption) (by omega) (by omega)]; simp; done) | (rw [tick_no (by assumption)]; simp; done) | (rw [tick_no2 (by omega)]; simp; done) | fail))
 | fail)
end Go.Proofs.YtajeeghgiilhiaaGreat
end
section
namespace Go.Proofs.YtajeeghgiilhiaaGreat
open Go Go.Abs Go.RowKit Go.Bk
theorem vn_takeS {l : List Vn} {k m : Nat} {v : Vn} : ((l.set k v).map vnV ++ spare 8 m).take l.length = (l.set k v).map vnV := List.take_left' (by simp)
theorem row_put {l : List Vn} {k m : Nat} {v : Vn} (h : k < l.length) : (l.map vnV ++ spare 8 m).set k (vnV v) = (l.set k v).map vnV ++ spare 8 m := by
 rw [List.set_append_left _ _ (by simpa using h), List.map_set]
set_option maxHeartbeats 4000000 in
set_option maxRecDepth 8000 in
theorem ggap_c (g : Gt) (n : Int) (b : Bool) (hg : GtSm g) : ACalls E 89 [gtV g, i64 n, bl b] (fun r t => r = .tup [gtV (gapG g n b).1, i64 (gapG g n b).2] ∧ t = []) := by
 have hgi := hg.fit
 have hg1 := hg.1
 have hg2 := hg.2.1
 refine ACalls.of_awp (n := 23) (rs := [.cell 6 58, .tmp 7]) Tryz.func89 rfl Tryz.ntmps89 rfl ?_
 repeat' (first
 | (
  refine AWP.cutTo hc1 ?_
  first
  | (refine AWP.renum [0, 1, 2, 3, 5] (by decide) rfl rfl ?_; simp only [go_sem, vn_ren, List.length_map]; refine AWP.weaken ?_ (hc1 m); (try simp only [go_sem]); (repeat' (first | refine And.intro ?_ ?_ | trivial | exact .inr (oblA rfl) | exact .inr bel_vns | fail)); done)
  | (have he : g.venues = [] := Classical.byContradiction fun hne => by
       have := hbb (by simpa using hne)
       simp_all
     refine AWP.nilOwn 2 0 8 _ rfl rfl ?_
     simp only [go_sem]
     refine AWP.weaken ?_ (hc1 0); (try simp only [go_sem, he, List.length_nil, List.map_nil, spare_zero]); (repeat' (first | refine And.intro ?_ ?_ | trivial | exact .inr (oblA rfl) | fail)); done))
 | refine AWP.seqk fun K hK => ?_
 | (
  refine AWP.here 1 5 5 rfl ?_
  first
  | (have h0 := hc1; clear h0; refine AWP.regionL ?_; refine AWPL.at 5 2 rfl ?_; simp only [go_sem])
  | (refine AWP.cutAt (ι := Nat) [5, 6, 7, 8] (fun (m : Nat) => []) (fun (m : Nat) => [some [.agg [vnsV g.venues, lmsV g.limits, bl g.kill, i64 g.now, i64 g.pat]], some [.agg [.nilS, .nilS, bl false, i64 0, i64 0]], some [.agg [.mu 4 8 0 g.venues.length (g.venues.length + m), lmsV g.limits, bl g.kill, i64 g.now, i64 g.pat]], some [.agg [.nilS, .nilS, bl false, i64 0, i64 0]], some (g.venues.map vnV ++ spare 8 m)]) (fun (m : Nat) => []) hK (fun m => ?_) (fun hc1 => ?_)))
 | (refine Cut.mk ?_; simp only [go_sem])
 | (
  refine AWP.here 3 15 3 rfl ?_
  refine AWP.publishLeaf 5 0 (jd := 4) (k := 8) (n := g.venues.length) (cap := g.venues.length + m) _ (g.venues.map vnV ++ spare 8 m) (by decide) rfl rfl rfl (by simp [spare_len]) (by rw [vn_take]; exact cl_vn _) ?_
  rw [vn_take]
  simp only [go_sem]
  refine AWP.region ?_; simp only [go_sem])
 | (
  refine AWP.here 4 16 7 rfl ?_
  obtain ⟨k, v, rfl, hx⟩ := isAt_get (by assumption)
  have hn := get_lt hx
  have hx2 : (g.venues.map vnV ++ spare 8 m)[k]? = some (vnV v) := by rw [List.getElem?_append_left (by simpa using get_lt hx), List.getElem?_map, hx]; rfl
  refine AWP.region ?_; simp only [go_sem])
 | (
  refine AWP.here 5 22 3 rfl ?_
  rw [show (g.venues.map vnV ++ spare 8 m).set k (.agg [odsV v.book.orders, dnsV v.book.fills, .sl none 1 (v.book.ids.map str), i64 v.book.clock, i64 v.book.bad, odsV v.sent, i64 v.last, bl b]) = (g.venues.set k ⟨v.book, v.sent, v.last, b⟩).map vnV ++ spare 8 m from row_put (v := ⟨v.book, v.sent, v.last, b⟩) hn]
  refine AWP.publishLeaf 5 0 (jd := 4) (k := 8) (n := g.venues.length) (cap := g.venues.length + m) _ ((g.venues.set k ⟨v.book, v.sent, v.last, b⟩).map vnV ++ spare 8 m) (by decide) rfl rfl rfl (by simp [spare_len]) (by rw [vn_takeS]; exact cl_vn _) ?_
  rw [vn_takeS]
  simp only [go_sem]
  refine AWP.region ?_; simp only [go_sem])
 | (
  refine AWP.here 5 15 5 rfl ?_
  obtain ⟨v, hx⟩ : ∃ v, g.venues[i]? = some v := ⟨_, List.getElem?_eq_getElem (by omega)⟩
  have hv := hg.2.2 v (List.mem_of_getElem? hx)
  have hx2 : (g.venues.map vnV ++ spare 8 m)[i]? = some (vnV v) := by rw [List.getElem?_append_left (by simpa using get_lt hx), List.getElem?_map, hx]; rfl
  refine AWP.region ?_; simp only [go_sem])
 | (
  refine AWP.here 7 29 11 rfl ?_
  (try rw [row_same hx])
  refine AWP.region ?_; simp only [go_sem])
 | (
  refine AWP.here 8 39 11 rfl ?_
  (try rw [row_same hx])
  refine AWP.region ?_; simp only [go_sem])
 | (
  refine AWP.here 9 49 9 rfl ?_
  (try rw [row_same hx])
  refine AWP.region ?_; simp only [go_sem])
 | (
  refine AWP.here 10 57 2 rfl ?_
  (try rw [row_same hx])
  refine AWP.region ?_; simp only [go_sem])
 | (
  refine AWP.here 3 5 4 rfl ?_
  refine AWP.regionL ?_
  refine AWPL.mkMu ap55 ?_
  simp only [go_sem]
  refine AWPL.at 3 1 rfl ?_
  simp only [go_sem]
  refine AWPL.appMu sr55 ap55 rfl rfl rfl (by simp; omega) (by simp; omega) ?_
  intro m
  simp only [go_sem]
  refine AWPL.of ?_
  simp only [go_sem])
 | (refine AWP.here 1 9 4 rfl ?_; refine AWP.regionL ?_; refine AWPL.at 4 1 rfl ?_; simp only [go_sem])
 | (refine AWP.region ?_; simp only [go_sem])
 | (refine hK _ ?_; clear hK K)
 | refine AWP.block ?_
 | refine AWP.cond rfl (fun c => ?_) (fun c => ?_) <;> first | (try simp only [dD] at c)
 | refine AWP.skip ?_
 | (refine AWP.exit ?_; simp only [go_sem])
 | (refine ACall.one (gisat_c g n hgi) (by kernel_rfl) rfl ?_; simp only [go_sem])
 | (refine ACall.one (oclone_p v.book.orders hv.1) (by kernel_rfl) rfl ?_; simp only [go_sem])
 | (refine ACall.one (oclone_p v.sent hv.2.2.2) (by kernel_rfl) rfl ?_; simp only [go_sem])
 | (refine ACall.one (dclone_p v.book.fills hv.2.1) (by kernel_rfl) rfl ?_; simp only [go_sem])
 | (refine ACall.one (sclone_p v.book.ids hv.2.2.1) (by kernel_rfl) rfl ?_; simp only [go_sem])
 | (refine ACall.one (limclone_p g.limits hg2) (by kernel_rfl) rfl ?_; simp only [go_sem])
 | (refine AWPL.call (rs := [.cell 2 58]) Tryz.func76 rfl Tryz.ntmps76 rfl (by kernel_rfl) rfl rfl ?_; simp only [go_sem])
 | (refine AWPL.call (rs := [.tmp 2]) Tryz.func144 rfl Tryz.ntmps144 rfl (by kernel_rfl) rfl rfl ?_; simp only [go_sem])
 | (refine AGet.haveM (by assumption) ?_; (try simp only [go_sem]))
 | (refine AGet.have' (by assumption) ?_; (try simp only [go_sem]))
 | ((first | with_reducible refine And.intro ?_ ?_); (focus (first | omega | (simp; done) | fail)); (try simp only [hb, go_sem]))
 | (
  refine AWP.here 3 13 1 rfl ?_
  refine AWP.loopN (ι := Nat) [3, 4, 13, 14, 15, 16, 17, 18, 19, 20, 21, 22, 23, 24, 25, 26, 27, 28, 29, 30, 31, 32, 33, 34, 35, 36, 37, 38, 39, 40, 41, 42, 43, 44, 45, 46, 47, 48, 49, 50, 51, 52, 53, 54, 55, 56, 57] (fun (i : Nat) => [(12, i64 i)]) (fun (i : Nat) => i ≤ g.venues.length) (fun (i : Nat) => g.venues.length - i) (0) ?_ ?_ ?_
  · (try simp only [go_sem]); (repeat' (first | refine And.intro ?_ ?_ | trivial | exact .inr (oblA rfl) | exact .inr bel_vns | fail)); done
  · omega
  rintro i h1
  simp only [go_sem])
 | (
  refine ⟨i + 1, ?_, ?_, ?_⟩
  · (try simp only [go_sem]); (try rw [wrap64_id (by omega) (by omega)]); (repeat' (first | refine And.intro ?_ ?_ | exact .inr rfl | trivial | exact .inr (oblA rfl) | exact .inr bel_vns | fail)); done
  · omega
  · (try simp only []); omega)
 | (
  refine AWP.ret ?_
  refine AEnd.is ?_; simp only [go_sem, out_v, out_s, out_n, v_int, v_bool, v_str] <;> (first | (rw [gap_no (by assumption)]; simp; done) | (rw [gap_yes (by assumption) hx]; simp [withG]; done) | fail))
 | (refine AWP.ret ?_; refine AInPost.ret rfl ?_; simp only [go_sem])
 | (refine AWP.ret ?_; simp only [inb_ret, athen_ret]; refine AInPost.ret rfl ?_; simp only [go_sem])
 | (refine AWPL.of ?_; simp only [go_sem])
 | ((fail_if_success (have := hbb)); (with_reducible intro bb hbb))
 | refine AWP.fin (by assumption) ?_
 | fail)
end Go.Proofs.YtajeeghgiilhiaaGreat
end
section
namespace Go.Proofs.YtajeeghgiilhiaaGreat
open Go Go.Abs Go.RowKit Go.Bk
set_option maxHeartbeats 4000000 in
set_option maxRecDepth 8000 in
theorem greset_c (g : Gt) (n : Int) (hg : GtSm g) : ACalls E 90 [gtV g, i64 n] (fun r t => r = .tup [gtV (resetG g n).1, i64 (resetG g n).2] ∧ t = []) := by
 have hgi := hg.fit
 have hg1 := hg.1
 have hg2 := hg.2.1
 refine ACalls.of_awp (n := 30) (rs := [.cell 4 58, .tmp 5]) Tryz.func90 rfl Tryz.ntmps90 rfl ?_
 repeat' (first
 | (
  refine AWP.cutTo hc1 ?_
  first
  | (refine AWP.renum [0, 1, 2, 3, 5] (by decide) rfl rfl ?_; simp only [go_sem, vn_ren, List.length_map]; refine AWP.weaken ?_ (hc1 m); (try simp only [go_sem]); (repeat' (first | refine And.intro ?_ ?_ | trivial | exact .inr (oblA rfl) | exact .inr bel_vns | fail)); done)
  | (have he : g.venues = [] := Classical.byContradiction fun hne => by
       have := hbb (by simpa using hne)
       simp_all
     refine AWP.nilOwn 2 0 8 _ rfl rfl ?_
     simp only [go_sem]
     refine AWP.weaken ?_ (hc1 0); (try simp only [go_sem, he, List.length_nil, List.map_nil, spare_zero]); (repeat' (first | refine And.intro ?_ ?_ | trivial | exact .inr (oblA rfl) | fail)); done))
 | refine AWP.seqk fun K hK => ?_
 | (
  refine AWP.here 1 5 5 rfl ?_
  first
  | (have h0 := hc1; clear h0; refine AWP.regionL ?_; refine AWPL.at 5 2 rfl ?_; simp only [go_sem])
  | (refine AWP.cutAt (ι := Nat) [5, 6, 7, 8] (fun (m : Nat) => []) (fun (m : Nat) => [some [.agg [vnsV g.venues, lmsV g.limits, bl g.kill, i64 g.now, i64 g.pat]], some [.agg [.nilS, .nilS, bl false, i64 0, i64 0]], some [.agg [.mu 4 8 0 g.venues.length (g.venues.length + m), lmsV g.limits, bl g.kill, i64 g.now, i64 g.pat]], some [.agg [.nilS, .nilS, bl false, i64 0, i64 0]], some (g.venues.map vnV ++ spare 8 m)]) (fun (m : Nat) => []) hK (fun m => ?_) (fun hc1 => ?_)))
 | (refine Cut.mk ?_; simp only [go_sem])
 | (
  refine AWP.here 3 13 3 rfl ?_
  refine AWP.publishLeaf 5 0 (jd := 4) (k := 8) (n := g.venues.length) (cap := g.venues.length + m) _ (g.venues.map vnV ++ spare 8 m) (by decide) rfl rfl rfl (by simp [spare_len]) (by rw [vn_take]; exact cl_vn _) ?_
  rw [vn_take]
  simp only [go_sem]
  refine AWP.region ?_; simp only [go_sem])
 | (
  refine AWP.here 4 14 8 rfl ?_
  obtain ⟨k, v, rfl, hx⟩ := isAt_get (by assumption)
  have hn := get_lt hx
  have hx2 : (g.venues.map vnV ++ spare 8 m)[k]? = some (vnV v) := by rw [List.getElem?_append_left (by simpa using get_lt hx), List.getElem?_map, hx]; rfl
  refine AWP.region ?_; simp only [go_sem])
 | (
  refine AWP.here 5 22 3 rfl ?_
  refine AWP.publishLeaf 5 0 (jd := 4) (k := 8) (n := g.venues.length) (cap := g.venues.length + m) _ (g.venues.map vnV ++ spare 8 m) (by decide) rfl rfl rfl (by simp [spare_len]) (by rw [vn_take]; exact cl_vn _) ?_
  rw [vn_take]
  simp only [go_sem]
  refine AWP.region ?_; simp only [go_sem])
 | (
  refine AWP.here 7 29 3 rfl ?_
  rw [show (g.venues.map vnV ++ spare 8 m).set k (.agg [odsV v.book.orders, dnsV v.book.fills, .sl none 1 (v.book.ids.map str), i64 v.book.clock, i64 0, odsV v.sent, i64 v.last, bl v.gap]) = (g.venues.set k ⟨⟨v.book.orders, v.book.fills, v.book.ids, v.book.clock, 0⟩, v.sent, v.last, v.gap⟩).map vnV ++ spare 8 m from row_put (v := ⟨⟨v.book.orders, v.book.fills, v.book.ids, v.book.clock, 0⟩, v.sent, v.last, v.gap⟩) hn]
  refine AWP.publishLeaf 5 0 (jd := 4) (k := 8) (n := g.venues.length) (cap := g.venues.length + m) _ ((g.venues.set k ⟨⟨v.book.orders, v.book.fills, v.book.ids, v.book.clock, 0⟩, v.sent, v.last, v.gap⟩).map vnV ++ spare 8 m) (by decide) rfl rfl rfl (by simp [spare_len]) (by rw [vn_takeS]; exact cl_vn _) ?_
  rw [vn_takeS]
  simp only [go_sem]
  refine AWP.region ?_; simp only [go_sem])
 | (
  refine AWP.here 5 15 5 rfl ?_
  obtain ⟨v, hx⟩ : ∃ v, g.venues[i]? = some v := ⟨_, List.getElem?_eq_getElem (by omega)⟩
  have hv := hg.2.2 v (List.mem_of_getElem? hx)
  have hx2 : (g.venues.map vnV ++ spare 8 m)[i]? = some (vnV v) := by rw [List.getElem?_append_left (by simpa using get_lt hx), List.getElem?_map, hx]; rfl
  refine AWP.region ?_; simp only [go_sem])
 | (
  refine AWP.here 7 29 11 rfl ?_
  (try rw [row_same hx])
  refine AWP.region ?_; simp only [go_sem])
 | (
  refine AWP.here 8 39 11 rfl ?_
  (try rw [row_same hx])
  refine AWP.region ?_; simp only [go_sem])
 | (
  refine AWP.here 9 49 9 rfl ?_
  (try rw [row_same hx])
  refine AWP.region ?_; simp only [go_sem])
 | (
  refine AWP.here 10 57 2 rfl ?_
  (try rw [row_same hx])
  refine AWP.region ?_; simp only [go_sem])
 | (
  refine AWP.here 3 5 4 rfl ?_
  refine AWP.regionL ?_
  refine AWPL.mkMu ap55 ?_
  simp only [go_sem]
  refine AWPL.at 3 1 rfl ?_
  simp only [go_sem]
  refine AWPL.appMu sr55 ap55 rfl rfl rfl (by simp; omega) (by simp; omega) ?_
  intro m
  simp only [go_sem]
  refine AWPL.of ?_
  simp only [go_sem])
 | (refine AWP.here 1 7 4 rfl ?_; refine AWP.regionL ?_; refine AWPL.at 4 1 rfl ?_; simp only [go_sem])
 | (refine AWP.region ?_; simp only [go_sem])
 | (refine hK _ ?_; clear hK K)
 | refine AWP.block ?_
 | refine AWP.cond rfl (fun c => ?_) (fun c => ?_) <;> first | (try simp only [dD] at c)
 | refine AWP.skip ?_
 | (refine AWP.exit ?_; simp only [go_sem])
 | (refine ACall.one (gisat_c g n hgi) (by kernel_rfl) rfl ?_; simp only [go_sem])
 | (refine ACall.one (oclone_p v.book.orders hv.1) (by kernel_rfl) rfl ?_; simp only [go_sem])
 | (refine ACall.one (oclone_p v.sent hv.2.2.2) (by kernel_rfl) rfl ?_; simp only [go_sem])
 | (refine ACall.one (dclone_p v.book.fills hv.2.1) (by kernel_rfl) rfl ?_; simp only [go_sem])
 | (refine ACall.one (sclone_p v.book.ids hv.2.2.1) (by kernel_rfl) rfl ?_; simp only [go_sem])
 | (refine ACall.one (limclone_p g.limits hg2) (by kernel_rfl) rfl ?_; simp only [go_sem])
 | (refine AWPL.call (rs := [.cell 2 58]) Tryz.func76 rfl Tryz.ntmps76 rfl (by kernel_rfl) rfl rfl ?_; simp only [go_sem])
 | (refine AWPL.call (rs := [.tmp 2]) Tryz.func144 rfl Tryz.ntmps144 rfl (by kernel_rfl) rfl rfl ?_; simp only [go_sem])
 | (refine AGet.haveM (by assumption) ?_; (try simp only [go_sem]))
 | (refine AGet.have' (by assumption) ?_; (try simp only [go_sem]))
 | ((first | with_reducible refine And.intro ?_ ?_); (focus (first | omega | (simp; done) | fail)); (try simp only [hb, go_sem]))
 | (
  refine AWP.here 3 13 1 rfl ?_
  refine AWP.loopN (ι := Nat) [3, 4, 13, 14, 15, 16, 17, 18, 19, 20, 21, 22, 23, 24, 25, 26, 27, 28, 29, 30, 31, 32, 33, 34, 35, 36, 37, 38, 39, 40, 41, 42, 43, 44, 45, 46, 47, 48, 49, 50, 51, 52, 53, 54, 55, 56, 57] (fun (i : Nat) => [(12, i64 i)]) (fun (i : Nat) => i ≤ g.venues.length) (fun (i : Nat) => g.venues.length - i) (0) ?_ ?_ ?_
  · (try simp only [go_sem]); (repeat' (first | refine And.intro ?_ ?_ | trivial | exact .inr (oblA rfl) | exact .inr bel_vns | fail)); done
  · omega
  rintro i h1
  simp only [go_sem])
 | (
  refine ⟨i + 1, ?_, ?_, ?_⟩
  · (try simp only [go_sem]); (try rw [wrap64_id (by omega) (by omega)]); (repeat' (first | refine And.intro ?_ ?_ | exact .inr rfl | trivial | exact .inr (oblA rfl) | exact .inr bel_vns | fail)); done
  · omega
  · (try simp only []); omega)
 | (
  refine AWP.ret ?_
  refine AEnd.is ?_; simp only [go_sem, out_v, out_s, out_n, v_int, v_bool, v_str] <;> (first | (rw [reset_no (by assumption)]; simp; done) | (rw [reset_st (by assumption) hx (by assumption)]; simp; done) | (rw [reset_yes (by assumption) hx (by assumption)]; simp [withG]; done) | fail))
 | (refine AWP.ret ?_; refine AInPost.ret rfl ?_; simp only [go_sem])
 | (refine AWP.ret ?_; simp only [inb_ret, athen_ret]; refine AInPost.ret rfl ?_; simp only [go_sem])
 | (refine AWPL.of ?_; simp only [go_sem])
 | ((fail_if_success (have := hbb)); (with_reducible intro bb hbb))
 | refine AWP.fin (by assumption) ?_
 | fail)
end Go.Proofs.YtajeeghgiilhiaaGreat
end
section
namespace Go.Bk
open Go Go.Abs
def openO (o : Od) : Od := ⟨o.id, o.acc, o.sym, o.buy, o.qty, o.price, 0, true⟩
def knownB (v : Vn) (id : Bs) : Bool := hasB v.book.orders id || hasB v.sent id
def sendV (v : Vn) (o : Od) : Vn := ⟨v.book, v.sent ++ [o], v.last, v.gap⟩
def orderG (g : Gt) (n : Int) (o : Od) : Gt × Int × Int :=
 if isAtB g n = true ∧ mayB (openO o) = true then (match g.venues[n.toNat]? with
   | some v => if knownB v o.id then (g, 0, 7) else if whyG g v (openO o) ≠ 0 then (g, whyG g v (openO o), 0) else (withG g n.toNat (sendV v (openO o)), 0, 0)
   | none => (g, 0, 1)) else (g, 0, 1)
theorem order_no {g : Gt} {n : Int} {o : Od} (h : isAtB g n = false) : orderG g n o = (g, 0, 1) := if_neg (by simp [h])
theorem order_may {g : Gt} {n : Int} {o : Od} (h : mayB (openO o) = false) : orderG g n o = (g, 0, 1) := if_neg (by simp [h])
theorem order_at {g : Gt} {k : Nat} {o : Od} {v : Vn} (h : isAtB g (k : Int) = true) (hm : mayB (openO o) = true) (hx : g.venues[k]? = some v) :
   orderG g (k : Int) o = if knownB v o.id then (g, 0, 7) else if whyG g v (openO o) ≠ 0 then (g, whyG g v (openO o), 0) else (withG g k (sendV v (openO o)), 0, 0) := by
 unfold orderG; rw [if_pos ⟨h, hm⟩, Int.toNat_natCast, hx]
theorem order_twice {g : Gt} {k : Nat} {o : Od} {v : Vn} (h : isAtB g (k : Int) = true) (hm : mayB (openO o) = true) (hx : g.venues[k]? = some v) (hk : knownB v o.id = true) : orderG g (k : Int) o = (g, 0, 7) := by rw [order_at h hm hx, if_pos hk]
theorem order_why {g : Gt} {k : Nat} {o : Od} {v : Vn} (h : isAtB g (k : Int) = true) (hm : mayB (openO o) = true) (hx : g.venues[k]? = some v) (hk : knownB v o.id = false) (hw : ¬ whyG g v (openO o) = 0) : orderG g (k : Int) o = (g, whyG g v (openO o), 0) := by
 rw [order_at h hm hx, if_neg (by simp [hk]), if_pos hw]
theorem order_in {g : Gt} {k : Nat} {o : Od} {v : Vn} (h : isAtB g (k : Int) = true) (hm : mayB (openO o) = true) (hx : g.venues[k]? = some v) (hk : knownB v o.id = false) (hw : whyG g v (openO o) = 0) : orderG g (k : Int) o = (withG g k (sendV v (openO o)), 0, 0) := by
 rw [order_at h hm hx, if_neg (by simp [hk]), if_neg (by simp [hw])]
def newOf (o : Od) (id : Bs) (qty price : Int) : Od := ⟨id, o.acc, o.sym, o.buy, qty, price, o.done, o.opn⟩
def moreOf (o : Od) (id : Bs) (qty price : Int) : Od := ⟨id, o.acc, o.sym, o.buy, qty - o.done, price, 0, o.opn⟩
def changeG (g : Gt) (n : Int) (old id : Bs) (qty price : Int) : Gt × Int × Int :=
 if isAtB g n = true then (match g.venues[n.toNat]? with
   | some v => if (findF v.book.orders old).2 = false ∨ (findF v.book.orders old).1.opn = false then (g, 0, 6)
     else if mayB (newOf (findF v.book.orders old).1 id qty price) = false then (g, 0, 1)
     else if knownB v id then (g, 0, 7)
     else if whyG g v (moreOf (findF v.book.orders old).1 id qty price) ≠ 0 then (g, whyG g v (moreOf (findF v.book.orders old).1 id qty price), 0)
     else (withG g n.toNat (sendV v (newOf (findF v.book.orders old).1 id qty price)), 0, 0)
   | none => (g, 0, 1)) else (g, 0, 1)
theorem change_no {g : Gt} {n : Int} {old id : Bs} {q p : Int} (h : isAtB g n = false) : changeG g n old id q p = (g, 0, 1) := if_neg (by simp [h])
theorem change_at {g : Gt} {k : Nat} {old id : Bs} {q p : Int} {v : Vn} (h : isAtB g (k : Int) = true) (hx : g.venues[k]? = some v) : changeG g (k : Int) old id q p =
   if (findF v.book.orders old).2 = false ∨ (findF v.book.orders old).1.opn = false then (g, 0, 6)
     else if mayB (newOf (findF v.book.orders old).1 id q p) = false then (g, 0, 1)
     else if knownB v id then (g, 0, 7)
     else if whyG g v (moreOf (findF v.book.orders old).1 id q p) ≠ 0 then (g, whyG g v (moreOf (findF v.book.orders old).1 id q p), 0)
     else (withG g k (sendV v (newOf (findF v.book.orders old).1 id q p)), 0, 0) := by
 unfold changeG; rw [if_pos h, Int.toNat_natCast, hx]
def fitsO (x : Ex) (o : Od) : Bool := decide (o.id = x.ord) && decide (o.acc = x.acc) && decide (o.sym = x.sym) && decide (o.buy = x.buy) && decide (o.qty = x.qty) && decide (o.price = x.price) && (decide (o.done = 0) || decide (x.kind = 4))
def sentF (l : List Od) (x : Ex) : Option Nat := l.findIdx? (fitsO x)
def opensX (x : Ex) : Bool := decide (x.kind = 1) || decide (x.kind = 4)
def badV (v : Vn) (x : Ex) : Vn := ⟨⟨v.book.orders, v.book.fills, v.book.ids ++ [x.id], v.book.clock, 2⟩, v.sent, v.last, v.gap⟩
def toldV (g : Gt) (v : Vn) (x : Ex) (b : Bk) (k : Int) : Vn × Int :=
 if opensX x then (match sentF v.sent x with
   | none => (badV v x, 3)
   | some p => if k = 1 then (⟨b, v.sent.eraseIdx p, g.now, v.gap⟩, 1) else (⟨b, v.sent, v.last, v.gap⟩, k))
 else if k = 1 then (⟨b, v.sent, g.now, v.gap⟩, 1) else (⟨b, v.sent, v.last, v.gap⟩, k)
def toldG (g : Gt) (n : Int) (x : Ex) : Gt × Int × Int :=
 if isAtB g n = true then (match g.venues[n.toNat]? with
   | some v =>
     if (comeF v.book x).2 = 2 ∨ (comeF v.book x).2 = 4 then (g, (comeF v.book x).2, 0)
     else if (comeF v.book x).2 = 1 ∨ (comeF v.book x).2 = 3 then (withG g n.toNat (toldV g v x (comeF v.book x).1 (comeF v.book x).2).1, (toldV g v x (comeF v.book x).1 (comeF v.book x).2).2, 0)
     else (g, 0, 1)
   | none => (g, 0, 1)) else (g, 0, 1)
theorem told_no {g : Gt} {n : Int} {x : Ex} (h : isAtB g n = false) : toldG g n x = (g, 0, 1) := if_neg (by simp [h])
theorem told_at {g : Gt} {k : Nat} {x : Ex} {v : Vn} (h : isAtB g (k : Int) = true) (hx : g.venues[k]? = some v) : toldG g (k : Int) x =
   if (comeF v.book x).2 = 2 ∨ (comeF v.book x).2 = 4 then (g, (comeF v.book x).2, 0)
     else if (comeF v.book x).2 = 1 ∨ (comeF v.book x).2 = 3 then (withG g k (toldV g v x (comeF v.book x).1 (comeF v.book x).2).1, (toldV g v x (comeF v.book x).1 (comeF v.book x).2).2, 0)
     else (g, 0, 1) := by
 unfold toldG; rw [if_pos h, Int.toNat_natCast, hx]
def zeroV : Vn := ⟨⟨[], [], [], 0, 0⟩, [], 0, false⟩
def newG (n p : Int) : Gt × Int := if n < 1 ∨ 4 < n ∨ timeB p = false then (⟨[], [], false, 0, 0⟩, 1) else (⟨List.replicate n.toNat zeroV, [], false, 0, p⟩, 0)
theorem new_no {n p : Int} (h : n < 1 ∨ 4 < n ∨ timeB p = false) : newG n p = (⟨[], [], false, 0, 0⟩, 1) := if_pos h
theorem new_yes {n p : Int} (h1 : 1 ≤ n) (h2 : n ≤ 4) (h : timeB p = true) : newG n p = (⟨List.replicate n.toNat zeroV, [], false, 0, p⟩, 0) := if_neg (by rw [h]; simp; omega)
def posL (l : List Lm) (x : Lm) : Nat := (l.takeWhile fun y => decide (cmpL y x < 0)).length
def setL (l : List Lm) (x : Lm) : List Lm × Int :=
 if rightL l = true ∧ mayL x = true then
   (match l[posL l x]? with
   | some y => if cmpL y x = 0 then (l.set (posL l x) x, 0) else if l.length = 32 then (l, 5) else (l.take (posL l x) ++ x :: l.drop (posL l x), 0)
   | none => if l.length = 32 then (l, 5) else (l.take (posL l x) ++ x :: l.drop (posL l x), 0))
 else (l, 1)
def limitG (g : Gt) (x : Lm) : Gt × Int := if rightG g = true then (if (setL g.limits x).2 = 0 then (⟨g.venues, (setL g.limits x).1, g.kill, g.now, g.pat⟩, 0) else (g, (setL g.limits x).2)) else (g, 1)
theorem setL_bad {l : List Lm} {x : Lm} (h : ¬ (rightL l = true ∧ mayL x = true)) : setL l x = (l, 1) := if_neg h
theorem setL_nil {x : Lm} (h : mayL x = true) : setL [] x = ([x], 0) := by
 unfold setL; rw [if_pos ⟨by decide, h⟩]; rfl
theorem limit_no {g : Gt} {x : Lm} (h : rightG g = false) : limitG g x = (g, 1) := if_neg (by simp [h])
end Go.Bk
end
section
namespace Go.Abs
open Go Go.RowKit
theorem AWPL.makeS {E : Env} {Q : Exit → St → Prop} {st : St} {ops : Array Oper} {l : List Oper} {dst : Option Tmp} {t ty : TypeId} {pos : String} {after : Array Edge} {x y : Operand} {kl kc : IntKind} {e : TypeId} {k n m : Nat} {zs zs' : List AV}
   (hai : appInfo E.P t = some (e, k, n)) (hzv : tzero E.P e = some zs) (hx : st.ev x = .v (.int kl (m : Int))) (hy : st.ev y = .v (.int kc (m : Int))) (hl : zs'.length = zs.length) (hzz : ∀ (j : Nat) (z z' : AV), zs[j]? = some z → zs'[j]? = some z' → z' = z ∨ (z = .nilS ∧ ∃ q, z' = .sl none q [])) (hm : m ≤ 1000) (hk : k ≤ 1000) (hn : n ≤ 100000)
   (h : AWPL E ops l Q (St.put { st with tk := st.tk ++ [m] } dst (.sl (some st.tk.length) k (List.replicate m (.agg zs'))))) : AWPL E ops (⟨dst, .makeSlice t x y, ty, pos, after, none⟩ :: l) Q st := by
 intro w0 im0 cx a w h0 hG r
 refine wpList_step (fun K' hK' => ?_)
 have hw : Region.wanted ⟨dst, .makeSlice t x y, ty, pos, after, none⟩ (yielded ops a.tmps) = true := rfl
 rw [if_pos hw]
 obtain ⟨hu, hs, hk0, i, zv, hi, hz, hsize, hbytes, hzs⟩ := appInfo_ok hai
 have hzl : zs = zv.cells.toList.map leafOf ∧ zs.all AV.leafy = true := by
   unfold tzero at hzv
   simp only [hi, hz, Option.bind_some] at hzv
   split at hzv
   · rename_i hall
     simp only [Option.some.injEq] at hzv
     exact ⟨hzv.symm, by rw [← hzv]; exact hall⟩
   · simp at hzv
 have ex : a.eval x = .int kl (m : Int) := by have := r.ev x; rw [hx] at this; exact this.inv_v
 have ey : a.eval y = .int kc (m : Int) := by have := r.ev y; rw [hy] at this; exact this.inv_v
 have hsz : m * i.size ≤ 16777216 := by rw [hsize]; exact Nat.le_trans (Nat.mul_le_mul hm hk) (by decide)
 have hby : (i.bytes : Int) * (m : Int) ≤ 281474976710656 := by
   rw [hbytes]
   have : n * m ≤ 100000 * 1000 := Nat.mul_le_mul hn hm
   have h2 : ((n * m : Nat) : Int) ≤ 281474976710656 := by omega
   rwa [Int.natCast_mul] at h2
 have hrun := run_makeSlice (P := E.P) (w := w) t e i zv hu hi hz kl kc (m : Int) (m : Int) (by omega) (Int.le_refl _) (by simpa using hsz) hby (by omega)
 simp only [Int.toNat_natCast] at hrun
 have hlen : zs.length = k := by rw [hzl.1]; simp [hzs]
 have hcells : Cells cx.im k (List.replicate m (.agg zs')) (madeCells zv.cells (m * i.size)).toList := by
   refine ⟨fun j z hj => ?_, fun j z q u hj hq => ?_⟩
   · rw [List.getElem?_replicate] at hj
     split at hj
     · simp only [Option.some.injEq] at hj; subst hj; exact hl.trans hlen
     · simp at hj
   · rw [List.getElem?_replicate] at hj
     split at hj
     · rename_i hjm
       simp only [Option.some.injEq] at hj; subst hj
       have hq0 : zs'[q]? = some u := hq
       have hqk : q < k := by rw [← hlen, ← hl]; exact lt_of_get hq0
       obtain ⟨z, hq1⟩ : ∃ z, zs[q]? = some z := ⟨_, List.getElem?_eq_getElem (by omega)⟩
       have hqz : q < zv.cells.size := by omega
       have hu1 : z = leafOf zv.cells[q] := by
         rw [hzl.1, List.getElem?_map] at hq1
         simp [hqz] at hq1
         exact hq1.symm
       have hlt : j * k + q < m * i.size := by rw [hsize]; exact idx_lt hjm hqk
       have hmod : (j * k + q) % zv.cells.size = q := by rw [hzs, Nat.mul_comm, Nat.mul_add_mod, Nat.mod_eq_of_lt hqk]
       refine ⟨zv.cells[q], ?_, ?_⟩
       · simp only [madeCells, Array.toList_map, List.getElem?_map, Array.toList_range, List.getElem?_range hlt, Option.map_some, hmod]
         simp [hqz]
       · have hv : VR0 cx.im z zv.cells[q] := by rw [hu1]; exact leafOf_ok _ _
         have hlf : z.leafy = true := List.all_eq_true.1 hzl.2 z (List.mem_of_getElem? hq1)
         refine ⟨?_, VR.leafy (c := cx) (.base hv) hlf⟩
         rcases hzz q z u hq1 hq0 with rfl | ⟨rfl, p, rfl⟩
         · exact hv
         · have := (VR.base (c := cx) hv).inv_nilS
           rw [this]; exact .sl0 p none 0
     · simp at hj
 obtain ⟨c', hle, r2, hv⟩ := r.newTok (below_alloc w (.cells (madeCells zv.cells (m * i.size)) e)) (g := w.heap.size) (k := k) (cap := m) (es := List.replicate m (.agg zs')) (Nat.le_refl _) (heap_new w _) (.inl rfl)
   (by rw [size_madeCells, hsize]; exact Nat.le_refl _) (by simp) hcells
 rw [List.length_replicate] at r2 hv
 refine wp_value (w' := w.alloc (.cells (madeCells zv.cells (m * i.size)) e)) (v := .slice (some ⟨w.heap.size, 0, none⟩) m m) ?_ (hK' _ _ (h w0 im0 _ _ _ h0 hG (r2.put dst hv)))
 simp only [execOp, ex, ey, Sem.run_bind, hrun, Result.andThen_ok, Sem.run_pure]
end Go.Abs
end
section
namespace Go.Proofs.YtajeeghgiilhiaaGreat
open Go Go.Abs Go.RowKit Go.Bk
theorem limit_err {g : Gt} {x : Lm} (h : rightG g = true) (h2 : ¬ (setL g.limits x).2 = 0) : limitG g x = (g, (setL g.limits x).2) := by unfold limitG; rw [if_pos h, if_neg h2]
theorem limit_ok {g : Gt} {x : Lm} (h : rightG g = true) (h2 : (setL g.limits x).2 = 0) : limitG g x = (⟨g.venues, (setL g.limits x).1, g.kill, g.now, g.pat⟩, 0) := by unfold limitG; rw [if_pos h, if_pos h2]
theorem rightL_nil : rightL [] = true := by decide
theorem setL_may {x : Lm} (h : mayL x = false) : setL [] x = ([], 1) := setL_bad (fun e => by rw [h] at e; exact absurd e.2 (by simp))
theorem zs_ok : ∀ (j : Nat) (z z' : AV), ([.nilS, .nilS, .nilS, .v (.int .i64 0), .v (.int .i64 0), .nilS, .v (.int .i64 0), .v (.bool false)] : List AV)[j]? = some z → ([.sl none 8 [], .sl none 9 [], .sl none 1 [], i64 0, i64 0, .sl none 8 [], i64 0, bl false] : List AV)[j]? = some z' → z' = z ∨ (z = .nilS ∧ ∃ q, z' = .sl none q []) := by
 intro j z z' h1 h2
 match j with
 | 0 => cases h1; cases h2; exact .inr ⟨rfl, _, rfl⟩
 | 1 => cases h1; cases h2; exact .inr ⟨rfl, _, rfl⟩
 | 2 => cases h1; cases h2; exact .inr ⟨rfl, _, rfl⟩
 | 3 => cases h1; cases h2; exact .inl rfl
 | 4 => cases h1; cases h2; exact .inl rfl
 | 5 => cases h1; cases h2; exact .inr ⟨rfl, _, rfl⟩
 | 6 => cases h1; cases h2; exact .inl rfl
 | 7 => cases h1; cases h2; exact .inl rfl
 | j + 8 => simp at h1
set_option maxHeartbeats 4000000 in
set_option maxRecDepth 8000 in
theorem gnew_c (n p : Int) : ACalls E 27 [i64 n, i64 p] (fun r t => r = .tup [gtV (newG n p).1, i64 (newG n p).2] ∧ t = []) := by
 refine ACalls.of_awp (n := 22) (rs := [.cell 4 58, .tmp 5]) Tryz.func27 rfl Tryz.ntmps27 rfl ?_
 repeat' (first
 | refine AWP.seqk fun K hK => ?_
 | (
  refine AWP.here 3 18 6 rfl ?_
  have hnn : ∃ m : Nat, n = (m : Int) ∧ 1 ≤ m ∧ m ≤ 4 := ⟨n.toNat, by omega, by omega, by omega⟩
  obtain ⟨m, rfl, hm1, hm4⟩ := hnn
  refine AWP.regionL ?_
  refine AWPL.at 6 1 rfl ?_
  simp only [go_sem]
  refine AWPL.makeS (m := m) (zs' := [.sl none 8 [], .sl none 9 [], .sl none 1 [], i64 0, i64 0, .sl none 8 [], i64 0, bl false]) ap55 tz86 rfl rfl rfl zs_ok (by omega) (by decide) (by decide) ?_
  simp only [go_sem]
  refine AWPL.of ?_
  simp only [go_sem])
 | (refine AWP.region ?_; simp only [go_sem])
 | (refine hK _ ?_; clear hK K)
 | refine AWP.cond rfl (fun c => ?_) (fun c => ?_) <;> first | exact Bool.noConfusion c | (try simp only [dD] at c)
 | refine AWP.skip ?_
 | (refine ACall.one (gtime_c _) (by kernel_rfl) rfl ?_; simp only [go_sem])
 | (refine AGuard.splitN (fun h => ?_) (fun h => ?_) <;> simp only [h, go_sem] <;> (try simp only [dD] at h))
 | (
  refine AWP.ret ?_
  refine AEnd.is ?_; simp only [go_sem, out_v, out_s, out_n, v_int, v_bool, v_str, vnsV, lmsV] <;> (first | (rw [new_no (.inl (by assumption))]; simp; done) | (rw [new_no (.inr (.inl (by assumption)))]; simp; done) | (rw [new_no (.inr (.inr (by assumption)))]; simp; done) | (rw [new_yes (by omega) (by omega) (by assumption)]; simp [zeroV]; done) | fail))
 | fail)
set_option maxHeartbeats 4000000 in
set_option maxRecDepth 8000 in
theorem lsetn_c (x : Lm) : ACalls E 77 [.sl none 6 [], lmV x] (fun r t => r = .tup [lmsV (setL [] x).1, i64 (setL [] x).2] ∧ t = []) := by
 refine ACalls.of_awp (n := 41) (rs := [.tmp 4, .tmp 5]) Tryz.func77 rfl Tryz.ntmps77 rfl ?_
 repeat' (first
 | refine AWP.seqk fun K hK => ?_
 | (refine ACall.of (limclone_c [] (by decide)) (by kernel_rfl) rfl ?_; rintro r t ⟨rfl, rfl⟩; simp only [go_sem])
 | (refine ACall.one (lright_c [] (by decide)) (by kernel_rfl) rfl ?_; simp only [go_sem])
 | (refine ACall.one (lmay_c x) (by kernel_rfl) rfl ?_; simp only [go_sem])
 | (refine AWPL.call (rs := [.tmp 6, .tmp 7]) Tryz.func147 rfl Tryz.ntmps147 rfl (by kernel_rfl) rfl rfl ?_; simp only [go_sem])
 | (refine AWPL.call (rs := [.tmp 6]) Tryz.func149 rfl Tryz.ntmps149 rfl (by kernel_rfl) rfl rfl ?_; simp only [go_sem])
 | (refine AWP.here 4 21 8 rfl ?_; refine AWP.regionL ?_; refine AWPL.at 8 2 rfl ?_; simp only [go_sem])
 | (refine AWP.here 10 36 7 rfl ?_; refine AWP.regionL ?_; refine AWPL.at 7 4 rfl ?_; simp only [go_sem])
 | (refine AWP.region ?_; simp only [go_sem])
 | (refine AWP.here 8 35 16 rfl ?_; refine AWP.regionO [0, 1, 2, 3, 4, 5, 6, 7, 8, 9, 10, 11, 12, 13, 14, 15] [] (by kernel_rfl) (by kernel_rfl) rfl ?_; simp only [go_sem])
 | (refine hK _ ?_; clear hK K)
 | refine AWP.block ?_
 | refine AWP.cond rfl (fun c => ?_) (fun c => ?_) <;> first | exact Bool.noConfusion c | (try simp only [dD] at c)
 | refine AWP.skip ?_
 | (refine AWP.exit ?_; simp only [go_sem])
 | (refine AGuard.split (fun h => ?_) (fun h => ?_) <;> simp only [h, go_sem] <;> (try simp only [dD] at h))
 | ((first | with_reducible refine And.intro ?_ ?_); (focus (first | (simp; done) | fail)); (try simp only [hb, go_sem]))
 | (
  refine AWP.here 3 15 3 rfl ?_
  refine AWP.loopN (ι := Nat) [11, 15, 16, 17, 18, 19, 20, 21, 22, 23, 24, 25, 26, 27, 28, 29, 30, 31, 32, 33, 34] (fun (i : Nat) => [(9, i64 i), (10, i64 i)]) (fun (i : Nat) => i = 0) (fun (i : Nat) => 0) (0) ?_ ?_ ?_
  · (try simp only [go_sem]); (repeat' (first | exact .inr (oblA rfl) | fail)); done
  · rfl
  rintro i rfl
  simp only [go_sem])
 | (
  refine AWP.ret ?_
  refine AEnd.is ?_; simp only [go_sem, out_v, out_s, out_n, v_int, v_bool, v_str] <;> (first | (rw [setL_may (by assumption)]; exact ⟨rfl, rfl⟩) | (rw [setL_nil (by assumption)]; exact ⟨rfl, rfl⟩) | (exfalso; have hr : rightL [] = true := rightL_nil; simp_all; done) | fail))
 | (refine AWP.ret ?_; refine AInPost.ret rfl ?_; simp only [go_sem])
 | (refine AWP.ret ?_; simp only [inb_ret, athen_ret]; refine AInPost.ret rfl ?_; simp only [go_sem])
 | (refine AWPL.of ?_; simp only [go_sem])
 | refine AWP.fin (by assumption) ?_
 | fail)
set_option maxHeartbeats 4000000 in
set_option maxRecDepth 8000 in
theorem glimit_c (g : Gt) (x : Lm) (hg : GtSm g) (hs : ACalls E 77 [lmsV g.limits, lmV x] (fun r t => r = .tup [lmsV (setL g.limits x).1, i64 (setL g.limits x).2] ∧ t = [])) : ACalls E 28 [gtV g, lmV x] (fun r t => r = .tup [gtV (limitG g x).1, i64 (limitG g x).2] ∧ t = []) := by
 have hgi := hg.fit
 refine ACalls.of_awp (n := 29) (rs := [.cell 4 58, .tmp 5]) Tryz.func28 rfl Tryz.ntmps28 rfl ?_
 repeat' (first
 | refine AWP.seqk fun K hK => ?_
 | (refine AWP.region ?_; simp only [go_sem])
 | (refine hK _ ?_; clear hK K)
 | refine AWP.cond rfl (fun c => ?_) (fun c => ?_) <;> first | (try simp only [dD] at c)
 | refine AWP.skip ?_
 | (refine ACall.one (gclone_p g hg) (by kernel_rfl) rfl ?_; simp only [go_sem])
 | (refine ACall.one (gright_c g hgi) (by kernel_rfl) rfl ?_; simp only [go_sem])
 | (refine ACall.one (hs) (by kernel_rfl) rfl ?_; simp only [go_sem])
 | (
  refine AWP.ret ?_
  refine AEnd.is ?_; simp only [go_sem, out_v, out_s, out_n, v_int, v_bool, v_str] <;> (first | (rw [limit_no (by assumption)]; simp; done) | (rw [limit_err (by assumption) (by assumption)]; simp; done) | (rw [limit_ok (by assumption) (by assumption)]; simp; done) | fail))
 | fail)
set_option maxHeartbeats 4000000 in
set_option maxRecDepth 8000 in
theorem gorder_n (g : Gt) (n : Int) (o : Od) (hg : GtSm g) (hn : isAtB g n = false ∨ mayB (openO o) = false) : ACalls E 29 [gtV g, i64 n, odV o] (fun r t => r = .tup [gtV g, i64 0, i64 1] ∧ t = []) := by
 have hgi := hg.fit
 refine ACalls.of_awp (n := 56) (rs := [.cell 6 58, .tmp 7, .tmp 8]) Tryz.func29 rfl Tryz.ntmps29 rfl ?_
 repeat' (first
 | refine AWP.seqk fun K hK => ?_
 | (refine AWP.region ?_; simp only [go_sem])
 | (refine hK _ ?_; clear hK K)
 | refine AWP.cond rfl (fun c => ?_) (fun c => ?_) <;> first | exact Bool.noConfusion c | (try simp only [dD] at c)
 | refine AWP.skip ?_
 | (refine ACall.one (gclone_p g hg) (by kernel_rfl) rfl ?_; simp only [go_sem])
 | (refine ACall.one (gisat_c g n hgi) (by kernel_rfl) rfl ?_; simp only [go_sem])
 | (refine ACall.one (omay_c (openO o)) (by kernel_rfl) rfl ?_; simp only [go_sem])
 | (refine AGuard.split (fun h => ?_) (fun h => ?_) <;> simp only [h, go_sem] <;> (try simp only [dD] at h))
 | (
  refine AWP.ret ?_
  refine AEnd.is ?_; simp only [go_sem, out_v, out_s, out_n, v_int, v_bool, v_str] <;> (first | fail))
 | (exfalso; rcases hn with hn | hn <;> simp_all; done)
 | fail)
end Go.Proofs.YtajeeghgiilhiaaGreat
end
section
namespace Go.Abs
open Go Go.RowKit
variable {w0 : World} {im0 : Base} {c : Ctx} {st : St} {a : Act} {w : World}
theorem Rel.setLeafAt (r : Rel w0 im0 c st a w) {id idx j : Nat} {es cs : List AV} {x y : AV} (ho : st.own[id]? = some (some es)) (he : es[idx]? = some (.agg cs)) (hx : cs[j]? = some x) (hxn : x ≠ .any) (hy : ∀ v, VR c x v → VR c y v) :
   Rel w0 im0 c { st with own := st.own.set id (some (es.set idx (.agg (cs.set j y)))) } a w := by
 have hlt := lt_of_get ho
 have hilt := lt_of_get he
 have conv : ∀ {i : Nat} {e : List AV}, (st.own.set id (some (es.set idx (.agg (cs.set j y)))))[i]? = some (some e) → (i = id ∧ e = es.set idx (.agg (cs.set j y))) ∨ (i ≠ id ∧ st.own[i]? = some (some e)) := by
   intro i e he
   rw [List.getElem?_set] at he
   by_cases hi' : id = i
   · subst hi'; rw [if_pos rfl, if_pos hlt] at he
     simp only [Option.some.injEq] at he; exact .inl ⟨rfl, he.symm⟩
   · rw [if_neg hi'] at he; exact .inr ⟨Ne.symm hi', he⟩
 have old : ∀ {i : Nat} {e : List AV}, (st.own.set id (some (es.set idx (.agg (cs.set j y)))))[i]? = some (some e) → ∃ e', st.own[i]? = some (some e') := fun {i e} he => by
   rcases conv he with ⟨rfl, _⟩ | ⟨_, h⟩
   · exact ⟨_, ho⟩
   · exact ⟨_, h⟩
 refine ⟨r.defers, r.size, r.tmps, r.below, r.imle, r.imold, r.imok, by simp [r.ownlen], fun i g k es' h1 h2 => ?_, r.tklen, r.tail, r.tok,
   ⟨fun i j g1 k1 g2 k2 e1 e2 a1 a2 a3 a4 hij => by
     obtain ⟨_, a3⟩ := old a3
     obtain ⟨_, a4⟩ := old a4
     exact r.apart.oo i j g1 k1 g2 k2 _ _ a1 a2 a3 a4 hij, fun i t g1 k1 e1 T b a1 a2 a3 a4 => by
     obtain ⟨_, a2⟩ := old a2
     exact r.apart.ot i t g1 k1 _ T b a1 a2 a3 a4, r.apart.tt⟩, r.glob, r.up, r.hole⟩
 rcases conv h2 with ⟨rfl, rfl⟩ | ⟨_, h2⟩
 · obtain ⟨hnew, him, ds, ty, lo, hi, hblk, hfr, hsz, hlv, hcell⟩ := r.own i g k _ h1 ho
   refine ⟨hnew, him, ds, ty, lo, hi, hblk, hfr, by rw [List.length_set]; exact hsz, fun i' e he' => ?_, fun i' e j' z he' hz => ?_⟩
   · rw [List.getElem?_set] at he'
     split at he'
     · rename_i hi'
       (try rw [if_pos hilt] at he')
       simp only [Option.some.injEq] at he'; subst he'
       have := hlv idx _ he
       simpa [AV.leaves] using this
     · exact hlv i' e he'
   · rw [List.getElem?_set] at he'
     split at he'
     · rename_i hi'
       subst hi'
       (try rw [if_pos hilt] at he')
       simp only [Option.some.injEq] at he'; subst he'
       change (cs.set j y)[j']? = some z at hz
       rw [List.getElem?_set] at hz
       split at hz
       · rename_i hj
         subst hj
         have hjl := lt_of_get hx
         (try rw [if_pos hjl] at hz)
         simp only [Option.some.injEq] at hz; subst hz
         obtain ⟨v, e1, e2, e3⟩ := hcell idx _ j x he hx
         exact ⟨v, e1, hy v e2, .inr (e3.resolve_left hxn)⟩
       · exact hcell idx _ j' z he hz
     · exact hcell i' e j' z he' hz
 · exact r.own i g k es' h1 h2
theorem AWP.forgetAt {E : Env} {c : Code} {Q : Exit → St → Prop} {s : St} (id idx j : Nat) {t k : Nat} {es cs xs : List AV} (ho : s.own[id]? = some (some es)) (he : es[idx]? = some (.agg cs)) (hx : cs[j]? = some (.sl (some t) k xs)) (hw : AWP E c Q { s with own := s.own.set id (some (es.set idx (.agg (cs.set j (.sl none k xs))))) }) : AWP E c Q s :=
 fun w0 im0 _ a w h0 hG r => hw w0 im0 _ a w h0 hG (r.setLeafAt ho he hx (by simp) (fun v hv => .base hv.sl_base))
end Go.Abs
end
