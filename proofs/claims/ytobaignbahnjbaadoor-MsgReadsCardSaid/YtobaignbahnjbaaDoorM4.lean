import Derived.Test.YtobaignbahnjbaaDoorM3
set_option linter.unusedVariables false
set_option linter.unusedSimpArgs false
namespace Go.Proofs.YtobaignbahnjbaaDoor
open Go Go.Abs Go.RowKit Go.Bk Go.Msg
theorem index_range (c : UInt8) : ∀ l : List UInt8, -1 ≤ Lib.indexByte l c ∧ Lib.indexByte l c < l.length := by
  intro l
  induction l with
  | nil => unfold Lib.indexByte; exact ⟨by simp, by simp⟩
  | cons b l ih =>
    unfold Lib.indexByte
    simp only [List.length_cons]
    split
    · omega
    · split <;> omega
theorem kind_at {s : List UInt8} {b : UInt8} (h : (s.length : Int) = 1) (hb : s[0]? = some b) : IntKind.i64.wrap (Lib.indexByte letters b + 1) = kindF s := by
  match s, h with
  | [c], _ =>
    simp at hb; subst hb
    have := index_range c letters
    have h7 : letters.length = 7 := rfl
    rw [wrap64_id (by omega) (by omega)]; rfl
  | [], h => simp at h
  | _ :: _ :: _, h => simp at h; omega
theorem kind_no {s : List UInt8} (h : ¬ (s.length : Int) = 1) : kindF s = 0 := by
  match s, h with
  | [_], h => exact absurd rfl h
  | [], h => rfl
  | _ :: _ :: _, h => rfl

set_option maxHeartbeats 4000000 in
set_option maxRecDepth 8000 in
theorem mfind_c (l : List Fld.Fd) (hl : l.length ≤ 1000) : ACalls E 33 [fldsV l] (fun r t => r = mgV (findM l) ∧ t = []) := by -- checkroll/msg.find
  refine ACalls.of_awp (n := 83) (rs := [.cell 2 25]) Tryd.func33 rfl Tryd.ntmps33 rfl ?_
  repeat' (first
    | refine AWP.seqk fun K hK => ?_
    | (refine ACall.one (sIndex_c letters b) (by kernel_rfl) rfl ?_; simp only [go_sem])
    | (refine ACall.one (fget_c l _ (by omega)) (by kernel_rfl) rfl ?_; simp only [go_sem])
    | (refine ACall.one (fnum_c l _ (by omega)) (by kernel_rfl) rfl ?_; simp only [go_sem])
    | (refine AWPL.call (rs := [.tmp 3]) Tryd.func48 rfl Tryd.ntmps48 rfl (by kernel_rfl) rfl rfl ?_; simp only [go_sem])
    | (refine AWPL.call (rs := [.tmp 3]) Tryd.func50 rfl Tryd.ntmps50 rfl (by kernel_rfl) rfl rfl ?_; simp only [go_sem])
    | (refine AWP.here 3 9 10 rfl ?_; refine AWP.regionL ?_; refine AWPL.at 10 1 rfl ?_; simp only [go_sem])
    | (refine AWPL.at 8 1 rfl ?_; simp only [go_sem])
    | (refine AWPL.at 6 1 rfl ?_; simp only [go_sem])
    | (refine AWP.here 4 17 3 rfl ?_; refine AWP.regionL ?_; refine AWPL.at 3 1 rfl ?_; simp only [go_sem])
    | (refine AWP.here 9 31 4 rfl ?_; refine AWP.regionL ?_; refine AWPL.at 4 1 rfl ?_; simp only [go_sem])
    | (refine AWP.here 12 37 4 rfl ?_; refine AWP.regionL ?_; refine AWPL.at 4 1 rfl ?_; simp only [go_sem])
    | (refine AWP.here 14 42 8 rfl ?_; refine AWP.regionL ?_; refine AWPL.at 8 1 rfl ?_; simp only [go_sem])
    | (refine AWP.here 16 50 9 rfl ?_; refine AWP.regionL ?_; refine AWPL.at 9 1 rfl ?_; simp only [go_sem])
    | (refine AWPL.at 7 1 rfl ?_; simp only [go_sem])
    | (refine AWP.here 18 59 24 rfl ?_; refine AWP.regionL ?_; refine AWPL.at 24 1 rfl ?_; simp only [go_sem])
    | (refine AWPL.at 22 1 rfl ?_; simp only [go_sem])
    | (refine AWPL.at 20 1 rfl ?_; simp only [go_sem])
    | (refine AWPL.at 18 1 rfl ?_; simp only [go_sem])
    | (refine AWPL.at 16 1 rfl ?_; simp only [go_sem])
    | (refine AWPL.at 14 1 rfl ?_; simp only [go_sem])
    | (refine AWPL.at 12 2 rfl ?_; simp only [go_sem])
    | (refine AWPL.at 9 1 rfl ?_; simp only [go_sem])
    | (refine AWPL.at 5 1 rfl ?_; simp only [go_sem])
    | (refine AWP.region ?_; simp only [go_sem])
    | (refine hK _ ?_; clear hK K)
    | refine AWP.block ?_
    | refine AWP.cond rfl (fun c => ?_) (fun c => ?_) <;> first | exact Bool.noConfusion c | (try simp only [dD] at c)
    | refine AWP.skip ?_
    | (refine AWP.exit ?_; simp only [go_sem])
    | (refine AGet.haveM (by assumption) ?_; (try simp only [go_sem]))
    | (refine AGet.have' (by assumption) ?_; (try simp only [go_sem]))
    | ((first | refine AGet.nth ?_ (fun b hb => ?_) | refine AGet.nth1 ?_ (fun b hb => ?_) | with_reducible refine And.intro ?_ ?_); (focus (first | omega | assumption | exact List.length_pos_iff.2 (by assumption) | (simp only [List.length_append, List.length_cons, List.length_nil, List.length_map, List.length_take, List.length_drop] at *; omega) | (rw [wrap64_id (by omega) (by omega)]; omega) | (simp; done) | (simp [spare_len]; done) | (exact ⟨by omega, by omega⟩))); (try simp only [hb, go_sem]))
    | (
        refine AWP.ret ?_
        refine AEnd.is ?_; simp only [go_sem, bytesV, out_v, out_s, out_n, v_int, v_bool, v_str] <;> (try ((first | (exfalso; omega) | ((try clear hK); simp only [kind_at (s := (Fld.getF l 35).1) (by assumption) hb] at *; (simp_all [findM, tx, nm, findX, zeroX] <;> first | done | rfl | exact decide_eq_decide.2 Iff.rfl | exact ⟨decide_eq_decide.2 Iff.rfl, decide_eq_decide.2 Iff.rfl⟩); done) | ((try clear hK); have hkf := kind_no (s := (Fld.getF l 35).1) (by assumption); (simp_all [findM, tx, nm, findX, zeroX] <;> first | done | rfl | exact decide_eq_decide.2 Iff.rfl | exact ⟨decide_eq_decide.2 Iff.rfl, decide_eq_decide.2 Iff.rfl⟩); done) | skip))))
    | (refine AWP.ret ?_; refine AInPost.ret rfl ?_; simp only [go_sem])
    | (refine AWP.ret ?_; simp only [inb_ret, athen_ret]; refine AInPost.ret rfl ?_; simp only [go_sem])
    | (refine AWP.ret ?_; (try simp only [inb_ret, athen_ret]); refine AInPost.ret rfl ?_; (try simp only [go_sem]))
    | (refine AWPL.of ?_; simp only [go_sem])
    | refine AWP.fin (by assumption) ?_
    | fail)

set_option maxHeartbeats 4000000 in
set_option maxRecDepth 8000 in
theorem mread_c (bs : List UInt8) : ACalls E 17 [bytesV bs] (fun r t => r = .tup [mgV (readM bs).1, i64 (readM bs).2] ∧ t = []) := by -- checkroll/msg.Read
  refine ACalls.of_awp (n := 34) (rs := [.cell 2 25, .tmp 3]) Tryd.func17 rfl Tryd.ntmps17 rfl ?_
  repeat' (first
    | refine AWP.seqk fun K hK => ?_
    | (refine AWP.region ?_; simp only [go_sem])
    | (refine hK _ ?_; clear hK K)
    | refine AWP.block ?_
    | refine AWP.cond rfl (fun c => ?_) (fun c => ?_) <;> first | exact Bool.noConfusion c | (try simp only [dD] at c)
    | refine AWP.skip ?_
    | (refine AWP.exit ?_; simp only [go_sem])
    | (refine ACall.of (fparse_c _) (by kernel_rfl) rfl ?_; rintro r t ⟨rfl, rfl⟩; simp only [go_sem])
    | (refine ACall.one (mfind_c (Fld.parseL bs).1 (by have := Fld.parseL_len bs; omega)) (by kernel_rfl) rfl ?_; simp only [go_sem])
    | (refine ACall.one (mput_c (findM (Fld.parseL bs).1)) (by kernel_rfl) rfl ?_; simp only [go_sem])
    | (refine ACall.one (bequal_c _ _) (by kernel_rfl) rfl ?_; simp only [go_sem])
    | (refine AGuard.splitN (fun h => ?_) (fun h => ?_) <;> simp only [h, go_sem] <;> (try simp only [dD] at h))
    | (refine AGuard.split (fun h => ?_) (fun h => ?_) <;> simp only [h, go_sem] <;> (try simp only [dD] at h))
    | (refine AGet.haveM (by assumption) ?_; (try simp only [go_sem]))
    | (refine AGet.have' (by assumption) ?_; (try simp only [go_sem]))
    | ((first | refine AGet.nth ?_ (fun b hb => ?_) | refine AGet.nth1 ?_ (fun b hb => ?_) | with_reducible refine And.intro ?_ ?_); (focus (first | omega | assumption | exact List.length_pos_iff.2 (by assumption) | (simp only [List.length_append, List.length_cons, List.length_nil, List.length_map, List.length_take, List.length_drop] at *; omega) | (rw [wrap64_id (by omega) (by omega)]; omega) | (simp; done) | (simp [spare_len]; done) | (exact ⟨by omega, by omega⟩))); (try simp only [hb, go_sem]))
    | (
        refine AWP.ret ?_
        refine AEnd.is ?_; simp only [go_sem, bytesV, out_v, out_s, out_n, v_int, v_bool, v_str] <;> (try ((first | ((try clear hK); simp_all [readM, zeroM, zeroX]; done) | skip))))
    | refine AWP.fin (by assumption) ?_
    | fail)


end Go.Proofs.YtobaignbahnjbaaDoor
