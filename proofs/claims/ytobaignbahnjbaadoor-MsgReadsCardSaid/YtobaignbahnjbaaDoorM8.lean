import Derived.Test.YtobaignbahnjbaaDoorM4
set_option linter.unusedVariables false
set_option linter.unusedSimpArgs false
namespace Go.Proofs.YtobaignbahnjbaaDoor
open Go Go.Abs Go.RowKit Go.Bk Go.Msg
theorem back35 {m : Mg} (h : (putM m).2 = 0) : ∀ b, (Fld.parseL (putM m).1).1[0]? = some b → b.1 = 35 := by
  obtain ⟨q1, q2, q3, q4, q5, q6⟩ := back_put h
  intro b hb
  rw [q2] at hb
  rw [q4] at hb
  cases hb; rfl
theorem mg_eq2 (m n : Mg) : (decide (m.kind = n.kind) && (decide (m.seq = n.seq) && (decide (m.time = n.time) && (decide (m.copy = n.copy) && (decide (m.a = n.a) && (decide (m.b = n.b) && (decide (m.gap = n.gap) && (decide (m.text = n.text) &&
    (decide (m.exec.id = n.exec.id) && (decide (m.exec.ref = n.exec.ref) && (decide (m.exec.ord = n.exec.ord) && (decide (m.exec.acc = n.exec.acc) && (decide (m.exec.sym = n.exec.sym) && (decide (m.exec.kind = n.exec.kind) && (decide (m.exec.buy = n.exec.buy) &&
    (decide (m.exec.qty = n.exec.qty) && (decide (m.exec.price = n.exec.price) && decide (m.exec.time = n.exec.time)))))))))))))))))) = decide (m = n) := by
  have := mg_eq m n
  simp only [Bool.and_true] at this
  exact this
theorem putM_len (m : Mg) : (putM m).1.length ≤ 3668 := by
  cases h : rightM m with
  | true => rw [putM_ok h]; exact enc_short (right_mok h)
  | false => rw [putM_no h]; simp
def awm : Mg := ⟨2, 2, 7, false, 0, 0, false, [], zeroX⟩
def awb2 : List UInt8 := [51, 53, 61, 50, 1, 51, 52, 61, 51, 1, 53, 50, 61, 48, 1, 52, 51, 61, 89, 1, 55, 61, 49, 1, 49, 54, 61, 48, 1]
def awm2 : Mg := ⟨4, 3, 0, true, 1, 0, false, [], zeroX⟩
theorem aw_s (n : Int) (h : 0 ≤ n ∧ n < 10) : Fld.showF n = [UInt8.ofNat (48 + n.toNat)] := Fld.show_dig h.1 h.2
theorem aw52 : Fld.showF 52 = [53, 50] := by rw [Fld.show_big (by decide) (by decide), Fld.show_dig (by decide) (by decide)]; rfl
theorem aw43 : Fld.showF 43 = [52, 51] := by rw [Fld.show_big (by decide) (by decide), Fld.show_dig (by decide) (by decide)]; rfl
theorem aw16 : Fld.showF 16 = [49, 54] := by rw [Fld.show_big (by decide) (by decide), Fld.show_dig (by decide) (by decide)]; rfl
theorem awm_right : rightM awm = true := by decide
theorem awm2_right : rightM awm2 = true := by decide
def awpb : List UInt8 := [51, 53, 61, 48, 1, 51, 52, 61, 50, 1, 53, 50, 61, 55, 1]
theorem aw_cmp1 : (awpb = [51, 53, 61, 48, 1, 51, 52, 61, 50, 1, 53, 50, 61, 55, 1]) = True := eq_true rfl
theorem aw_put1 : putM awm = (awpb, 0) := by
  have : packL awm = [(35, [48]), (34, [50]), (52, [55])] := by simp [awm, packL, bodyL, yesF, someF, letF, letters, aw_s 2 (by decide), aw_s 7 (by decide)]
  rw [putM_ok awm_right, this]
  simp only [Fld.encL, Fld.encF, Fld.show35, Fld.show34, aw52]
  rfl
theorem aw_read1 : readM awb2 = (awm2, 0) := by
  have h := readM_put awm2_right
  have hp : packL awm2 = [(35, [50]), (34, [51]), (52, [48]), (43, [89]), (7, [49]), (16, [48])] := by simp [awm2, packL, bodyL, yesF, someF, letF, letters, aw_s 3 (by decide), aw_s 0 (by decide), aw_s 1 (by decide)]
  have : Fld.encL (packL awm2) = awb2 := by
    rw [hp]
    simp only [Fld.encL, Fld.encF, Fld.show35, Fld.show34, aw52, aw43, aw16, aw_s 7 (by decide)]
    rfl
  rw [this] at h; exact h

set_option maxHeartbeats 4000000 in
set_option maxRecDepth 8000 in
theorem awake5_c  : ACalls E 7 [] (fun r t => r = bl true ∧ t = []) := by -- checkroll/checkrolllaw05.awake
  refine ACalls.of_awp (n := 32) (rs := [.tmp 0]) Tryd.func7 rfl Tryd.ntmps7 rfl ?_
  repeat' (first
    | refine AWP.seqk fun K hK => ?_
    | (refine AWP.region ?_; simp only [go_sem, aw_put1, aw_read1, aw_cmp1])
    | (refine hK _ ?_; clear hK K)
    | refine AWP.block ?_
    | refine AWP.cond rfl (fun c => ?_) (fun c => ?_) <;> first | exact Bool.noConfusion c | (try simp only [dD] at c)
    | refine AWP.skip ?_
    | (refine AWP.exit ?_; simp only [go_sem, aw_put1, aw_read1, aw_cmp1])
    | (refine ACall.one (mput_c awm) (by kernel_rfl) rfl ?_; simp only [go_sem, aw_put1, aw_read1, aw_cmp1])
    | (refine ACall.one (mread_c awb2) (by kernel_rfl) rfl ?_; simp only [go_sem, aw_put1, aw_read1, aw_cmp1])
    | (refine AGuard.splitN (fun h => ?_) (fun h => ?_) <;> simp only [h, go_sem, aw_put1, aw_read1, aw_cmp1] <;> (try simp only [dD] at h))
    | (refine AGuard.split (fun h => ?_) (fun h => ?_) <;> simp only [h, go_sem, aw_put1, aw_read1, aw_cmp1] <;> (try simp only [dD] at h))
    | (refine AGet.haveM (by assumption) ?_; (try simp only [go_sem, aw_put1, aw_read1, aw_cmp1]))
    | (refine AGet.have' (by assumption) ?_; (try simp only [go_sem, aw_put1, aw_read1, aw_cmp1]))
    | ((first | refine AGet.nth ?_ (fun b hb => ?_) | refine AGet.nth1 ?_ (fun b hb => ?_) | with_reducible refine And.intro ?_ ?_); (focus (first | omega | assumption | exact List.length_pos_iff.2 (by assumption) | (simp only [List.length_append, List.length_cons, List.length_nil, List.length_map, List.length_take, List.length_drop] at *; omega) | (rw [wrap64_id (by omega) (by omega)]; omega) | (simp; done) | (simp [spare_len]; done) | (exact ⟨by omega, by omega⟩))); (try simp only [hb, go_sem, aw_put1, aw_read1, aw_cmp1]))
    | (
        refine AWP.ret ?_
        refine AEnd.is ?_; simp only [go_sem, bytesV, out_v, out_s, out_n, v_int, v_bool, v_str] <;> (first | rfl | skip))
    | refine AWP.fin (by assumption) ?_
    | fail)

set_option maxHeartbeats 4000000 in
set_option maxRecDepth 8000 in
theorem mapart5_c (a b : Mg) : ACalls E 5 [mgV a, mgV b] (fun r t => r = bl true ∧ t = []) := by -- checkroll/checkrolllaw05.MsgApart
  have hl1 := putM_len a
  have hl2 := putM_len (flipM a)
  have hw1 : IntKind.i64.wrap (((putM (flipM a)).1.length : Int) - (putM a).1.length) = ((putM (flipM a)).1.length : Int) - (putM a).1.length := wrap64_id (by omega) (by omega)
  have hw2 : IntKind.i64.wrap (((putM a).1.length : Int) - (putM (flipM a)).1.length) = ((putM a).1.length : Int) - (putM (flipM a)).1.length := wrap64_id (by omega) (by omega)
  have hfe := flip_err a
  refine ACalls.of_awp (n := 93) (rs := [.tmp 4]) Tryd.func5 rfl Tryd.ntmps5 rfl ?_
  repeat' (first
    | refine AWP.seqk fun K hK => ?_
    | (refine AWP.region ?_; simp only [go_sem, mg_eq2, hw1, hw2, hfe])
    | (refine AWP.here 7 32 17 rfl ?_; refine AWP.regionO [0, 1, 2, 3, 4, 5, 6, 7, 8, 9, 10, 11, 12, 13, 14, 15, 16] [] (by kernel_rfl) (by kernel_rfl) rfl ?_; simp only [go_sem, mg_eq2, hw1, hw2, hfe])
    | (refine hK _ ?_; clear hK K)
    | refine AWP.block ?_
    | refine AWP.cond rfl (fun c => ?_) (fun c => ?_) <;> first | exact Bool.noConfusion c | (try simp only [dD] at c)
    | refine AWP.skip ?_
    | (refine AWP.exit ?_; simp only [go_sem, mg_eq2, hw1, hw2, hfe])
    | (refine ACall.one (awake5_c ) (by kernel_rfl) rfl ?_; simp only [go_sem, mg_eq2, hw1, hw2, hfe])
    | (refine ACall.of (r5short_c a) (by kernel_rfl) rfl ?_; rintro r t ⟨⟨bb, rfl⟩, rfl⟩; simp only [go_sem, mg_eq2, hw1, hw2, hfe])
    | (refine ACall.of (r5short_c b) (by kernel_rfl) rfl ?_; rintro r t ⟨⟨bb, rfl⟩, rfl⟩; simp only [go_sem, mg_eq2, hw1, hw2, hfe])
    | (refine ACall.one (mput_c a) (by kernel_rfl) rfl ?_; simp only [go_sem, mg_eq2, hw1, hw2, hfe])
    | (refine ACall.one (mput_c b) (by kernel_rfl) rfl ?_; simp only [go_sem, mg_eq2, hw1, hw2, hfe])
    | (refine ACall.one (mput_c (flipM a)) (by kernel_rfl) rfl ?_; simp only [go_sem, mg_eq2, hw1, hw2, hfe])
    | (refine AGuard.splitN (fun h => ?_) (fun h => ?_) <;> simp only [h, go_sem, mg_eq2, hw1, hw2, hfe] <;> (try simp only [dD] at h))
    | (refine AGuard.split (fun h => ?_) (fun h => ?_) <;> simp only [h, go_sem, mg_eq2, hw1, hw2, hfe] <;> (try simp only [dD] at h))
    | (refine AGet.haveM (by assumption) ?_; (try simp only [go_sem, mg_eq2, hw1, hw2, hfe]))
    | (refine AGet.have' (by assumption) ?_; (try simp only [go_sem, mg_eq2, hw1, hw2, hfe]))
    | ((first | refine AGet.nth ?_ (fun b hb => ?_) | refine AGet.nth1 ?_ (fun b hb => ?_) | with_reducible refine And.intro ?_ ?_); (focus (first | omega | assumption | exact List.length_pos_iff.2 (by assumption) | (simp only [List.length_append, List.length_cons, List.length_nil, List.length_map, List.length_take, List.length_drop] at *; omega) | (rw [wrap64_id (by omega) (by omega)]; omega) | (simp; done) | (simp [spare_len]; done) | (exact ⟨by omega, by omega⟩))); (try simp only [hb, go_sem, mg_eq2, hw1, hw2, hfe]))
    | (
        refine AWP.ret ?_
        refine AEnd.is ?_; simp only [go_sem, bytesV, out_v, out_s, out_n, v_int, v_bool, v_str] <;> (first | rfl | (simp; done) | ((try clear hK); exfalso; have hi := put_inj (a := a) (b := b) (by assumption) (by assumption); by_cases hab : a = b <;> simp_all; done) | ((try clear hK); have hq := flip_len (m := a) (put0_right (by assumption)); cases hcp : a.copy <;> simp_all <;> omega) | ((try clear hK); exfalso; have hq := flip_len (m := a) (put0_right (by assumption)); cases hcp : a.copy <;> simp_all <;> omega) | skip))
    | refine AWP.fin (by assumption) ?_
    | fail)

set_option maxHeartbeats 4000000 in
set_option maxRecDepth 8000 in
theorem mback5_c (m : Mg) (bs : List UInt8) : ACalls E 6 [mgV m, bytesV bs] (fun r t => r = bl true ∧ t = []) := by -- checkroll/checkrolllaw05.MsgBack
  have hb35 := @back35 m
  have hbk := @back_put m
  have hpe := @put_err m
  have hre := fun b => @read_err b
  have hrb := fun b => @read_back b
  refine ACalls.of_awp (n := 110) (rs := [.tmp 4]) Tryd.func6 rfl Tryd.ntmps6 rfl ?_
  repeat' (first
    | refine AWP.seqk fun K hK => ?_
    | (
        refine AWP.here 14 83 8 rfl ?_
        generalize List.take (min (bs.length : Int) 3000).toNat bs = xs at *
        refine AWP.region ?_; simp only [go_sem, mg_eq2])
    | (refine AWP.region ?_; simp only [go_sem, mg_eq2])
    | (refine hK _ ?_; clear hK K)
    | refine AWP.block ?_
    | refine AWP.cond rfl (fun c => ?_) (fun c => ?_) <;> first | exact Bool.noConfusion c | (try simp only [dD] at c)
    | refine AWP.skip ?_
    | (refine AWP.exit ?_; simp only [go_sem, mg_eq2])
    | (refine ACall.one (awake5_c ) (by kernel_rfl) rfl ?_; simp only [go_sem, mg_eq2])
    | (refine ACall.of (r5short_c m) (by kernel_rfl) rfl ?_; rintro r t ⟨⟨bb, rfl⟩, rfl⟩; simp only [go_sem, mg_eq2])
    | (refine ACall.one (mput_c m) (by kernel_rfl) rfl ?_; simp only [go_sem, mg_eq2])
    | (refine ACall.one (mput_c _) (by kernel_rfl) rfl ?_; simp only [go_sem, mg_eq2])
    | (refine ACall.one (mread_c (putM m).1) (by kernel_rfl) rfl ?_; simp only [go_sem, mg_eq2])
    | (refine ACall.one (mread_c _) (by kernel_rfl) rfl ?_; simp only [go_sem, mg_eq2])
    | (refine ACall.of (fparse_c _) (by kernel_rfl) rfl ?_; rintro r t ⟨rfl, rfl⟩; simp only [go_sem, mg_eq2])
    | (refine ACall.one (mright_c _) (by kernel_rfl) rfl ?_; simp only [go_sem, mg_eq2])
    | (refine ACall.one (mgright_c m) (by kernel_rfl) rfl ?_; simp only [go_sem, mg_eq2])
    | (refine ACall.one (mgright_c _) (by kernel_rfl) rfl ?_; simp only [go_sem, mg_eq2])
    | (refine AGuard.splitN (fun h => ?_) (fun h => ?_) <;> simp only [h, go_sem, mg_eq2] <;> (try simp only [dD] at h))
    | (refine AGuard.split (fun h => ?_) (fun h => ?_) <;> simp only [h, go_sem, mg_eq2] <;> (try simp only [dD] at h))
    | (refine AGet.haveM (by assumption) ?_; (try simp only [go_sem, mg_eq2]))
    | (refine AGet.have' (by assumption) ?_; (try simp only [go_sem, mg_eq2]))
    | ((first | refine AGet.nth ?_ (fun b hb => ?_) | refine AGet.nth1 ?_ (fun b hb => ?_) | with_reducible refine And.intro ?_ ?_); (focus (first | omega | assumption | exact List.length_pos_iff.2 (by assumption) | (simp only [List.length_append, List.length_cons, List.length_nil, List.length_map, List.length_take, List.length_drop] at *; omega) | (rw [wrap64_id (by omega) (by omega)]; omega) | (simp; done) | (simp [spare_len]; done) | (exact ⟨by omega, by omega⟩))); (try simp only [hb, go_sem, mg_eq2]))
    | (
        refine AWP.ret ?_
        refine AEnd.is ?_; simp only [go_sem, bytesV, out_v, out_s, out_n, v_int, v_bool, v_str] <;> (first | rfl | (simp; done) | ((try clear hK); clear hbk hpe hre hrb; simp_all; done) | ((try clear hK); clear hbk hpe hrb; have hq := hre xs; simp_all [zeroM, zeroX]; done) | ((try clear hK); clear hbk hpe hre; have hq := hrb xs; simp_all; done) | ((try clear hK); clear hpe hre hrb; simp_all; done) | ((try clear hK); clear hpe hre hrb; simp_all; omega) | ((try clear hK); clear hbk hre hrb; simp_all; done) | skip))
    | refine AWP.fin (by assumption) ?_
    | fail)


end Go.Proofs.YtobaignbahnjbaaDoor
