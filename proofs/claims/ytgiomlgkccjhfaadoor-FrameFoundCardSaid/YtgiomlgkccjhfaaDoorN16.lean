/- Frames: what is put; contracts. -/
import Derived.Test.YtgiomlgkccjhfaaDoorN15
import Derived.Test.YtgiomlgkccjhfaaDoorN7
set_option linter.unusedVariables false
set_option linter.unusedSimpArgs false
namespace Go.Proofs.YtgiomlgkccjhfaaDoor
open Go Go.Abs Go.RowKit Go.Fld Go.Shelf

theorem right_dec {b : Bs} {i : Nat} (h1 : 1 ≤ b.length) (h2 : b.length ≤ 8000) (hi : (parseL b).1.length ≤ i) (h4 : ((parseL b).1.take i).all (fun f => !(decide (8 ≤ f.1) && decide (f.1 ≤ 10))) = true) : rightB b = decide ((parseL b).2 = 0) := by
  rw [List.take_of_length_le hi] at h4
  unfold rightB
  rw [decide_eq_true h1, decide_eq_true h2, h4, Bool.and_true]; rfl
theorem show_dec {n : Nat} (h : n ≤ 8000) : showF (n : Int) = Lib.decDigits n := by
  have hok : numOK (n : Int) = true := numOK_iff.2 ⟨by omega, by omega⟩
  unfold showF; rw [if_pos hok]; unfold Lib.itoa; rw [if_neg (by omega)]; rfl
theorem put_okD {b : Bs} (h : ¬ 8000 < b.length) (hr : rightB b = true) : putB b = (beg ++ Lib.decDigits b.length ++ [1] ++ b ++ trailF (sumF (beg ++ Lib.decDigits b.length ++ [1] ++ b)), 0) := by
  rw [put_ok' h hr]; unfold preB; rw [show_dec (by omega)]
theorem put_okS {b : Bs} (h : ¬ 8000 < b.length) (hr : rightB b = true) : putB b = (beg ++ showF b.length ++ [1] ++ b ++ trailF (sumF (beg ++ showF b.length ++ [1] ++ b)), 0) := by
  rw [put_ok' h hr]; unfold preB; rfl
theorem begL : [AV.v (.int .u8 56), .v (.int .u8 61), .v (.int .u8 70), .v (.int .u8 73), .v (.int .u8 88), .v (.int .u8 46), .v (.int .u8 52), .v (.int .u8 46), .v (.int .u8 52), .v (.int .u8 1), .v (.int .u8 57), .v (.int .u8 61)] = beg.map u8 := rfl
theorem begS : [56, 61, 70, 73, 88, 46, 52, 46, 52, 1, 57, 61] = beg := rfl
theorem dgt {a : Nat} (h : a < 10) : IntKind.u8.wrap (IntKind.i64.wrap (48 + (a : Int))) = ((UInt8.ofNat (48 + a)).toNat : Int) := by
  rw [IntKind.wrap_i64, IntKind.wrap_u8, UInt8.toNat_ofNat']; omega
theorem trail_lit {s : Nat} (h : s < 256) : [AV.v (.int .u8 49), .v (.int .u8 48), .v (.int .u8 61), .v (.int .u8 (IntKind.u8.wrap (IntKind.i64.wrap (48 + IntKind.i64.wrap ((s : Int).tdiv 100))))),
    .v (.int .u8 (IntKind.u8.wrap (IntKind.i64.wrap (48 + (IntKind.i64.wrap ((s : Int).tdiv 10)).tmod 10)))), .v (.int .u8 (IntKind.u8.wrap (IntKind.i64.wrap (48 + (s : Int).tmod 10)))), .v (.int .u8 1)] = (trailF s).map u8 := by
  have e1 : IntKind.i64.wrap ((s : Int).tdiv 100) = ((s / 100 : Nat) : Int) := by
    rw [show (s : Int).tdiv 100 = ((s / 100 : Nat) : Int) from rfl, IntKind.wrap_i64]; omega
  have e2 : (IntKind.i64.wrap ((s : Int).tdiv 10)).tmod 10 = ((s / 10 % 10 : Nat) : Int) := by
    have : IntKind.i64.wrap ((s : Int).tdiv 10) = ((s / 10 : Nat) : Int) := by
      rw [show (s : Int).tdiv 10 = ((s / 10 : Nat) : Int) from rfl, IntKind.wrap_i64]; omega
    rw [this]; rfl
  have e3 : (s : Int).tmod 10 = ((s % 10 : Nat) : Int) := rfl
  rw [e1, e2, e3, dgt (by omega), dgt (by omega), dgt (by omega)]
  rfl
theorem ABytes_row {P : Program} {s d : TypeId} {t : Nat} {k : Nat} {es : List AV} {st : St} {K : St → AV → Prop} : ABytes P s d (.sl (some t) k es) st K =
  ((∃ e, P.underlying d = some (.slice e) ∧ P.underlying e = some (.int .u8)) ∧ s = d ∧ es ≠ [] ∧ st.tk[t]? = some es.length ∧ K st (.sl (some t) k es)) := rfl
theorem begne : (¬ beg.map u8 = []) = True := by simp [beg]
theorem one8 : UInt8.ofNat 1 = 1 := rfl
theorem msum_c (l : Bs) (hl : l.length ≤ 9223372036854775807) : ACalls E 34 [bytesV l] (fun r t => r = i64 (sumF l : Nat) ∧ t = []) := by -- checkroll/frame.Sum
  refine ACalls.of_awp (n := 18) (rs := [.tmp 2]) Tryd.func34 rfl Tryd.ntmps34 rfl ?_
  refine AWP.seqk fun K1 hK1 => ?_
  refine AWP.region ?_
  simp only [go_sem] -- region 0
  repeat' (first | (refine AGet.haveM (by assumption) ?_; (try simp only [go_sem])) | (refine AGet.have' (by assumption) ?_; (try simp only [go_sem])) | ((first | refine AGet.nth ?_ (fun b hb => ?_) | refine AGet.nth1 ?_ (fun b hb => ?_) | with_reducible refine And.intro ?_ ?_); (focus ((first | omega | exact List.length_pos_iff.2 (by assumption) | (simp only [List.length_append, List.length_cons, List.length_nil, List.length_map, List.length_take, List.length_drop] at *; omega) | (rw [wrap64_id (by omega) (by omega)]; omega) | (simp; done)))); (try simp only [hb, go_sem])))
  refine hK1 _ ?_; clear hK1 K1
  refine AWP.seqk fun K2 hK2 => ?_
  refine AWP.region ?_
  simp only [go_sem] -- region 1
  repeat' (first | (refine AGet.haveM (by assumption) ?_; (try simp only [go_sem])) | (refine AGet.have' (by assumption) ?_; (try simp only [go_sem])) | ((first | refine AGet.nth ?_ (fun b hb => ?_) | refine AGet.nth1 ?_ (fun b hb => ?_) | with_reducible refine And.intro ?_ ?_); (focus ((first | omega | exact List.length_pos_iff.2 (by assumption) | (simp only [List.length_append, List.length_cons, List.length_nil, List.length_map, List.length_take, List.length_drop] at *; omega) | (rw [wrap64_id (by omega) (by omega)]; omega) | (simp; done)))); (try simp only [hb, go_sem])))
  refine hK2 _ ?_; clear hK2 K2
  refine AWP.seqk fun K3 hK3 => ?_
  refine AWP.seqk fun K4 hK4 => ?_
  refine AWP.region ?_
  simp only [go_sem] -- region 2
  repeat' (first | (refine AGet.haveM (by assumption) ?_; (try simp only [go_sem])) | (refine AGet.have' (by assumption) ?_; (try simp only [go_sem])) | ((first | refine AGet.nth ?_ (fun b hb => ?_) | refine AGet.nth1 ?_ (fun b hb => ?_) | with_reducible refine And.intro ?_ ?_); (focus ((first | omega | exact List.length_pos_iff.2 (by assumption) | (simp only [List.length_append, List.length_cons, List.length_nil, List.length_map, List.length_take, List.length_drop] at *; omega) | (rw [wrap64_id (by omega) (by omega)]; omega) | (simp; done)))); (try simp only [hb, go_sem])))
  refine hK4 _ ?_; clear hK4 K4
  refine AWP.block ?_ -- 0
  refine AWP.loopH (ι := Nat) [5, 9, 10, 11, 12, 13, 14, 15] (fun (i : Nat) => [(3, .v (.int .u8 (sumF (l.take i) : Nat))), (8, i64 i)]) (fun (i : Nat) => i ≤ l.length) (fun (i : Nat) => l.length - i) (0) ?_ ?_ ?_
  · (try simp only [go_sem]); simp [sumF_nil]
  · omega
  rintro i h1
  simp only [go_sem]
  refine AWP.seqk fun K5 hK5 => ?_
  refine AWP.region ?_
  simp only [go_sem] -- region 3
  repeat' (first | (refine AGet.haveM (by assumption) ?_; (try simp only [go_sem])) | (refine AGet.have' (by assumption) ?_; (try simp only [go_sem])) | ((first | refine AGet.nth ?_ (fun b hb => ?_) | refine AGet.nth1 ?_ (fun b hb => ?_) | with_reducible refine And.intro ?_ ?_); (focus ((first | omega | exact List.length_pos_iff.2 (by assumption) | (simp only [List.length_append, List.length_cons, List.length_nil, List.length_map, List.length_take, List.length_drop] at *; omega) | (rw [wrap64_id (by omega) (by omega)]; omega) | (simp; done)))); (try simp only [hb, go_sem])))
  refine hK5 _ ?_; clear hK5 K5
  refine AWP.seqk fun K6 hK6 => ?_
  refine AWP.cond rfl (fun c9 => ?_) (fun c9 => ?_)
  · first | exact Bool.noConfusion c9 | (
      try simp only [dD] at c9
      refine AWP.skip ?_
      refine hK6 _ ?_; clear hK6 K6
      refine AWP.seqk fun K7 hK7 => ?_
      refine AWP.block ?_ -- 1
      refine AWP.seqk fun K8 hK8 => ?_
      refine AWP.region ?_
      simp only [go_sem] -- region 4
      repeat' (first | (refine AGet.haveM (by assumption) ?_; (try simp only [go_sem])) | (refine AGet.have' (by assumption) ?_; (try simp only [go_sem])) | ((first | refine AGet.nth ?_ (fun b hb => ?_) | refine AGet.nth1 ?_ (fun b hb => ?_) | with_reducible refine And.intro ?_ ?_); (focus ((first | omega | exact List.length_pos_iff.2 (by assumption) | (simp only [List.length_append, List.length_cons, List.length_nil, List.length_map, List.length_take, List.length_drop] at *; omega) | (rw [wrap64_id (by omega) (by omega)]; omega) | (simp; done)))); (try simp only [hb, go_sem])))
      refine hK8 _ ?_; clear hK8 K8
      refine AWP.region ?_
      simp only [go_sem] -- region 5
      repeat' (first | (refine AGet.haveM (by assumption) ?_; (try simp only [go_sem])) | (refine AGet.have' (by assumption) ?_; (try simp only [go_sem])) | ((first | refine AGet.nth ?_ (fun b hb => ?_) | refine AGet.nth1 ?_ (fun b hb => ?_) | with_reducible refine And.intro ?_ ?_); (focus ((first | omega | exact List.length_pos_iff.2 (by assumption) | (simp only [List.length_append, List.length_cons, List.length_nil, List.length_map, List.length_take, List.length_drop] at *; omega) | (rw [wrap64_id (by omega) (by omega)]; omega) | (simp; done)))); (try simp only [hb, go_sem])))
      refine hK7 _ ?_; clear hK7 K7
      refine AWP.region ?_
      simp only [go_sem] -- region 6
      repeat' (first | (refine AGet.haveM (by assumption) ?_; (try simp only [go_sem])) | (refine AGet.have' (by assumption) ?_; (try simp only [go_sem])) | ((first | refine AGet.nth ?_ (fun b hb => ?_) | refine AGet.nth1 ?_ (fun b hb => ?_) | with_reducible refine And.intro ?_ ?_); (focus ((first | omega | exact List.length_pos_iff.2 (by assumption) | (simp only [List.length_append, List.length_cons, List.length_nil, List.length_map, List.length_take, List.length_drop] at *; omega) | (rw [wrap64_id (by omega) (by omega)]; omega) | (simp; done)))); (try simp only [hb, go_sem])))
      clear hK3 K3
      refine ⟨i + 1, ?_, ?_, ?_⟩
      · rw [u8_add, wrap64_id (by omega) (by omega), sumF_next hb]; simp; done
      · omega
      · omega)
  · first | exact Bool.noConfusion c9 | (
      try simp only [dD] at c9
      refine AWP.exit ?_
      simp only [go_sem]
      clear hK6 K6
      refine hK3 _ ?_; clear hK3 K3
      refine AWP.seqk fun K9 hK9 => ?_
      refine AWP.region ?_
      simp only [go_sem] -- region 7
      repeat' (first | (refine AGet.haveM (by assumption) ?_; (try simp only [go_sem])) | (refine AGet.have' (by assumption) ?_; (try simp only [go_sem])) | ((first | refine AGet.nth ?_ (fun b hb => ?_) | refine AGet.nth1 ?_ (fun b hb => ?_) | with_reducible refine And.intro ?_ ?_); (focus ((first | omega | exact List.length_pos_iff.2 (by assumption) | (simp only [List.length_append, List.length_cons, List.length_nil, List.length_map, List.length_take, List.length_drop] at *; omega) | (rw [wrap64_id (by omega) (by omega)]; omega) | (simp; done)))); (try simp only [hb, go_sem])))
      refine hK9 _ ?_; clear hK9 K9
      refine AWP.ret ?_
      try simp only [go_sem]
      rw [sum_done (by assumption), i64_small (sumF_lt l)]
      exact ⟨[], .v _, rfl, rfl, rfl, rfl⟩)


theorem rsum_c (l : Bs) (hl : l.length ≤ 9223372036854775807) : ACalls E 35 [bytesV l] (fun r t => r = i64 (sumF l : Nat) ∧ t = []) := by -- checkroll/checkrollref03.Sum
  refine ACalls.of_awp (n := 20) (rs := [.tmp 2]) Tryd.func35 rfl Tryd.ntmps35 rfl ?_
  refine AWP.seqk fun K1 hK1 => ?_
  refine AWP.region ?_
  simp only [go_sem] -- region 0
  repeat' (first | (refine AGet.haveM (by assumption) ?_; (try simp only [go_sem])) | (refine AGet.have' (by assumption) ?_; (try simp only [go_sem])) | ((first | refine AGet.nth ?_ (fun b hb => ?_) | refine AGet.nth1 ?_ (fun b hb => ?_) | with_reducible refine And.intro ?_ ?_); (focus ((first | omega | exact List.length_pos_iff.2 (by assumption) | (simp only [List.length_append, List.length_cons, List.length_nil, List.length_map, List.length_take, List.length_drop] at *; omega) | (rw [wrap64_id (by omega) (by omega)]; omega) | (simp; done)))); (try simp only [hb, go_sem])))
  refine hK1 _ ?_; clear hK1 K1
  refine AWP.seqk fun K2 hK2 => ?_
  refine AWP.region ?_
  simp only [go_sem] -- region 1
  repeat' (first | (refine AGet.haveM (by assumption) ?_; (try simp only [go_sem])) | (refine AGet.have' (by assumption) ?_; (try simp only [go_sem])) | ((first | refine AGet.nth ?_ (fun b hb => ?_) | refine AGet.nth1 ?_ (fun b hb => ?_) | with_reducible refine And.intro ?_ ?_); (focus ((first | omega | exact List.length_pos_iff.2 (by assumption) | (simp only [List.length_append, List.length_cons, List.length_nil, List.length_map, List.length_take, List.length_drop] at *; omega) | (rw [wrap64_id (by omega) (by omega)]; omega) | (simp; done)))); (try simp only [hb, go_sem])))
  refine hK2 _ ?_; clear hK2 K2
  refine AWP.seqk fun K3 hK3 => ?_
  refine AWP.seqk fun K4 hK4 => ?_
  refine AWP.region ?_
  simp only [go_sem] -- region 2
  repeat' (first | (refine AGet.haveM (by assumption) ?_; (try simp only [go_sem])) | (refine AGet.have' (by assumption) ?_; (try simp only [go_sem])) | ((first | refine AGet.nth ?_ (fun b hb => ?_) | refine AGet.nth1 ?_ (fun b hb => ?_) | with_reducible refine And.intro ?_ ?_); (focus ((first | omega | exact List.length_pos_iff.2 (by assumption) | (simp only [List.length_append, List.length_cons, List.length_nil, List.length_map, List.length_take, List.length_drop] at *; omega) | (rw [wrap64_id (by omega) (by omega)]; omega) | (simp; done)))); (try simp only [hb, go_sem])))
  refine hK4 _ ?_; clear hK4 K4
  refine AWP.block ?_ -- 0
  refine AWP.loopH (ι := Nat) [5, 6, 7, 8, 9, 10, 11, 12, 13, 14, 15, 16, 17, 18] (fun (i : Nat) => [(3, i64 (sumF (l.take i) : Nat)), (4, i64 i)]) (fun (i : Nat) => i ≤ l.length) (fun (i : Nat) => l.length - i) (0) ?_ ?_ ?_
  · (try simp only [go_sem]); simp [sumF_nil]
  · omega
  rintro i h1
  simp only [go_sem]
  refine AWP.seqk fun K5 hK5 => ?_
  refine AWP.seqk fun K6 hK6 => ?_
  refine AWP.region ?_
  simp only [go_sem] -- region 3
  repeat' (first | (refine AGet.haveM (by assumption) ?_; (try simp only [go_sem])) | (refine AGet.have' (by assumption) ?_; (try simp only [go_sem])) | ((first | refine AGet.nth ?_ (fun b hb => ?_) | refine AGet.nth1 ?_ (fun b hb => ?_) | with_reducible refine And.intro ?_ ?_); (focus ((first | omega | exact List.length_pos_iff.2 (by assumption) | (simp only [List.length_append, List.length_cons, List.length_nil, List.length_map, List.length_take, List.length_drop] at *; omega) | (rw [wrap64_id (by omega) (by omega)]; omega) | (simp; done)))); (try simp only [hb, go_sem])))
  refine hK6 _ ?_; clear hK6 K6
  refine AWP.cond rfl (fun c8 => ?_) (fun c8 => ?_)
  · first | exact Bool.noConfusion c8 | (
      try simp only [dD] at c8
      refine AWP.skip ?_
      refine hK5 _ ?_; clear hK5 K5
      refine AWP.seqk fun K7 hK7 => ?_
      refine AWP.block ?_ -- 1
      refine AWP.region ?_
      simp only [go_sem] -- region 5
      repeat' (first | (refine AGet.haveM (by assumption) ?_; (try simp only [go_sem])) | (refine AGet.have' (by assumption) ?_; (try simp only [go_sem])) | ((first | refine AGet.nth ?_ (fun b hb => ?_) | refine AGet.nth1 ?_ (fun b hb => ?_) | with_reducible refine And.intro ?_ ?_); (focus ((first | omega | exact List.length_pos_iff.2 (by assumption) | (simp only [List.length_append, List.length_cons, List.length_nil, List.length_map, List.length_take, List.length_drop] at *; omega) | (rw [wrap64_id (by omega) (by omega)]; omega) | (simp; done)))); (try simp only [hb, go_sem])))
      refine hK7 _ ?_; clear hK7 K7
      refine AWP.region ?_
      simp only [go_sem] -- region 4
      repeat' (first | (refine AGet.haveM (by assumption) ?_; (try simp only [go_sem])) | (refine AGet.have' (by assumption) ?_; (try simp only [go_sem])) | ((first | refine AGet.nth ?_ (fun b hb => ?_) | refine AGet.nth1 ?_ (fun b hb => ?_) | with_reducible refine And.intro ?_ ?_); (focus ((first | omega | exact List.length_pos_iff.2 (by assumption) | (simp only [List.length_append, List.length_cons, List.length_nil, List.length_map, List.length_take, List.length_drop] at *; omega) | (rw [wrap64_id (by omega) (by omega)]; omega) | (simp; done)))); (try simp only [hb, go_sem])))
      clear hK3 K3
      refine ⟨i + 1, ?_, ?_, ?_⟩
      · rw [i64_add _ _ (sumF_lt _), wrap64_id (by omega) (by omega), sumF_next hb]; simp; done
      · omega
      · omega)
  · first | exact Bool.noConfusion c8 | (
      try simp only [dD] at c8
      refine AWP.exit ?_
      simp only [go_sem]
      clear hK5 K5
      refine hK3 _ ?_; clear hK3 K3
      refine AWP.seqk fun K8 hK8 => ?_
      refine AWP.region ?_
      simp only [go_sem] -- region 6
      repeat' (first | (refine AGet.haveM (by assumption) ?_; (try simp only [go_sem])) | (refine AGet.have' (by assumption) ?_; (try simp only [go_sem])) | ((first | refine AGet.nth ?_ (fun b hb => ?_) | refine AGet.nth1 ?_ (fun b hb => ?_) | with_reducible refine And.intro ?_ ?_); (focus ((first | omega | exact List.length_pos_iff.2 (by assumption) | (simp only [List.length_append, List.length_cons, List.length_nil, List.length_map, List.length_take, List.length_drop] at *; omega) | (rw [wrap64_id (by omega) (by omega)]; omega) | (simp; done)))); (try simp only [hb, go_sem])))
      refine hK8 _ ?_; clear hK8 K8
      refine AWP.ret ?_
      try simp only [go_sem]
      rw [sum_done (by assumption)]
      exact ⟨[], .v _, rfl, rfl, rfl, rfl⟩)


theorem mright_c (bs : Bs) : ACalls E 32 [bytesV bs] (fun r t => r = bl (rightB bs) ∧ t = []) := by -- checkroll/frame.Right
  refine ACalls.of_awp (n := 37) (rs := [.tmp 2]) Tryd.func32 rfl Tryd.ntmps32 rfl ?_
  refine AWP.seqk fun K1 hK1 => ?_
  refine AWP.region ?_
  simp only [go_sem] -- region 0
  repeat' (first | (refine AGet.haveM (by assumption) ?_; (try simp only [go_sem])) | (refine AGet.have' (by assumption) ?_; (try simp only [go_sem])) | ((first | refine AGet.nth ?_ (fun b hb => ?_) | refine AGet.nth1 ?_ (fun b hb => ?_) | with_reducible refine And.intro ?_ ?_); (focus ((first | omega | exact List.length_pos_iff.2 (by assumption) | (simp only [List.length_append, List.length_cons, List.length_nil, List.length_map, List.length_take, List.length_drop] at *; omega) | (rw [wrap64_id (by omega) (by omega)]; omega) | (simp; done)))); (try simp only [hb, go_sem])))
  refine hK1 _ ?_; clear hK1 K1
  refine AWP.seqJ (ι := Unit) [2, 7, 8, 9, 10, 11, 12, 13, 14] (fun (c : Unit) => []) (fun (c : Unit) => []) (fun (c : Unit) => []) (fun (c : Unit) => 1 ≤ bs.length ∧ bs.length ≤ 8000) ?_ ?_
  · refine AWP.seqk fun K2 hK2 => ?_
    refine AWP.region ?_
    simp only [go_sem] -- region 1
    repeat' (first | (refine AGuard.splitN (fun h => ?_) (fun h => ?_) <;> simp only [h, go_sem] <;> try simp only [dD] at h) | (refine AGuard.split (fun h => ?_) (fun h => ?_) <;> simp only [h, go_sem] <;> try simp only [dD] at h) | (refine AGet.haveM (by assumption) ?_; (try simp only [go_sem])) | (refine AGet.have' (by assumption) ?_; (try simp only [go_sem])) | ((first | refine AGet.nth ?_ (fun b hb => ?_) | refine AGet.nth1 ?_ (fun b hb => ?_) | with_reducible refine And.intro ?_ ?_); (focus ((first | omega | exact List.length_pos_iff.2 (by assumption) | (simp only [List.length_append, List.length_cons, List.length_nil, List.length_map, List.length_take, List.length_drop] at *; omega) | (rw [wrap64_id (by omega) (by omega)]; omega) | (simp; done)))); (try simp only [hb, go_sem])))
    all_goals (
      refine hK2 _ ?_; clear hK2 K2
      refine AWP.cond rfl (fun c14 => ?_) (fun c14 => ?_)
      · first | exact Bool.noConfusion c14 | (
          try simp only [dD] at c14
          refine AWP.seqk fun K3 hK3 => ?_
          refine AWP.region ?_
          simp only [go_sem] -- region 2
          repeat' (first | (refine AGet.haveM (by assumption) ?_; (try simp only [go_sem])) | (refine AGet.have' (by assumption) ?_; (try simp only [go_sem])) | ((first | refine AGet.nth ?_ (fun b hb => ?_) | refine AGet.nth1 ?_ (fun b hb => ?_) | with_reducible refine And.intro ?_ ?_); (focus ((first | omega | exact List.length_pos_iff.2 (by assumption) | (simp only [List.length_append, List.length_cons, List.length_nil, List.length_map, List.length_take, List.length_drop] at *; omega) | (rw [wrap64_id (by omega) (by omega)]; omega) | (simp; done)))); (try simp only [hb, go_sem])))
          refine hK3 _ ?_; clear hK3 K3
          refine AWP.ret ?_
          try simp only [go_sem]
          first
          | exact ⟨[], .v _, rfl, rfl, congrArg bl (right_no1 (by omega)).symm, rfl⟩
          | exact ⟨[], .v _, rfl, rfl, congrArg bl (right_no2 (by assumption)).symm, rfl⟩
          | exact ⟨[], .v _, rfl, rfl, congrArg bl (right_no3 (by assumption) (by assumption) (by assumption)).symm, rfl⟩
          | exact ⟨[], .v _, rfl, rfl, congrArg bl (right_yes hb1 hb2 (by assumption) (by omega) h2).symm, rfl⟩
          | skip)
      · first | exact Bool.noConfusion c14 | (
          try simp only [dD] at c14
          refine AWP.skip ?_
          exact ⟨(), by omega, by (try simp only [go_sem]); (try simp); done⟩))
  rintro c ⟨hb1, hb2⟩
  simp only [go_sem]
  refine AWP.seqk fun K4 hK4 => ?_
  refine AWP.region ?_
  simp only [go_sem] -- region 3
  repeat' (first | (refine ACall.of (fparse_c _) (by kernel_rfl) rfl ?_; rintro r t ⟨rfl, rfl⟩ <;> simp only [go_sem]) | (refine AGet.haveM (by assumption) ?_; (try simp only [go_sem])) | (refine AGet.have' (by assumption) ?_; (try simp only [go_sem])) | ((first | refine AGet.nth ?_ (fun b hb => ?_) | refine AGet.nth1 ?_ (fun b hb => ?_) | with_reducible refine And.intro ?_ ?_); (focus ((first | omega | exact List.length_pos_iff.2 (by assumption) | (simp only [List.length_append, List.length_cons, List.length_nil, List.length_map, List.length_take, List.length_drop] at *; omega) | (rw [wrap64_id (by omega) (by omega)]; omega) | (simp; done)))); (try simp only [hb, go_sem])))
  refine hK4 _ ?_; clear hK4 K4
  refine AWP.seqk fun K5 hK5 => ?_
  refine AWP.seqk fun K6 hK6 => ?_
  refine AWP.region ?_
  simp only [go_sem] -- region 4
  repeat' (first | (refine AGet.haveM (by assumption) ?_; (try simp only [go_sem])) | (refine AGet.have' (by assumption) ?_; (try simp only [go_sem])) | ((first | refine AGet.nth ?_ (fun b hb => ?_) | refine AGet.nth1 ?_ (fun b hb => ?_) | with_reducible refine And.intro ?_ ?_); (focus ((first | omega | exact List.length_pos_iff.2 (by assumption) | (simp only [List.length_append, List.length_cons, List.length_nil, List.length_map, List.length_take, List.length_drop] at *; omega) | (rw [wrap64_id (by omega) (by omega)]; omega) | (simp; done)))); (try simp only [hb, go_sem])))
  refine hK6 _ ?_; clear hK6 K6
  refine AWP.cond rfl (fun c21 => ?_) (fun c21 => ?_)
  · first | exact Bool.noConfusion c21 | (
      try simp only [dD] at c21
      refine AWP.seqk fun K7 hK7 => ?_
      refine AWP.region ?_
      simp only [go_sem] -- region 5
      repeat' (first | (refine AGet.haveM (by assumption) ?_; (try simp only [go_sem])) | (refine AGet.have' (by assumption) ?_; (try simp only [go_sem])) | ((first | refine AGet.nth ?_ (fun b hb => ?_) | refine AGet.nth1 ?_ (fun b hb => ?_) | with_reducible refine And.intro ?_ ?_); (focus ((first | omega | exact List.length_pos_iff.2 (by assumption) | (simp only [List.length_append, List.length_cons, List.length_nil, List.length_map, List.length_take, List.length_drop] at *; omega) | (rw [wrap64_id (by omega) (by omega)]; omega) | (simp; done)))); (try simp only [hb, go_sem])))
      refine hK7 _ ?_; clear hK7 K7
      refine AWP.ret ?_
      try simp only [go_sem]
      clear hK5 K5
      first
      | exact ⟨[], .v _, rfl, rfl, congrArg bl (right_no1 (by omega)).symm, rfl⟩
      | exact ⟨[], .v _, rfl, rfl, congrArg bl (right_no2 (by assumption)).symm, rfl⟩
      | exact ⟨[], .v _, rfl, rfl, congrArg bl (right_no3 (by assumption) (by assumption) (by assumption)).symm, rfl⟩
      | exact ⟨[], .v _, rfl, rfl, congrArg bl (right_yes hb1 hb2 (by assumption) (by omega) h2).symm, rfl⟩
      | skip)
  · first | exact Bool.noConfusion c21 | (
      try simp only [dD] at c21
      refine AWP.skip ?_
      refine hK5 _ ?_; clear hK5 K5
      refine AWP.seqk fun K8 hK8 => ?_
      refine AWP.seqk fun K9 hK9 => ?_
      refine AWP.region ?_
      simp only [go_sem] -- region 6
      repeat' (first | (refine AGet.haveM (by assumption) ?_; (try simp only [go_sem])) | (refine AGet.have' (by assumption) ?_; (try simp only [go_sem])) | ((first | refine AGet.nth ?_ (fun b hb => ?_) | refine AGet.nth1 ?_ (fun b hb => ?_) | with_reducible refine And.intro ?_ ?_); (focus ((first | omega | exact List.length_pos_iff.2 (by assumption) | (simp only [List.length_append, List.length_cons, List.length_nil, List.length_map, List.length_take, List.length_drop] at *; omega) | (rw [wrap64_id (by omega) (by omega)]; omega) | (simp; done)))); (try simp only [hb, go_sem])))
      refine hK9 _ ?_; clear hK9 K9
      refine AWP.block ?_ -- 0
      refine AWP.loopO (ι := Nat) [2, 6, 25, 26, 27, 28, 29, 30, 31, 32, 33, 34, 35, 36] (fun (i : Nat) => [(24, i64 i)]) (fun (i : Nat) => []) (fun (i : Nat) => [(parseL bs).1.length]) (fun (i : Nat) => i ≤ (parseL bs).1.length ∧ ((parseL bs).1.take i).all (fun f => !(decide (8 ≤ f.1) && decide (f.1 ≤ 10))) = true) (fun (i : Nat) => (parseL bs).1.length - i) (0) ?_ ?_ ?_
      · (try simp only [go_sem]); try (simp; done)
      · simp
      rintro i ⟨h1, h2⟩
      simp only [go_sem]
      refine AWP.seqk fun K10 hK10 => ?_
      refine AWP.region ?_
      simp only [go_sem] -- region 7
      repeat' (first | (refine AGet.haveM (by assumption) ?_; (try simp only [go_sem])) | (refine AGet.have' (by assumption) ?_; (try simp only [go_sem])) | ((first | refine AGet.nth ?_ (fun b hb => ?_) | refine AGet.nth1 ?_ (fun b hb => ?_) | with_reducible refine And.intro ?_ ?_); (focus ((first | omega | exact List.length_pos_iff.2 (by assumption) | (simp only [List.length_append, List.length_cons, List.length_nil, List.length_map, List.length_take, List.length_drop] at *; omega) | (rw [wrap64_id (by omega) (by omega)]; omega) | (simp; done)))); (try simp only [hb, go_sem])))
      refine hK10 _ ?_; clear hK10 K10
      refine AWP.seqk fun K11 hK11 => ?_
      refine AWP.cond rfl (fun c25 => ?_) (fun c25 => ?_)
      · first | exact Bool.noConfusion c25 | (
          try simp only [dD] at c25
          refine AWP.skip ?_
          refine hK11 _ ?_; clear hK11 K11
          refine AWP.seqk fun K12 hK12 => ?_
          refine AWP.block ?_ -- 1
          refine AWP.seqk fun K13 hK13 => ?_
          refine AWP.region ?_
          simp only [go_sem] -- region 8
          repeat' (first | (refine AGet.haveM (by assumption) ?_; (try simp only [go_sem])) | (refine AGet.have' (by assumption) ?_; (try simp only [go_sem])) | ((first | refine AGet.nth ?_ (fun b hb => ?_) | refine AGet.nth1 ?_ (fun b hb => ?_) | with_reducible refine And.intro ?_ ?_); (focus ((first | omega | exact List.length_pos_iff.2 (by assumption) | (simp only [List.length_append, List.length_cons, List.length_nil, List.length_map, List.length_take, List.length_drop] at *; omega) | (rw [wrap64_id (by omega) (by omega)]; omega) | (simp; done)))); (try simp only [hb, go_sem])))
          refine hK13 _ ?_; clear hK13 K13
          refine AWP.seqk fun K14 hK14 => ?_
          refine AWP.region ?_
          simp only [go_sem] -- region 9
          repeat' (first | (refine AGuard.splitN (fun h => ?_) (fun h => ?_) <;> simp only [h, go_sem] <;> try simp only [dD] at h) | (refine AGuard.split (fun h => ?_) (fun h => ?_) <;> simp only [h, go_sem] <;> try simp only [dD] at h) | (refine AGet.haveM (by assumption) ?_; (try simp only [go_sem])) | (refine AGet.have' (by assumption) ?_; (try simp only [go_sem])) | ((first | refine AGet.nth ?_ (fun b hb => ?_) | refine AGet.nth1 ?_ (fun b hb => ?_) | with_reducible refine And.intro ?_ ?_); (focus ((first | omega | exact List.length_pos_iff.2 (by assumption) | (simp only [List.length_append, List.length_cons, List.length_nil, List.length_map, List.length_take, List.length_drop] at *; omega) | (rw [wrap64_id (by omega) (by omega)]; omega) | (simp; done)))); (try simp only [hb, go_sem])))
          all_goals (
            refine hK14 _ ?_; clear hK14 K14
            refine AWP.cond rfl (fun c35 => ?_) (fun c35 => ?_)
            · first | exact Bool.noConfusion c35 | (
                try simp only [dD] at c35
                refine AWP.seqk fun K15 hK15 => ?_
                refine AWP.region ?_
                simp only [go_sem] -- region 10
                repeat' (first | (refine AGet.haveM (by assumption) ?_; (try simp only [go_sem])) | (refine AGet.have' (by assumption) ?_; (try simp only [go_sem])) | ((first | refine AGet.nth ?_ (fun b hb => ?_) | refine AGet.nth1 ?_ (fun b hb => ?_) | with_reducible refine And.intro ?_ ?_); (focus ((first | omega | exact List.length_pos_iff.2 (by assumption) | (simp only [List.length_append, List.length_cons, List.length_nil, List.length_map, List.length_take, List.length_drop] at *; omega) | (rw [wrap64_id (by omega) (by omega)]; omega) | (simp; done)))); (try simp only [hb, go_sem])))
                refine hK15 _ ?_; clear hK15 K15
                refine AWP.ret ?_
                try simp only [go_sem]
                clear hK12 K12 hK8 K8
                first
                | exact ⟨[], .v _, rfl, rfl, congrArg bl (right_no1 (by omega)).symm, rfl⟩
                | exact ⟨[], .v _, rfl, rfl, congrArg bl (right_no2 (by assumption)).symm, rfl⟩
                | exact ⟨[], .v _, rfl, rfl, congrArg bl (right_no3 (by assumption) (by assumption) (by assumption)).symm, rfl⟩
                | exact ⟨[], .v _, rfl, rfl, congrArg bl (right_yes hb1 hb2 (by assumption) (by omega) h2).symm, rfl⟩
                | skip)
            · first | exact Bool.noConfusion c35 | (
                try simp only [dD] at c35
                refine AWP.skip ?_
                refine hK12 _ ?_; clear hK12 K12
                refine AWP.region ?_
                simp only [go_sem] -- region 11
                repeat' (first | (refine AGet.haveM (by assumption) ?_; (try simp only [go_sem])) | (refine AGet.have' (by assumption) ?_; (try simp only [go_sem])) | ((first | refine AGet.nth ?_ (fun b hb => ?_) | refine AGet.nth1 ?_ (fun b hb => ?_) | with_reducible refine And.intro ?_ ?_); (focus ((first | omega | exact List.length_pos_iff.2 (by assumption) | (simp only [List.length_append, List.length_cons, List.length_nil, List.length_map, List.length_take, List.length_drop] at *; omega) | (rw [wrap64_id (by omega) (by omega)]; omega) | (simp; done)))); (try simp only [hb, go_sem])))
                clear hK8 K8
                refine ⟨i + 1, ?_, ?_, ?_⟩
                · rw [wrap64_id (by have := parseL_len bs; omega) (by have := parseL_len bs; omega)]; simp; done
                · exact ⟨by omega, by rw [take_next (by assumption), List.all_append, h2]; simp; omega⟩
                · omega)))
      · first | exact Bool.noConfusion c25 | (
          try simp only [dD] at c25
          refine AWP.exit ?_
          simp only [go_sem]
          clear hK11 K11
          refine hK8 _ ?_; clear hK8 K8
          refine AWP.seqk fun K16 hK16 => ?_
          refine AWP.region ?_
          simp only [go_sem] -- region 12
          repeat' (first | (refine AGet.haveM (by assumption) ?_; (try simp only [go_sem])) | (refine AGet.have' (by assumption) ?_; (try simp only [go_sem])) | ((first | refine AGet.nth ?_ (fun b hb => ?_) | refine AGet.nth1 ?_ (fun b hb => ?_) | with_reducible refine And.intro ?_ ?_); (focus ((first | omega | exact List.length_pos_iff.2 (by assumption) | (simp only [List.length_append, List.length_cons, List.length_nil, List.length_map, List.length_take, List.length_drop] at *; omega) | (rw [wrap64_id (by omega) (by omega)]; omega) | (simp; done)))); (try simp only [hb, go_sem])))
          refine hK16 _ ?_; clear hK16 K16
          refine AWP.ret ?_
          try simp only [go_sem]
          first
          | exact ⟨[], .v _, rfl, rfl, congrArg bl (right_no1 (by omega)).symm, rfl⟩
          | exact ⟨[], .v _, rfl, rfl, congrArg bl (right_no2 (by assumption)).symm, rfl⟩
          | exact ⟨[], .v _, rfl, rfl, congrArg bl (right_no3 (by assumption) (by assumption) (by assumption)).symm, rfl⟩
          | exact ⟨[], .v _, rfl, rfl, congrArg bl (right_yes hb1 hb2 (by assumption) (by omega) h2).symm, rfl⟩
          | skip))


set_option maxHeartbeats 1000000 in
theorem r3right_c (bs : Bs) : ACalls E 33 [bytesV bs] (fun r t => r = bl (rightB bs) ∧ t = []) := by -- checkroll/checkrollref03.Right
  refine ACalls.of_awp (n := 49) (rs := [.tmp 2]) Tryd.func33 rfl Tryd.ntmps33 rfl ?_
  refine AWP.seqk fun K1 hK1 => ?_
  refine AWP.region ?_
  simp only [go_sem] -- region 0
  repeat' (first | (refine AGet.haveM (by assumption) ?_; (try simp only [go_sem])) | (refine AGet.have' (by assumption) ?_; (try simp only [go_sem])) | ((first | refine AGet.nth ?_ (fun b hb => ?_) | refine AGet.nth1 ?_ (fun b hb => ?_) | with_reducible refine And.intro ?_ ?_); (focus ((first | omega | exact List.length_pos_iff.2 (by assumption) | (simp only [List.length_append, List.length_cons, List.length_nil, List.length_map, List.length_take, List.length_drop] at *; omega) | (rw [wrap64_id (by omega) (by omega)]; omega) | (simp; done)))); (try simp only [hb, go_sem])))
  refine hK1 _ ?_; clear hK1 K1
  refine AWP.seqJ (ι := Unit) [2, 6, 7, 8, 9, 10, 11, 12, 13] (fun (c : Unit) => []) (fun (c : Unit) => []) (fun (c : Unit) => []) (fun (c : Unit) => 1 ≤ bs.length ∧ bs.length ≤ 8000) ?_ ?_
  · refine AWP.seqk fun K2 hK2 => ?_
    refine AWP.region ?_
    simp only [go_sem] -- region 1
    repeat' (first | (refine AGuard.splitN (fun h => ?_) (fun h => ?_) <;> simp only [h, go_sem] <;> try simp only [dD] at h) | (refine AGuard.split (fun h => ?_) (fun h => ?_) <;> simp only [h, go_sem] <;> try simp only [dD] at h) | (refine AGet.haveM (by assumption) ?_; (try simp only [go_sem])) | (refine AGet.have' (by assumption) ?_; (try simp only [go_sem])) | ((first | refine AGet.nth ?_ (fun b hb => ?_) | refine AGet.nth1 ?_ (fun b hb => ?_) | with_reducible refine And.intro ?_ ?_); (focus ((first | omega | exact List.length_pos_iff.2 (by assumption) | (simp only [List.length_append, List.length_cons, List.length_nil, List.length_map, List.length_take, List.length_drop] at *; omega) | (rw [wrap64_id (by omega) (by omega)]; omega) | (simp; done)))); (try simp only [hb, go_sem])))
    all_goals (
      refine hK2 _ ?_; clear hK2 K2
      refine AWP.cond rfl (fun c13 => ?_) (fun c13 => ?_)
      · first | exact Bool.noConfusion c13 | (
          try simp only [dD] at c13
          refine AWP.seqk fun K3 hK3 => ?_
          refine AWP.region ?_
          simp only [go_sem] -- region 2
          repeat' (first | (refine AGet.haveM (by assumption) ?_; (try simp only [go_sem])) | (refine AGet.have' (by assumption) ?_; (try simp only [go_sem])) | ((first | refine AGet.nth ?_ (fun b hb => ?_) | refine AGet.nth1 ?_ (fun b hb => ?_) | with_reducible refine And.intro ?_ ?_); (focus ((first | omega | exact List.length_pos_iff.2 (by assumption) | (simp only [List.length_append, List.length_cons, List.length_nil, List.length_map, List.length_take, List.length_drop] at *; omega) | (rw [wrap64_id (by omega) (by omega)]; omega) | (simp; done)))); (try simp only [hb, go_sem])))
          refine hK3 _ ?_; clear hK3 K3
          refine AWP.ret ?_
          try simp only [go_sem]
          first
          | exact ⟨[], .v _, rfl, rfl, congrArg bl (right_no1 (by omega)).symm, rfl⟩
          | exact ⟨[], .v _, rfl, rfl, congrArg bl (right_no3 (by assumption) (by omega) (by omega)).symm, rfl⟩
          | exact ⟨[], .v _, rfl, rfl, congrArg bl (right_dec hb1 hb2 (by omega) h2).symm, rfl⟩
          | skip)
      · first | exact Bool.noConfusion c13 | (
          try simp only [dD] at c13
          refine AWP.skip ?_
          exact ⟨(), by omega, by (try simp only [go_sem]); (try simp); done⟩))
  rintro c ⟨hb1, hb2⟩
  simp only [go_sem]
  refine AWP.seqk fun K4 hK4 => ?_
  refine AWP.region ?_
  simp only [go_sem] -- region 3
  repeat' (first | (refine ACall.of (r2parse_c _) (by kernel_rfl) rfl ?_; rintro r t ⟨rfl, rfl⟩ <;> simp only [go_sem]) | (refine AGet.haveM (by assumption) ?_; (try simp only [go_sem])) | (refine AGet.have' (by assumption) ?_; (try simp only [go_sem])) | ((first | refine AGet.nth ?_ (fun b hb => ?_) | refine AGet.nth1 ?_ (fun b hb => ?_) | with_reducible refine And.intro ?_ ?_); (focus ((first | omega | exact List.length_pos_iff.2 (by assumption) | (simp only [List.length_append, List.length_cons, List.length_nil, List.length_map, List.length_take, List.length_drop] at *; omega) | (rw [wrap64_id (by omega) (by omega)]; omega) | (simp; done)))); (try simp only [hb, go_sem])))
  refine hK4 _ ?_; clear hK4 K4
  refine AWP.seqk fun K5 hK5 => ?_
  refine AWP.seqk fun K6 hK6 => ?_
  refine AWP.region ?_
  simp only [go_sem] -- region 4
  repeat' (first | (refine AGet.haveM (by assumption) ?_; (try simp only [go_sem])) | (refine AGet.have' (by assumption) ?_; (try simp only [go_sem])) | ((first | refine AGet.nth ?_ (fun b hb => ?_) | refine AGet.nth1 ?_ (fun b hb => ?_) | with_reducible refine And.intro ?_ ?_); (focus ((first | omega | exact List.length_pos_iff.2 (by assumption) | (simp only [List.length_append, List.length_cons, List.length_nil, List.length_map, List.length_take, List.length_drop] at *; omega) | (rw [wrap64_id (by omega) (by omega)]; omega) | (simp; done)))); (try simp only [hb, go_sem])))
  refine hK6 _ ?_; clear hK6 K6
  refine AWP.block ?_ -- 0
  refine AWP.loopO (ι := Nat) [2, 19, 20, 21, 22, 23, 24, 25, 26, 27, 28, 29, 30, 31, 32, 33, 34, 35, 36, 37, 38, 39, 40, 41, 42, 43, 44, 45, 46] (fun (i : Nat) => [(5, i64 i)]) (fun (i : Nat) => []) (fun (i : Nat) => [(parseL bs).1.length]) (fun (i : Nat) => i ≤ (parseL bs).1.length ∧ ((parseL bs).1.take i).all (fun f => !(decide (8 ≤ f.1) && decide (f.1 ≤ 10))) = true) (fun (i : Nat) => (parseL bs).1.length - i) (0) ?_ ?_ ?_
  · (try simp only [go_sem]); try (simp; done)
  · simp
  rintro i ⟨h1, h2⟩
  simp only [go_sem]
  refine AWP.seqk fun K7 hK7 => ?_
  refine AWP.seqk fun K8 hK8 => ?_
  refine AWP.region ?_
  simp only [go_sem] -- region 5
  repeat' (first | (refine AGet.haveM (by assumption) ?_; (try simp only [go_sem])) | (refine AGet.have' (by assumption) ?_; (try simp only [go_sem])) | ((first | refine AGet.nth ?_ (fun b hb => ?_) | refine AGet.nth1 ?_ (fun b hb => ?_) | with_reducible refine And.intro ?_ ?_); (focus ((first | omega | exact List.length_pos_iff.2 (by assumption) | (simp only [List.length_append, List.length_cons, List.length_nil, List.length_map, List.length_take, List.length_drop] at *; omega) | (rw [wrap64_id (by omega) (by omega)]; omega) | (simp; done)))); (try simp only [hb, go_sem])))
  refine hK8 _ ?_; clear hK8 K8
  refine AWP.cond rfl (fun c22 => ?_) (fun c22 => ?_)
  · first | exact Bool.noConfusion c22 | (
      try simp only [dD] at c22
      refine AWP.skip ?_
      refine hK7 _ ?_; clear hK7 K7
      refine AWP.seqk fun K9 hK9 => ?_
      refine AWP.block ?_ -- 1
      refine AWP.seqk fun K10 hK10 => ?_
      refine AWP.region ?_
      simp only [go_sem] -- region 7
      repeat' (first | (refine AGuard.splitN (fun h => ?_) (fun h => ?_) <;> simp only [h, go_sem] <;> try simp only [dD] at h) | (refine AGuard.split (fun h => ?_) (fun h => ?_) <;> simp only [h, go_sem] <;> try simp only [dD] at h) | (refine AGet.haveM (by assumption) ?_; (try simp only [go_sem])) | (refine AGet.have' (by assumption) ?_; (try simp only [go_sem])) | ((first | refine AGet.nth ?_ (fun b hb => ?_) | refine AGet.nth1 ?_ (fun b hb => ?_) | with_reducible refine And.intro ?_ ?_); (focus ((first | omega | exact List.length_pos_iff.2 (by assumption) | (simp only [List.length_append, List.length_cons, List.length_nil, List.length_map, List.length_take, List.length_drop] at *; omega) | (rw [wrap64_id (by omega) (by omega)]; omega) | (simp; done)))); (try simp only [hb, go_sem])))
      all_goals (
        refine hK10 _ ?_; clear hK10 K10
        refine AWP.cond rfl (fun c46 => ?_) (fun c46 => ?_)
        · first | exact Bool.noConfusion c46 | (
            try simp only [dD] at c46
            refine AWP.seqk fun K11 hK11 => ?_
            refine AWP.region ?_
            simp only [go_sem] -- region 8
            repeat' (first | (refine AGet.haveM (by assumption) ?_; (try simp only [go_sem])) | (refine AGet.have' (by assumption) ?_; (try simp only [go_sem])) | ((first | refine AGet.nth ?_ (fun b hb => ?_) | refine AGet.nth1 ?_ (fun b hb => ?_) | with_reducible refine And.intro ?_ ?_); (focus ((first | omega | exact List.length_pos_iff.2 (by assumption) | (simp only [List.length_append, List.length_cons, List.length_nil, List.length_map, List.length_take, List.length_drop] at *; omega) | (rw [wrap64_id (by omega) (by omega)]; omega) | (simp; done)))); (try simp only [hb, go_sem])))
            refine hK11 _ ?_; clear hK11 K11
            refine AWP.ret ?_
            try simp only [go_sem]
            clear hK9 K9 hK5 K5
            first
            | exact ⟨[], .v _, rfl, rfl, congrArg bl (right_no1 (by omega)).symm, rfl⟩
            | exact ⟨[], .v _, rfl, rfl, congrArg bl (right_no3 (by assumption) (by omega) (by omega)).symm, rfl⟩
            | exact ⟨[], .v _, rfl, rfl, congrArg bl (right_dec hb1 hb2 (by omega) h2).symm, rfl⟩
            | skip)
        · first | exact Bool.noConfusion c46 | (
            try simp only [dD] at c46
            refine AWP.skip ?_
            refine hK9 _ ?_; clear hK9 K9
            refine AWP.region ?_
            simp only [go_sem] -- region 6
            repeat' (first | (refine AGet.haveM (by assumption) ?_; (try simp only [go_sem])) | (refine AGet.have' (by assumption) ?_; (try simp only [go_sem])) | ((first | refine AGet.nth ?_ (fun b hb => ?_) | refine AGet.nth1 ?_ (fun b hb => ?_) | with_reducible refine And.intro ?_ ?_); (focus ((first | omega | exact List.length_pos_iff.2 (by assumption) | (simp only [List.length_append, List.length_cons, List.length_nil, List.length_map, List.length_take, List.length_drop] at *; omega) | (rw [wrap64_id (by omega) (by omega)]; omega) | (simp; done)))); (try simp only [hb, go_sem])))
            clear hK5 K5
            refine ⟨i + 1, ?_, ?_, ?_⟩
            · rw [wrap64_id (by have := parseL_len bs; omega) (by have := parseL_len bs; omega)]; simp; done
            · exact ⟨by omega, by rw [take_next (by assumption), List.all_append, h2]; simp; omega⟩
            · omega)))
  · first | exact Bool.noConfusion c22 | (
      try simp only [dD] at c22
      refine AWP.exit ?_
      simp only [go_sem]
      clear hK7 K7
      refine hK5 _ ?_; clear hK5 K5
      refine AWP.seqk fun K12 hK12 => ?_
      refine AWP.region ?_
      simp only [go_sem] -- region 9
      repeat' (first | (refine AGet.haveM (by assumption) ?_; (try simp only [go_sem])) | (refine AGet.have' (by assumption) ?_; (try simp only [go_sem])) | ((first | refine AGet.nth ?_ (fun b hb => ?_) | refine AGet.nth1 ?_ (fun b hb => ?_) | with_reducible refine And.intro ?_ ?_); (focus ((first | omega | exact List.length_pos_iff.2 (by assumption) | (simp only [List.length_append, List.length_cons, List.length_nil, List.length_map, List.length_take, List.length_drop] at *; omega) | (rw [wrap64_id (by omega) (by omega)]; omega) | (simp; done)))); (try simp only [hb, go_sem])))
      refine hK12 _ ?_; clear hK12 K12
      refine AWP.ret ?_
      try simp only [go_sem]
      first
      | exact ⟨[], .v _, rfl, rfl, congrArg bl (right_no1 (by omega)).symm, rfl⟩
      | exact ⟨[], .v _, rfl, rfl, congrArg bl (right_no3 (by assumption) (by omega) (by omega)).symm, rfl⟩
      | exact ⟨[], .v _, rfl, rfl, congrArg bl (right_dec hb1 hb2 (by omega) h2).symm, rfl⟩
      | skip)


theorem trail_c (s : Nat) (hs : s < 256) : ACalls E 49 [i64 s] (fun r t => r = .sl (some 0) 1 ((trailF s).map u8) ∧ t = [7]) := by -- checkroll/frame.trail
  refine ACalls.of_awp (n := 17) (rs := [.tmp 2]) Tryd.func49 rfl Tryd.ntmps49 rfl ?_
  refine AWP.seqk fun K1 hK1 => ?_
  refine AWP.region ?_
  simp only [go_sem] -- region 0
  repeat' (first | (refine AGet.haveM (by assumption) ?_; (try simp only [go_sem])) | (refine AGet.have' (by assumption) ?_; (try simp only [go_sem])) | ((first | refine AGet.nth ?_ (fun b hb => ?_) | refine AGet.nth1 ?_ (fun b hb => ?_) | with_reducible refine And.intro ?_ ?_); (focus ((first | omega | exact List.length_pos_iff.2 (by assumption) | (simp only [List.length_append, List.length_cons, List.length_nil, List.length_map, List.length_take, List.length_drop] at *; omega) | (rw [wrap64_id (by omega) (by omega)]; omega) | (simp; done)))); (try simp only [hb, go_sem])))
  refine hK1 _ ?_; clear hK1 K1
  refine AWP.seqk fun K2 hK2 => ?_
  refine AWP.region ?_
  simp only [go_sem] -- region 1
  repeat' (first | (refine AGet.haveM (by assumption) ?_; (try simp only [go_sem])) | (refine AGet.have' (by assumption) ?_; (try simp only [go_sem])) | ((first | refine AGet.nth ?_ (fun b hb => ?_) | refine AGet.nth1 ?_ (fun b hb => ?_) | with_reducible refine And.intro ?_ ?_); (focus ((first | omega | exact List.length_pos_iff.2 (by assumption) | (simp only [List.length_append, List.length_cons, List.length_nil, List.length_map, List.length_take, List.length_drop] at *; omega) | (rw [wrap64_id (by omega) (by omega)]; omega) | (simp; done)))); (try simp only [hb, go_sem])))
  refine hK2 _ ?_; clear hK2 K2
  refine AWP.ret ?_
  try simp only [go_sem]
  exact ⟨[(true, 0)], .sl (some 0) 1 _, rfl, ⟨rfl, rfl, rfl⟩, by rw [trail_lit hs], rfl⟩


set_option maxHeartbeats 2000000 in
set_option maxRecDepth 8000 in
theorem mput_c (b : Bs) : ACalls E 30 [bytesV b] (fun r t => r = .tup [.sl (some 0) 1 ((putB b).1.map u8), i64 (putB b).2] ∧ t = [(putB b).1.length]) := by -- checkroll/frame.Put
  refine ACalls.of_awp (n := 28) (rs := [.tmp 2, .tmp 3]) Tryd.func30 rfl Tryd.ntmps30 rfl ?_
  refine AWP.seqk fun K1 hK1 => ?_
  refine AWP.region ?_
  simp only [go_sem, begL, ABytes_row, begne, beg_len, trail_len, one8] -- region 0
  repeat' (first | (refine AGet.haveM (by assumption) ?_; (try simp only [go_sem, begL, ABytes_row, begne, beg_len, trail_len, one8])) | (refine AGet.have' (by assumption) ?_; (try simp only [go_sem, begL, ABytes_row, begne, beg_len, trail_len, one8])) | ((first | refine AGet.nth ?_ (fun b hb => ?_) | refine AGet.nth1 ?_ (fun b hb => ?_) | with_reducible refine And.intro ?_ ?_); (focus ((first | omega | exact List.length_pos_iff.2 (by assumption) | (simp only [List.length_append, List.length_cons, List.length_nil, List.length_map, List.length_take, List.length_drop] at *; omega) | (rw [wrap64_id (by omega) (by omega)]; omega) | (simp; done)))); (try simp only [hb, go_sem, begL, ABytes_row, begne, beg_len, trail_len, one8])))
  refine hK1 _ ?_; clear hK1 K1
  refine AWP.seqk fun K2 hK2 => ?_
  refine AWP.seqk fun K3 hK3 => ?_
  refine AWP.region ?_
  simp only [go_sem, begL, ABytes_row, begne, beg_len, trail_len, one8] -- region 1
  repeat' (first | (refine AGet.haveM (by assumption) ?_; (try simp only [go_sem, begL, ABytes_row, begne, beg_len, trail_len, one8])) | (refine AGet.have' (by assumption) ?_; (try simp only [go_sem, begL, ABytes_row, begne, beg_len, trail_len, one8])) | ((first | refine AGet.nth ?_ (fun b hb => ?_) | refine AGet.nth1 ?_ (fun b hb => ?_) | with_reducible refine And.intro ?_ ?_); (focus ((first | omega | exact List.length_pos_iff.2 (by assumption) | (simp only [List.length_append, List.length_cons, List.length_nil, List.length_map, List.length_take, List.length_drop] at *; omega) | (rw [wrap64_id (by omega) (by omega)]; omega) | (simp; done)))); (try simp only [hb, go_sem, begL, ABytes_row, begne, beg_len, trail_len, one8])))
  refine hK3 _ ?_; clear hK3 K3
  refine AWP.cond rfl (fun c7 => ?_) (fun c7 => ?_)
  · first | exact Bool.noConfusion c7 | (
      try simp only [dD] at c7
      refine AWP.seqk fun K4 hK4 => ?_
      refine AWP.region ?_
      simp only [go_sem, begL, ABytes_row, begne, beg_len, trail_len, one8] -- region 2
      repeat' (first | (refine AGet.haveM (by assumption) ?_; (try simp only [go_sem, begL, ABytes_row, begne, beg_len, trail_len, one8])) | (refine AGet.have' (by assumption) ?_; (try simp only [go_sem, begL, ABytes_row, begne, beg_len, trail_len, one8])) | ((first | refine AGet.nth ?_ (fun b hb => ?_) | refine AGet.nth1 ?_ (fun b hb => ?_) | with_reducible refine And.intro ?_ ?_); (focus ((first | omega | exact List.length_pos_iff.2 (by assumption) | (simp only [List.length_append, List.length_cons, List.length_nil, List.length_map, List.length_take, List.length_drop] at *; omega) | (rw [wrap64_id (by omega) (by omega)]; omega) | (simp; done)))); (try simp only [hb, go_sem, begL, ABytes_row, begne, beg_len, trail_len, one8])))
      refine hK4 _ ?_; clear hK4 K4
      refine AWP.ret ?_
      try simp only [go_sem]
      clear hK2 K2
      first
      | exact ⟨[(false, 1)], .tup [.sl (some 0) 1 [], .v _], rfl, ⟨rfl, rfl, trivial⟩, by rw [put_long' (by omega)]; rfl, by rw [put_long' (by omega)]; rfl⟩
      | exact ⟨[(false, 1)], .tup [.sl (some 0) 1 [], .v _], rfl, ⟨rfl, rfl, trivial⟩, by rw [put_bad' (by omega) (by assumption)]; rfl, by rw [put_bad' (by omega) (by assumption)]; rfl⟩
      | exact ⟨[(true, 0)], .tup [.sl (some 0) 1 _, .v _], rfl, ⟨⟨rfl, rfl, rfl⟩, rfl, trivial⟩, by rw [put_okD (by omega) (by assumption)], by rw [put_okD (by omega) (by assumption)]; simp [selLens, trail_len, beg_len] <;> omega⟩
      | skip)
  · first | exact Bool.noConfusion c7 | (
      try simp only [dD] at c7
      refine AWP.skip ?_
      refine hK2 _ ?_; clear hK2 K2
      refine AWP.seqk fun K5 hK5 => ?_
      refine AWP.seqk fun K6 hK6 => ?_
      refine AWP.region ?_
      simp only [go_sem, begL, ABytes_row, begne, beg_len, trail_len, one8] -- region 3
      repeat' (first | (refine ACall.one (mright_c _) (by kernel_rfl) rfl ?_; simp only [go_sem, begL, ABytes_row, begne, beg_len, trail_len, one8]) | (refine AGet.haveM (by assumption) ?_; (try simp only [go_sem, begL, ABytes_row, begne, beg_len, trail_len, one8])) | (refine AGet.have' (by assumption) ?_; (try simp only [go_sem, begL, ABytes_row, begne, beg_len, trail_len, one8])) | ((first | refine AGet.nth ?_ (fun b hb => ?_) | refine AGet.nth1 ?_ (fun b hb => ?_) | with_reducible refine And.intro ?_ ?_); (focus ((first | omega | exact List.length_pos_iff.2 (by assumption) | (simp only [List.length_append, List.length_cons, List.length_nil, List.length_map, List.length_take, List.length_drop] at *; omega) | (rw [wrap64_id (by omega) (by omega)]; omega) | (simp; done)))); (try simp only [hb, go_sem, begL, ABytes_row, begne, beg_len, trail_len, one8])))
      refine hK6 _ ?_; clear hK6 K6
      refine AWP.cond rfl (fun c10 => ?_) (fun c10 => ?_)
      · first | exact Bool.noConfusion c10 | (
          try simp only [dD] at c10
          refine AWP.seqk fun K7 hK7 => ?_
          refine AWP.region ?_
          simp only [go_sem, begL, ABytes_row, begne, beg_len, trail_len, one8] -- region 4
          repeat' (first | (refine AGet.haveM (by assumption) ?_; (try simp only [go_sem, begL, ABytes_row, begne, beg_len, trail_len, one8])) | (refine AGet.have' (by assumption) ?_; (try simp only [go_sem, begL, ABytes_row, begne, beg_len, trail_len, one8])) | ((first | refine AGet.nth ?_ (fun b hb => ?_) | refine AGet.nth1 ?_ (fun b hb => ?_) | with_reducible refine And.intro ?_ ?_); (focus ((first | omega | exact List.length_pos_iff.2 (by assumption) | (simp only [List.length_append, List.length_cons, List.length_nil, List.length_map, List.length_take, List.length_drop] at *; omega) | (rw [wrap64_id (by omega) (by omega)]; omega) | (simp; done)))); (try simp only [hb, go_sem, begL, ABytes_row, begne, beg_len, trail_len, one8])))
          refine hK7 _ ?_; clear hK7 K7
          refine AWP.ret ?_
          try simp only [go_sem]
          clear hK5 K5
          first
          | exact ⟨[(false, 1)], .tup [.sl (some 0) 1 [], .v _], rfl, ⟨rfl, rfl, trivial⟩, by rw [put_long' (by omega)]; rfl, by rw [put_long' (by omega)]; rfl⟩
          | exact ⟨[(false, 1)], .tup [.sl (some 0) 1 [], .v _], rfl, ⟨rfl, rfl, trivial⟩, by rw [put_bad' (by omega) (by assumption)]; rfl, by rw [put_bad' (by omega) (by assumption)]; rfl⟩
          | exact ⟨[(true, 0)], .tup [.sl (some 0) 1 _, .v _], rfl, ⟨⟨rfl, rfl, rfl⟩, rfl, trivial⟩, by rw [put_okD (by omega) (by assumption)], by rw [put_okD (by omega) (by assumption)]; simp [selLens, trail_len, beg_len] <;> omega⟩
          | skip)
      · first | exact Bool.noConfusion c10 | (
          try simp only [dD] at c10
          refine AWP.skip ?_
          refine hK5 _ ?_; clear hK5 K5
          refine AWP.seqk fun K8 hK8 => ?_
          refine AWP.region ?_
          simp only [go_sem, begL, ABytes_row, begne, beg_len, trail_len, one8] -- region 5
          repeat' (first | (refine AGet.haveM (by assumption) ?_; (try simp only [go_sem, begL, ABytes_row, begne, beg_len, trail_len, one8])) | (refine AGet.have' (by assumption) ?_; (try simp only [go_sem, begL, ABytes_row, begne, beg_len, trail_len, one8])) | ((first | refine AGet.nth ?_ (fun b hb => ?_) | refine AGet.nth1 ?_ (fun b hb => ?_) | with_reducible refine And.intro ?_ ?_); (focus ((first | omega | exact List.length_pos_iff.2 (by assumption) | (simp only [List.length_append, List.length_cons, List.length_nil, List.length_map, List.length_take, List.length_drop] at *; omega) | (rw [wrap64_id (by omega) (by omega)]; omega) | (simp; done)))); (try simp only [hb, go_sem, begL, ABytes_row, begne, beg_len, trail_len, one8])))
          have hd4 : (Lib.decDigits b.length).length ≤ 4 := dec_len (u := b.length) (k := 4) (by omega) (by decide)
          refine hK8 _ ?_; clear hK8 K8
          refine AWP.seqk fun K9 hK9 => ?_
          refine AWP.regionL ?_
          refine AWPL.app (l1 := [_, _, _]) (l2 := _ :: _) ?_
          simp only [go_sem]
          refine ⟨⟨_, rfl⟩, ?_⟩
          refine app_call (pre := beg) (u := b.length) (t := 0) ?_ ?_ ?_ ?_ ?_ ?_ ?_ ?_
          · rfl
          · rfl
          · rfl
          · omega
          · decide
          · rfl
          · simp [AV.bel, AV.bel2, AV.bel1]
          refine AWPL.of ?_
          simp only [go_sem]
          refine hK9 _ ?_; clear hK9 K9
          refine AWP.seqk fun K10 hK10 => ?_
          refine AWP.region ?_
          simp only [go_sem, begL, ABytes_row, begne, beg_len, trail_len, one8] -- region 7
          repeat' (first | (refine AGet.haveM (by assumption) ?_; (try simp only [go_sem, begL, ABytes_row, begne, beg_len, trail_len, one8])) | (refine AGet.have' (by assumption) ?_; (try simp only [go_sem, begL, ABytes_row, begne, beg_len, trail_len, one8])) | ((first | refine AGet.nth ?_ (fun b hb => ?_) | refine AGet.nth1 ?_ (fun b hb => ?_) | with_reducible refine And.intro ?_ ?_); (focus ((first | omega | exact List.length_pos_iff.2 (by assumption) | (simp only [List.length_append, List.length_cons, List.length_nil, List.length_map, List.length_take, List.length_drop] at *; omega) | (rw [wrap64_id (by omega) (by omega)]; omega) | (simp; done)))); (try simp only [hb, go_sem, begL, ABytes_row, begne, beg_len, trail_len, one8])))
          refine hK10 _ ?_; clear hK10 K10
          refine AWP.seqk fun K11 hK11 => ?_
          refine AWP.region ?_
          simp only [go_sem, begL, ABytes_row, begne, beg_len, trail_len, one8] -- region 8
          repeat' (first | (refine AGet.haveM (by assumption) ?_; (try simp only [go_sem, begL, ABytes_row, begne, beg_len, trail_len, one8])) | (refine AGet.have' (by assumption) ?_; (try simp only [go_sem, begL, ABytes_row, begne, beg_len, trail_len, one8])) | ((first | refine AGet.nth ?_ (fun b hb => ?_) | refine AGet.nth1 ?_ (fun b hb => ?_) | with_reducible refine And.intro ?_ ?_); (focus ((first | omega | exact List.length_pos_iff.2 (by assumption) | (simp only [List.length_append, List.length_cons, List.length_nil, List.length_map, List.length_take, List.length_drop] at *; omega) | (rw [wrap64_id (by omega) (by omega)]; omega) | (simp; done)))); (try simp only [hb, go_sem, begL, ABytes_row, begne, beg_len, trail_len, one8])))
          refine hK11 _ ?_; clear hK11 K11
          refine AWP.seqk fun K12 hK12 => ?_
          refine AWP.region ?_
          simp only [go_sem, begL, ABytes_row, begne, beg_len, trail_len, one8] -- region 9
          repeat' (first | (refine ACall.one (msum_c _ (by simp only [List.length_append, beg_len, List.length_cons, List.length_nil]; omega)) (by kernel_rfl) rfl ?_; simp only [go_sem, begL, ABytes_row, begne, beg_len, trail_len, one8]) | (refine ACall.of (trail_c _ (sumF_lt _)) (by kernel_rfl) rfl ?_; rintro r t ⟨rfl, rfl⟩ <;> simp only [go_sem, begL, ABytes_row, begne, beg_len, trail_len, one8]) | (refine AGet.haveM (by assumption) ?_; (try simp only [go_sem, begL, ABytes_row, begne, beg_len, trail_len, one8])) | (refine AGet.have' (by assumption) ?_; (try simp only [go_sem, begL, ABytes_row, begne, beg_len, trail_len, one8])) | ((first | refine AGet.nth ?_ (fun b hb => ?_) | refine AGet.nth1 ?_ (fun b hb => ?_) | with_reducible refine And.intro ?_ ?_); (focus ((first | omega | exact List.length_pos_iff.2 (by assumption) | (simp only [List.length_append, List.length_cons, List.length_nil, List.length_map, List.length_take, List.length_drop] at *; omega) | (rw [wrap64_id (by omega) (by omega)]; omega) | (simp; done)))); (try simp only [hb, go_sem, begL, ABytes_row, begne, beg_len, trail_len, one8])))
          refine hK12 _ ?_; clear hK12 K12
          refine AWP.ret ?_
          try simp only [go_sem]
          first
          | exact ⟨[(false, 1)], .tup [.sl (some 0) 1 [], .v _], rfl, ⟨rfl, rfl, trivial⟩, by rw [put_long' (by omega)]; rfl, by rw [put_long' (by omega)]; rfl⟩
          | exact ⟨[(false, 1)], .tup [.sl (some 0) 1 [], .v _], rfl, ⟨rfl, rfl, trivial⟩, by rw [put_bad' (by omega) (by assumption)]; rfl, by rw [put_bad' (by omega) (by assumption)]; rfl⟩
          | exact ⟨[(true, 0)], .tup [.sl (some 0) 1 _, .v _], rfl, ⟨⟨rfl, rfl, rfl⟩, rfl, trivial⟩, by rw [put_okD (by omega) (by assumption)], by rw [put_okD (by omega) (by assumption)]; simp [selLens, trail_len, beg_len] <;> omega⟩
          | skip))


set_option maxHeartbeats 2000000 in
set_option maxRecDepth 8000 in
theorem r3put_c (b : Bs) : ACalls E 31 [bytesV b] (fun r t => r = .tup [.sl (some 0) 1 ((putB b).1.map u8), i64 (putB b).2] ∧ t = [(putB b).1.length]) := by -- checkroll/checkrollref03.Put
  refine ACalls.of_awp (n := 39) (rs := [.tmp 2, .tmp 3]) Tryd.func31 rfl Tryd.ntmps31 rfl ?_
  refine AWP.seqk fun K1 hK1 => ?_
  refine AWP.region ?_
  simp only [go_sem, begS, beg_len, trail_len, one8] -- region 0
  repeat' (first | (refine AGet.haveM (by assumption) ?_; (try simp only [go_sem, begS, beg_len, trail_len, one8])) | (refine AGet.have' (by assumption) ?_; (try simp only [go_sem, begS, beg_len, trail_len, one8])) | ((first | refine AGet.nth ?_ (fun b hb => ?_) | refine AGet.nth1 ?_ (fun b hb => ?_) | with_reducible refine And.intro ?_ ?_); (focus ((first | omega | exact List.length_pos_iff.2 (by assumption) | (simp only [List.length_append, List.length_cons, List.length_nil, List.length_map, List.length_take, List.length_drop] at *; omega) | (rw [wrap64_id (by omega) (by omega)]; omega) | (simp; done)))); (try simp only [hb, go_sem, begS, beg_len, trail_len, one8])))
  refine hK1 _ ?_; clear hK1 K1
  refine AWP.seqk fun K2 hK2 => ?_
  refine AWP.seqk fun K3 hK3 => ?_
  refine AWP.region ?_
  simp only [go_sem, begS, beg_len, trail_len, one8] -- region 1
  repeat' (first | (refine AGet.haveM (by assumption) ?_; (try simp only [go_sem, begS, beg_len, trail_len, one8])) | (refine AGet.have' (by assumption) ?_; (try simp only [go_sem, begS, beg_len, trail_len, one8])) | ((first | refine AGet.nth ?_ (fun b hb => ?_) | refine AGet.nth1 ?_ (fun b hb => ?_) | with_reducible refine And.intro ?_ ?_); (focus ((first | omega | exact List.length_pos_iff.2 (by assumption) | (simp only [List.length_append, List.length_cons, List.length_nil, List.length_map, List.length_take, List.length_drop] at *; omega) | (rw [wrap64_id (by omega) (by omega)]; omega) | (simp; done)))); (try simp only [hb, go_sem, begS, beg_len, trail_len, one8])))
  refine hK3 _ ?_; clear hK3 K3
  refine AWP.cond rfl (fun c8 => ?_) (fun c8 => ?_)
  · first | exact Bool.noConfusion c8 | (
      try simp only [dD] at c8
      refine AWP.seqk fun K4 hK4 => ?_
      refine AWP.region ?_
      simp only [go_sem, begS, beg_len, trail_len, one8] -- region 2
      repeat' (first | (refine AGet.haveM (by assumption) ?_; (try simp only [go_sem, begS, beg_len, trail_len, one8])) | (refine AGet.have' (by assumption) ?_; (try simp only [go_sem, begS, beg_len, trail_len, one8])) | ((first | refine AGet.nth ?_ (fun b hb => ?_) | refine AGet.nth1 ?_ (fun b hb => ?_) | with_reducible refine And.intro ?_ ?_); (focus ((first | omega | exact List.length_pos_iff.2 (by assumption) | (simp only [List.length_append, List.length_cons, List.length_nil, List.length_map, List.length_take, List.length_drop] at *; omega) | (rw [wrap64_id (by omega) (by omega)]; omega) | (simp; done)))); (try simp only [hb, go_sem, begS, beg_len, trail_len, one8])))
      refine hK4 _ ?_; clear hK4 K4
      refine AWP.ret ?_
      try simp only [go_sem]
      clear hK2 K2
      first
      | exact ⟨[(false, 1)], .tup [.sl (some 0) 1 [], .v _], rfl, ⟨rfl, rfl, trivial⟩, by rw [put_long' (by omega)]; rfl, by rw [put_long' (by omega)]; rfl⟩
      | exact ⟨[(false, 1)], .tup [.sl (some 0) 1 [], .v _], rfl, ⟨rfl, rfl, trivial⟩, by rw [put_bad' (by omega) (by assumption)]; rfl, by rw [put_bad' (by omega) (by assumption)]; rfl⟩
      | exact ⟨[(true, 0)], .tup [.sl (some 0) 1 _, .v _], rfl, ⟨⟨rfl, rfl, rfl⟩, rfl, trivial⟩, by rw [put_okS (by omega) (by assumption), trail_lit (sumF_lt _)]; simp, by rw [put_okS (by omega) (by assumption)]; simp [selLens, trail_len, beg_len] <;> omega⟩
      | skip)
  · first | exact Bool.noConfusion c8 | (
      try simp only [dD] at c8
      refine AWP.skip ?_
      refine hK2 _ ?_; clear hK2 K2
      refine AWP.seqk fun K5 hK5 => ?_
      refine AWP.seqk fun K6 hK6 => ?_
      refine AWP.region ?_
      simp only [go_sem, begS, beg_len, trail_len, one8] -- region 3
      repeat' (first | (refine ACall.one (r3right_c _) (by kernel_rfl) rfl ?_; simp only [go_sem, begS, beg_len, trail_len, one8]) | (refine AGet.haveM (by assumption) ?_; (try simp only [go_sem, begS, beg_len, trail_len, one8])) | (refine AGet.have' (by assumption) ?_; (try simp only [go_sem, begS, beg_len, trail_len, one8])) | ((first | refine AGet.nth ?_ (fun b hb => ?_) | refine AGet.nth1 ?_ (fun b hb => ?_) | with_reducible refine And.intro ?_ ?_); (focus ((first | omega | exact List.length_pos_iff.2 (by assumption) | (simp only [List.length_append, List.length_cons, List.length_nil, List.length_map, List.length_take, List.length_drop] at *; omega) | (rw [wrap64_id (by omega) (by omega)]; omega) | (simp; done)))); (try simp only [hb, go_sem, begS, beg_len, trail_len, one8])))
      refine hK6 _ ?_; clear hK6 K6
      refine AWP.cond rfl (fun c11 => ?_) (fun c11 => ?_)
      · first | exact Bool.noConfusion c11 | (
          try simp only [dD] at c11
          refine AWP.seqk fun K7 hK7 => ?_
          refine AWP.region ?_
          simp only [go_sem, begS, beg_len, trail_len, one8] -- region 4
          repeat' (first | (refine AGet.haveM (by assumption) ?_; (try simp only [go_sem, begS, beg_len, trail_len, one8])) | (refine AGet.have' (by assumption) ?_; (try simp only [go_sem, begS, beg_len, trail_len, one8])) | ((first | refine AGet.nth ?_ (fun b hb => ?_) | refine AGet.nth1 ?_ (fun b hb => ?_) | with_reducible refine And.intro ?_ ?_); (focus ((first | omega | exact List.length_pos_iff.2 (by assumption) | (simp only [List.length_append, List.length_cons, List.length_nil, List.length_map, List.length_take, List.length_drop] at *; omega) | (rw [wrap64_id (by omega) (by omega)]; omega) | (simp; done)))); (try simp only [hb, go_sem, begS, beg_len, trail_len, one8])))
          refine hK7 _ ?_; clear hK7 K7
          refine AWP.ret ?_
          try simp only [go_sem]
          clear hK5 K5
          first
          | exact ⟨[(false, 1)], .tup [.sl (some 0) 1 [], .v _], rfl, ⟨rfl, rfl, trivial⟩, by rw [put_long' (by omega)]; rfl, by rw [put_long' (by omega)]; rfl⟩
          | exact ⟨[(false, 1)], .tup [.sl (some 0) 1 [], .v _], rfl, ⟨rfl, rfl, trivial⟩, by rw [put_bad' (by omega) (by assumption)]; rfl, by rw [put_bad' (by omega) (by assumption)]; rfl⟩
          | exact ⟨[(true, 0)], .tup [.sl (some 0) 1 _, .v _], rfl, ⟨⟨rfl, rfl, rfl⟩, rfl, trivial⟩, by rw [put_okS (by omega) (by assumption), trail_lit (sumF_lt _)]; simp, by rw [put_okS (by omega) (by assumption)]; simp [selLens, trail_len, beg_len] <;> omega⟩
          | skip)
      · first | exact Bool.noConfusion c11 | (
          try simp only [dD] at c11
          refine AWP.skip ?_
          refine hK5 _ ?_; clear hK5 K5
          refine AWP.seqk fun K8 hK8 => ?_
          have hsl := show_len (b.length : Int)
          refine AWP.region ?_
          simp only [go_sem, begS, beg_len, trail_len, one8] -- region 5
          repeat' (first | (refine ACall.one (r1show_c _) (by kernel_rfl) rfl ?_; simp only [go_sem, begS, beg_len, trail_len, one8]) | (refine AGet.haveM (by assumption) ?_; (try simp only [go_sem, begS, beg_len, trail_len, one8])) | (refine AGet.have' (by assumption) ?_; (try simp only [go_sem, begS, beg_len, trail_len, one8])) | ((first | refine AGet.nth ?_ (fun b hb => ?_) | refine AGet.nth1 ?_ (fun b hb => ?_) | with_reducible refine And.intro ?_ ?_); (focus ((first | omega | exact List.length_pos_iff.2 (by assumption) | (simp only [List.length_append, List.length_cons, List.length_nil, List.length_map, List.length_take, List.length_drop] at *; omega) | (rw [wrap64_id (by omega) (by omega)]; omega) | (simp; done)))); (try simp only [hb, go_sem, begS, beg_len, trail_len, one8])))
          refine hK8 _ ?_; clear hK8 K8
          refine AWP.seqk fun K9 hK9 => ?_
          refine AWP.region ?_
          simp only [go_sem, begS, beg_len, trail_len, one8] -- region 6
          repeat' (first | (refine AGet.haveM (by assumption) ?_; (try simp only [go_sem, begS, beg_len, trail_len, one8])) | (refine AGet.have' (by assumption) ?_; (try simp only [go_sem, begS, beg_len, trail_len, one8])) | ((first | refine AGet.nth ?_ (fun b hb => ?_) | refine AGet.nth1 ?_ (fun b hb => ?_) | with_reducible refine And.intro ?_ ?_); (focus ((first | omega | exact List.length_pos_iff.2 (by assumption) | (simp only [List.length_append, List.length_cons, List.length_nil, List.length_map, List.length_take, List.length_drop] at *; omega) | (rw [wrap64_id (by omega) (by omega)]; omega) | (simp; done)))); (try simp only [hb, go_sem, begS, beg_len, trail_len, one8])))
          refine hK9 _ ?_; clear hK9 K9
          refine AWP.seqk fun K10 hK10 => ?_
          refine AWP.region ?_
          simp only [go_sem, begS, beg_len, trail_len, one8] -- region 7
          repeat' (first | (refine ACall.one (rsum_c _ (by have hsl := show_len (b.length : Int); simp only [List.length_append, beg_len, List.length_cons, List.length_nil]; omega)) (by kernel_rfl) rfl ?_; simp only [go_sem, begS, beg_len, trail_len, one8]) | (refine AGet.haveM (by assumption) ?_; (try simp only [go_sem, begS, beg_len, trail_len, one8])) | (refine AGet.have' (by assumption) ?_; (try simp only [go_sem, begS, beg_len, trail_len, one8])) | ((first | refine AGet.nth ?_ (fun b hb => ?_) | refine AGet.nth1 ?_ (fun b hb => ?_) | with_reducible refine And.intro ?_ ?_); (focus ((first | omega | exact List.length_pos_iff.2 (by assumption) | (simp only [List.length_append, List.length_cons, List.length_nil, List.length_map, List.length_take, List.length_drop] at *; omega) | (rw [wrap64_id (by omega) (by omega)]; omega) | (simp; done)))); (try simp only [hb, go_sem, begS, beg_len, trail_len, one8])))
          refine hK10 _ ?_; clear hK10 K10
          refine AWP.seqk fun K11 hK11 => ?_
          refine AWP.region ?_
          simp only [go_sem, begS, beg_len, trail_len, one8] -- region 8
          repeat' (first | (refine AGet.haveM (by assumption) ?_; (try simp only [go_sem, begS, beg_len, trail_len, one8])) | (refine AGet.have' (by assumption) ?_; (try simp only [go_sem, begS, beg_len, trail_len, one8])) | ((first | refine AGet.nth ?_ (fun b hb => ?_) | refine AGet.nth1 ?_ (fun b hb => ?_) | with_reducible refine And.intro ?_ ?_); (focus ((first | omega | exact List.length_pos_iff.2 (by assumption) | (simp only [List.length_append, List.length_cons, List.length_nil, List.length_map, List.length_take, List.length_drop] at *; omega) | (rw [wrap64_id (by omega) (by omega)]; omega) | (simp; done)))); (try simp only [hb, go_sem, begS, beg_len, trail_len, one8])))
          refine hK11 _ ?_; clear hK11 K11
          refine AWP.ret ?_
          try simp only [go_sem]
          first
          | exact ⟨[(false, 1)], .tup [.sl (some 0) 1 [], .v _], rfl, ⟨rfl, rfl, trivial⟩, by rw [put_long' (by omega)]; rfl, by rw [put_long' (by omega)]; rfl⟩
          | exact ⟨[(false, 1)], .tup [.sl (some 0) 1 [], .v _], rfl, ⟨rfl, rfl, trivial⟩, by rw [put_bad' (by omega) (by assumption)]; rfl, by rw [put_bad' (by omega) (by assumption)]; rfl⟩
          | exact ⟨[(true, 0)], .tup [.sl (some 0) 1 _, .v _], rfl, ⟨⟨rfl, rfl, rfl⟩, rfl, trivial⟩, by rw [put_okS (by omega) (by assumption), trail_lit (sumF_lt _)]; simp, by rw [put_okS (by omega) (by assumption)]; simp [selLens, trail_len, beg_len] <;> omega⟩
          | skip))


end Go.Proofs.YtgiomlgkccjhfaaDoor
