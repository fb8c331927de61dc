import Derived.Test.YtajeeghgiilhiaaT3
import Derived.Test.YtajeeghgiilhiaaMr
import Derived.Test.YtajeeghgiilhiaaLx
import Derived.Test.YtajeeghgiilhiaaQ21
set_option linter.unusedVariables false
set_option linter.unusedSimpArgs false
namespace Go.Proofs.Ytajeeghgiilhiaa
open Go Go.Abs Go.RowKit Go.Bk
theorem po_ren (σ : Nat → Option Nat) (a : List Po) (m : Nat) : (a.map poV ++ spare 5 m).map (AV.ren σ) = a.map poV ++ spare 5 m := ren_row fun _ => rfl
abbrev pssV (l : List (List Po)) : AV := .sl none 1 (l.map fun x => AV.sl none 5 (x.map poV))
theorem togF_n {n : Nm} {l : List Po} {i : Nat} {qs vs : List Int} (hi : l.length ≤ i) (hq : qs = (l.take i).map (·.qty)) (hv : vs = (l.take i).map (·.value)) (ho : (l.take i).any (·.over) = false) (h : (sumF qs).2 = false ∨ (sumF vs).2 = false) : togF n l = ⟨n.1, n.2, 0, 0, true⟩ := by
  rw [togF_end hi hq hv ho, if_neg]
  rcases h with h | h <;> simp [h]
theorem togF_y {n : Nm} {l : List Po} {i : Nat} {qs vs : List Int} (hi : l.length ≤ i) (hq : qs = (l.take i).map (·.qty)) (hv : vs = (l.take i).map (·.value)) (ho : (l.take i).any (·.over) = false) (h : (sumF qs).2 = true) (h2 : (sumF vs).2 = true) : togF n l = ⟨n.1, n.2, (sumF qs).1, (sumF vs).1, false⟩ := by
  rw [togF_end hi hq hv ho, if_pos (by rw [h, h2]; rfl)]
abbrev posV (l : List Po) : AV := .sl none 5 (l.map poV)
theorem bel_pos {no nt m : Nat} {l : List Po} : ∀ es, some (l.map poV ++ spare 5 m) = some es → ∀ e ∈ es, ∀ z ∈ e.leaves, z.bel no nt = true := bel_row fun x z hz => by
  simp only [AV.leaves, List.mem_cons, List.not_mem_nil, or_false] at hz
  rcases hz with rfl | rfl | rfl | rfl | rfl <;> rfl
theorem cl_po (l : List Po) : ∀ e ∈ l.map poV, ∀ x ∈ e.leaves, x.clean1 = some x := by
  intro e he x hx
  obtain ⟨o, _, rfl⟩ := List.mem_map.1 he
  simp only [AV.leaves, List.mem_cons, List.not_mem_nil, or_false] at hx
  rcases hx with rfl | rfl | rfl | rfl | rfl <;> rfl

set_option maxHeartbeats 4000000 in
set_option maxRecDepth 8000 in
theorem mright_c (l : List Po) (hl : l.length ≤ 1000000) : ACalls E 21 [posV l] (fun r t => r = bl (riseP l) ∧ t = []) := by -- checkroll/merge.Right
  refine ACalls.of_awp (n := 47) (rs := [.tmp 2]) Try.func21 rfl Try.ntmps21 rfl ?_
  repeat' (first
    | refine AWP.seqk fun K hK => ?_
    | (
        refine AWP.here 3 9 6 rfl ?_
        obtain ⟨x, hx⟩ : ∃ x, l[i]? = some x := ⟨_, List.getElem?_eq_getElem (by omega)⟩
        refine AWP.region ?_; simp only [go_sem])
    | (refine AWP.region ?_; simp only [go_sem])
    | (refine AWP.here 4 12 12 rfl ?_; refine AWP.regionO [0, 1, 2, 3, 4, 5, 6, 7, 8, 9, 10, 11] [] (by kernel_rfl) (by kernel_rfl) rfl ?_; simp only [go_sem])
    | (refine hK _ ?_; clear hK K)
    | refine AWP.block ?_
    | refine AWP.cond rfl (fun c => ?_) (fun c => ?_) <;> first | exact Bool.noConfusion c | (try simp only [dD] at c)
    | refine AWP.skip ?_
    | (refine AWP.exit ?_; simp only [go_sem])
    | (refine ACall.one (byn_c b x) (by kernel_rfl) rfl ?_; simp only [go_sem])
    | (refine ACall.one (numr_c x.qty) (by kernel_rfl) rfl ?_; simp only [go_sem])
    | (refine ACall.one (numr_c x.value) (by kernel_rfl) rfl ?_; simp only [go_sem])
    | (refine AGuard.splitN (fun h => ?_) (fun h => ?_) <;> simp only [h, go_sem] <;> (try simp only [dD] at h))
    | (refine AGuard.split (fun h => ?_) (fun h => ?_) <;> simp only [h, go_sem] <;> (try simp only [dD] at h))
    | (refine AGet.haveM (by assumption) ?_; (try simp only [go_sem]))
    | (refine AGet.have' (by assumption) ?_; (try simp only [go_sem]))
    | ((first | refine AGet.nth ?_ (fun b hb => ?_) | refine AGet.nth1 ?_ (fun b hb => ?_) | with_reducible refine And.intro ?_ ?_); (focus (first | omega | assumption | exact List.length_pos_iff.2 (by assumption) | (simp only [List.length_append, List.length_cons, List.length_nil, List.length_map, List.length_take, List.length_drop] at *; omega) | (rw [wrap64_id (by omega) (by omega)]; omega) | (simp; done) | (simp [spare_len]; done) | (exact ⟨by omega, by omega⟩))); (try simp only [hb, go_sem]))
    | (
        refine AWP.here 2 8 1 rfl ?_
        refine AWP.loopN (ι := Nat) [2, 3, 4, 8, 9, 10, 11, 12, 13, 14, 15, 16, 17, 18, 19, 20, 21, 22, 23, 24, 25, 26, 27, 28, 29, 30, 31, 32, 33, 34, 35, 36, 37, 38, 39, 40, 41, 42, 43, 44, 45, 46] (fun (i : Nat) => [(7, i64 i)]) (fun (i : Nat) => i ≤ l.length ∧ ∀ k, k < i → okR l k = true) (fun (i : Nat) => l.length - i) (0) ?_ ?_ ?_
        · (try simp only [go_sem]); (repeat' (first | refine And.intro ?_ ?_ | exact .inl rfl | exact .inr rfl | exact .inr ⟨rfl, rfl⟩ | trivial | exact .inr (oblA rfl) | exact .inr ⟨rfl, oblA rfl⟩ | exact .inr bel_strs | exact .inr ⟨rfl, bel_strs⟩ | exact .inr ⟨by simp, bel_strs⟩ | (simp; done) | exact .inr ⟨rfl, by simp⟩ | exact .inr ⟨by simp, by simp⟩)); done
        · exact ⟨by omega, fun k hk => by omega⟩
        rintro i ⟨h1, h3⟩
        simp only [go_sem])
    | (
        refine ⟨i + 1, ?_, ?_, ?_⟩
        · (try simp only [go_sem]); (try rw [wrap64_id (by omega) (by omega)]); (repeat' (first | refine And.intro ?_ ?_ | exact .inl rfl | exact .inr rfl | exact .inr ⟨rfl, rfl⟩ | trivial | exact .inr (oblA rfl) | exact .inr ⟨rfl, oblA rfl⟩ | exact .inr bel_strs | exact .inr ⟨rfl, bel_strs⟩ | exact .inr ⟨by simp, bel_strs⟩ | (simp; done) | exact .inr ⟨rfl, by simp⟩ | exact .inr ⟨by simp, by simp⟩)); done
        · exact ⟨by omega, upto_next h3 (by first | exact okR_ok0 hx (by omega) (by first | exact okP_n (by assumption) (by assumption) (by assumption) | exact okP_z (by assumption) (by assumption) (by assumption) (by assumption)) | (rw [wrap_pred (by omega) (by omega)] at hb; exact okR_ok hx hb (by first | exact okP_n (by assumption) (by assumption) (by assumption) | exact okP_z (by assumption) (by assumption) (by assumption) (by assumption)) (by omega)))⟩
        · (try simp only []); omega)
    | (
        refine AWP.ret ?_
        refine AEnd.is ?_; simp only [go_sem, out_v, out_s, out_n, v_int, v_bool, v_str] <;> (first | (rw [riseP_no hx (okR_bad1 hx (by first | exact okP_q (by assumption) | exact okP_v (by assumption) | exact okP_o (by assumption) (.inl (by assumption)) | exact okP_o (by assumption) (.inr (by assumption))))]; done) | (rw [wrap_pred (by omega) (by omega)] at hb; rw [riseP_no hx (okR_bad2 hx (by omega) hb (by omega))]; done) | (rw [riseP_yes (by omega) h3]; done) | skip))
    | refine AWP.fin (by assumption) ?_
    | fail)

set_option maxHeartbeats 4000000 in
set_option maxRecDepth 8000 in
theorem mget_c (l : List Po) (a s : Bs) (hl : l.length ≤ 9223372036854775807) : ACalls E 18 [posV l, str a, str s] (fun r t => r = poV (getP l (a, s)) ∧ t = []) := by -- checkroll/merge.Get
  refine ACalls.of_awp (n := 30) (rs := [.cell 6 41]) Try.func18 rfl Try.ntmps18 rfl ?_
  repeat' (first
    | refine AWP.seqk fun K hK => ?_
    | (
        refine AWP.here 3 13 4 rfl ?_
        obtain ⟨x, hx⟩ : ∃ x, l[i]? = some x := ⟨_, List.getElem?_eq_getElem (by omega)⟩
        refine AWP.region ?_; simp only [go_sem])
    | (refine AWP.region ?_; simp only [go_sem])
    | (refine hK _ ?_; clear hK K)
    | refine AWP.block ?_
    | refine AWP.cond rfl (fun c => ?_) (fun c => ?_) <;> first | exact Bool.noConfusion c | (try simp only [dD] at c)
    | refine AWP.skip ?_
    | (refine AWP.exit ?_; simp only [go_sem])
    | (refine AGuard.splitN (fun h => ?_) (fun h => ?_) <;> simp only [h, go_sem] <;> (try simp only [dD] at h))
    | (refine AGuard.split (fun h => ?_) (fun h => ?_) <;> simp only [h, go_sem] <;> (try simp only [dD] at h))
    | (refine AGet.haveM (by assumption) ?_; (try simp only [go_sem]))
    | (refine AGet.have' (by assumption) ?_; (try simp only [go_sem]))
    | ((first | refine AGet.nth ?_ (fun b hb => ?_) | refine AGet.nth1 ?_ (fun b hb => ?_) | with_reducible refine And.intro ?_ ?_); (focus (first | omega | assumption | exact List.length_pos_iff.2 (by assumption) | (simp only [List.length_append, List.length_cons, List.length_nil, List.length_map, List.length_take, List.length_drop] at *; omega) | (rw [wrap64_id (by omega) (by omega)]; omega) | (simp; done) | (simp [spare_len]; done) | (exact ⟨by omega, by omega⟩))); (try simp only [hb, go_sem]))
    | (
        refine AWP.here 2 12 1 rfl ?_
        refine AWP.loopN (ι := Nat) [8, 12, 13, 14, 15, 16, 17, 18, 19, 20, 21, 22, 23, 24, 25, 26] (fun (i : Nat) => [(11, i64 i)]) (fun (i : Nat) => i ≤ l.length ∧ ∀ k y, k < i → l[k]? = some y → ¬ (y.acc = a ∧ y.sym = s)) (fun (i : Nat) => l.length - i) (0) ?_ ?_ ?_
        · (try simp only [go_sem]); (repeat' (first | refine And.intro ?_ ?_ | exact .inl rfl | exact .inr rfl | exact .inr ⟨rfl, rfl⟩ | trivial | exact .inr (oblA rfl) | exact .inr ⟨rfl, oblA rfl⟩ | exact .inr bel_strs | exact .inr ⟨rfl, bel_strs⟩ | exact .inr ⟨by simp, bel_strs⟩ | (simp; done) | exact .inr ⟨rfl, by simp⟩ | exact .inr ⟨by simp, by simp⟩)); done
        · exact ⟨by omega, fun k y hk => by omega⟩
        rintro i ⟨h1, h3⟩
        simp only [go_sem])
    | (
        refine ⟨i + 1, ?_, ?_, ?_⟩
        · (try simp only [go_sem]); (try rw [wrap64_id (by omega) (by omega)]); (repeat' (first | refine And.intro ?_ ?_ | exact .inl rfl | exact .inr rfl | exact .inr ⟨rfl, rfl⟩ | trivial | exact .inr (oblA rfl) | exact .inr ⟨rfl, oblA rfl⟩ | exact .inr bel_strs | exact .inr ⟨rfl, bel_strs⟩ | exact .inr ⟨by simp, bel_strs⟩ | (simp; done) | exact .inr ⟨rfl, by simp⟩ | exact .inr ⟨by simp, by simp⟩)); done
        · exact ⟨by omega, noneP_next h3 hx (by (try clear hK); simp_all)⟩
        · (try simp only []); omega)
    | (
        refine AWP.ret ?_
        refine AEnd.is ?_; simp only [go_sem, out_v, out_s, out_n, v_int, v_bool, v_str] <;> (first | (rw [getP_no (n := (a, s)) (by omega) h3]; done) | (rw [getP_no (n := (a, s)) (by omega) h3]; simp; done) | (rw [getP_yes (n := (a, s)) hx h3 (by (try clear hK); simp_all)]; done) | (rw [getP_yes (n := (a, s)) hx h3 (by (try clear hK); simp_all)]; simp; done) | skip))
    | refine AWP.fin (by assumption) ?_
    | fail)

set_option maxHeartbeats 8000000 in
set_option maxRecDepth 8000 in
theorem mtog_c (l : List Po) (p0 : Po) (hl : l.length ≤ 1000000) (hp0 : l[0]? = some p0) : ACalls E 24 [posV l] (fun r t => r = poV (togF (nmP p0) l) ∧ t = []) := by -- checkroll/merge.together
  refine ACalls.of_awp (n := 65) (rs := [.cell 2 41]) Try.func24 rfl Try.ntmps24 rfl ?_
  repeat' (first
    | refine AWP.seqk fun K hK => ?_
    | (
        refine AWP.here 5 25 4 rfl ?_
        obtain ⟨x, hx⟩ : ∃ x, l[i]? = some x := ⟨_, List.getElem?_eq_getElem (by omega)⟩
        refine AWP.region ?_; simp only [go_sem])
    | (refine AWP.region ?_; simp only [go_sem])
    | (refine AWP.here 1 12 11 rfl ?_; refine AWP.regionO [0, 1, 2, 3, 4, 5, 6, 7, 8, 9, 10] [3] (by kernel_rfl) (by kernel_rfl) rfl ?_; simp only [go_sem])
    | (refine hK _ ?_; clear hK K)
    | refine AWP.block ?_
    | refine AWP.cond rfl (fun c => ?_) (fun c => ?_) <;> first | exact Bool.noConfusion c | (try simp only [dD] at c)
    | refine AWP.skip ?_
    | (refine AWP.exit ?_; simp only [go_sem])
    | (refine ACall.one (nsum_c qs (by omega)) (by kernel_rfl) rfl ?_; simp only [go_sem])
    | (refine ACall.one (nsum_c vs (by omega)) (by kernel_rfl) rfl ?_; simp only [go_sem])
    | (refine AGuard.splitN (fun h => ?_) (fun h => ?_) <;> simp only [h, go_sem] <;> (try simp only [dD] at h))
    | (refine AGuard.split (fun h => ?_) (fun h => ?_) <;> simp only [h, go_sem] <;> (try simp only [dD] at h))
    | (refine AGet.haveM (by assumption) ?_; (try simp only [go_sem]))
    | (refine AGet.have' (by assumption) ?_; (try simp only [go_sem]))
    | ((first | refine AGet.nth ?_ (fun b hb => ?_) | refine AGet.nth1 ?_ (fun b hb => ?_) | with_reducible refine And.intro ?_ ?_); (focus (first | omega | assumption | exact List.length_pos_iff.2 (by assumption) | (simp only [List.length_append, List.length_cons, List.length_nil, List.length_map, List.length_take, List.length_drop] at *; omega) | (rw [wrap64_id (by omega) (by omega)]; omega) | (simp; done) | (simp [spare_len]; done) | (exact ⟨by omega, by omega⟩))); (try simp only [hb, go_sem]))
    | (
        refine AWP.here 4 24 1 rfl ?_
        refine AWP.nilTok 4 1 rfl ?_
        refine AWP.nilTok 5 1 rfl ?_
        simp only [go_sem]
        refine AWP.loopM (ι := Nat × List Int × List Int) [7, 24, 25, 26, 27, 28, 29, 30, 31, 32, 33, 34, 35, 36, 37, 38, 39, 40, 41] (fun ⟨i, qs, vs⟩ => [(23, i64 i), (4, .sl (some 0) 1 (qs.map i64)), (5, .sl (some 1) 1 (vs.map i64))]) (fun ⟨i, qs, vs⟩ => [some [.agg [str [], str [], i64 0, i64 0, bl false]], some [.agg [str p0.acc, str p0.sym, i64 0, i64 0, bl false]]]) (fun ⟨i, qs, vs⟩ => [qs.length, vs.length]) (fun ⟨i, qs, vs⟩ => i ≤ l.length ∧ qs = (l.take i).map (·.qty) ∧ vs = (l.take i).map (·.value) ∧ (l.take i).any (·.over) = false) (fun ⟨i, qs, vs⟩ => l.length - i) ((0, [], [])) ?_ ?_ ?_
        · (try simp only [go_sem]); (repeat' (first | refine And.intro ?_ ?_ | exact .inl rfl | exact .inr rfl | exact .inr ⟨rfl, rfl⟩ | trivial | exact .inr (oblA rfl) | exact .inr ⟨rfl, oblA rfl⟩ | exact .inr bel_strs | exact .inr ⟨rfl, bel_strs⟩ | exact .inr ⟨by simp, bel_strs⟩ | (simp; done) | exact .inr ⟨rfl, by simp⟩ | exact .inr ⟨by simp, by simp⟩)); done
        · exact ⟨by omega, rfl, rfl, rfl⟩
        rintro ⟨i, qs, vs⟩ ⟨h1, h2, h3, h4⟩
        simp only [go_sem]
        have hql : qs.length = i := by rw [h2, List.length_map, List.length_take]; omega
        have hvl : vs.length = i := by rw [h3, List.length_map, List.length_take]; omega)
    | (
        first
        | (refine ⟨(i + 1, qs ++ [x.qty], vs ++ [x.value]), ?_, ⟨by show i + 1 ≤ l.length; omega, by show qs ++ [x.qty] = (l.take (i + 1)).map (·.qty); rw [h2, take_next hx]; simp, by show vs ++ [x.value] = (l.take (i + 1)).map (·.value); rw [h3, take_next hx]; simp, any_next hx h4 (by assumption)⟩, by show l.length - (i + 1) < l.length - i; omega⟩
           (try simp only [go_sem]); (try rw [wrap64_id (by omega) (by omega)]); (repeat' (first | refine And.intro ?_ ?_ | exact .inl rfl | exact .inr rfl | exact .inr ⟨rfl, rfl⟩ | trivial | exact .inr (oblA rfl) | exact .inr ⟨rfl, oblA rfl⟩ | exact .inr bel_strs | exact .inr ⟨rfl, bel_strs⟩ | exact .inr ⟨by simp, bel_strs⟩ | (simp; done) | exact .inr ⟨rfl, by simp⟩ | exact .inr ⟨by simp, by simp⟩)); done))
    | (
        refine AWP.ret ?_
        refine AEnd.is ?_; simp only [go_sem, out_v, out_s, out_n, v_int, v_bool, v_str] <;> (first | (rw [togF_over hx (by assumption)]; simp [nmP]; done) | (rw [togF_n (by omega) h2 h3 h4 (.inl (by assumption))]; simp [nmP]; done) | (rw [togF_n (by omega) h2 h3 h4 (.inr (by assumption))]; simp [nmP]; done) | (rw [togF_y (by omega) h2 h3 h4 (by assumption) (by assumption)]; simp [nmP]; done) | skip))
    | refine AWP.fin (by assumption) ?_
    | fail)


end Go.Proofs.Ytajeeghgiilhiaa
