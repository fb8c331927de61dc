import Derived.Test.YtceiiajacnihjaaC8
set_option linter.unusedVariables false
set_option linter.unusedSimpArgs false
namespace Go.Proofs.Ytceiiajacnihjaa
open Go Go.Abs Go.RowKit Go.Bk
theorem ref_flag {names s : List Bs} (hns : newS names = none) (hr : refGo [] names = some s) : names = [] := by
  rw [ref_new] at hr
  split at hr
  · assumption
  · rw [hns] at hr; simp at hr

set_option maxHeartbeats 4000000 in
set_option maxRecDepth 8000 in
theorem right22_n (names : List Bs) (l : List (Bs × Int)) (hns : newS names = none) : ACalls E 4 [.sl none 1 (names.map str), .sl none 2 (l.map doV)] (fun r t => r = bl true ∧ t = []) := by -- #rn
  refine ACalls.of_awp (n := 136) (rs := [.tmp 4]) Try.func4 rfl Try.ntmps4 rfl ?_
  repeat' (first
    | refine AWP.seqk fun K hK => ?_
    | (
        refine AWP.here 5 19 7 rfl ?_
        refine AWP.regionL ?_
        refine AWPL.at 7 1 rfl ?_
        simp only [go_sem]
        (try refine ⟨⟨_, rfl⟩, ?_⟩)
        (try refine ⟨by omega, ?_⟩)
        (try simp only [go_sem])
        refine new_call (names := names) (own := []) (by rfl) (by first | rfl | (simp [AV.bel, AV.bel2, AV.bel1]; done)) (by (repeat' (first | exact OwnBel.nil | refine OwnBel.cons ?_ ?_)) <;> (intro es h; first | (cases h; done) | (cases h; simp [AV.leaves, AV.bel, AV.bel2, AV.bel1]))) (by omega) (fun hn => ?_) (fun hn => absurd (hn.symm.trans hns) (by simp))
        simp only [go_sem]
        refine AWPL.of ?_
        simp only [go_sem])
    | (
        refine AWP.here 6 24 8 rfl ?_
        refine AWP.regionL ?_
        refine AWPL.at 8 1 rfl ?_
        simp only [go_sem]
        (try refine ⟨⟨_, rfl⟩, ?_⟩)
        (try refine ⟨by omega, ?_⟩)
        (try simp only [go_sem])
        refine refnew_call (names := names) (own := []) (by rfl) (by omega) (by first | rfl | (simp [AV.bel, AV.bel2, AV.bel1]; done)) (by (repeat' (first | exact OwnBel.nil | refine OwnBel.cons ?_ ?_)) <;> (intro es h; first | (cases h; done) | (cases h; simp [AV.leaves, AV.bel, AV.bel2, AV.bel1]))) (fun hr o1 o2 => ?_) (fun s hr o1 o2 => ?_)
        simp only [go_sem]
        refine AWPL.of ?_
        simp only [go_sem]
        rotate_left
        have hpos : decide (0 < (names.length : Int)) = false := by rw [ref_flag hns hr]; rfl
        simp only [hpos]
        simp only [go_sem]
        refine AWPL.of ?_
        simp only [go_sem])
    | (refine AWP.region ?_; simp only [go_sem])
    | (refine AWP.here 9 36 14 rfl ?_; refine AWP.regionO [0, 1, 2, 3, 4, 5, 6, 7, 9, 10, 8, 11, 12, 13] [] (by kernel_rfl) (by kernel_rfl) rfl ?_; simp only [go_sem])
    | (refine AWP.here 14 60 24 rfl ?_; refine AWP.regionAs [0, 1, 2, 3, 4, 5, 6, 7, 8, 9, 10, 12, 13, 14, 15, 16, 17, 18, 19, 20, 21, 11, 22, 23] [[], [], [], [1, 2], [1, 2, 3], [1, 2, 3, 4], [], [], [6, 7], [6, 7, 8], [6, 7, 8, 9], [0, 1, 2, 3, 4, 5, 6, 7, 8, 9, 10], [], [], [12, 13], [12, 13, 14], [12, 13, 14, 15], [], [], [17, 18], [17, 18, 19], [17, 18, 19, 20], [0, 1, 2, 3, 4, 5, 6, 7, 8, 9, 10, 11, 12, 13, 14, 15, 16, 17, 18, 19, 20, 21], [0, 1, 2, 3, 4, 5, 6, 7, 8, 9, 10, 11, 12, 13, 14, 15, 16, 17, 18, 19, 20, 21, 22]] [] (by kernel_rfl) (by kernel_rfl) (by decide) rfl ?_; simp only [go_sem])
    | (refine AWP.here 20 131 6 rfl ?_; refine AWP.regionO [0, 2, 3, 1, 4, 5] [] (by kernel_rfl) (by kernel_rfl) rfl ?_; simp only [go_sem])
    | (refine hK _ ?_; clear hK K)
    | refine AWP.block ?_
    | refine AWP.cond rfl (fun c => ?_) (fun c => ?_) <;> first | exact Bool.noConfusion c | (try simp only [dD] at c)
    | refine AWP.skip ?_
    | (refine AWP.exit ?_; simp only [go_sem])
    | (refine ACall.one (awake22_c) (by kernel_rfl) rfl ?_; simp only [go_sem])
    | (refine ACall.one (new_call ) (by kernel_rfl) rfl ?_; simp only [go_sem])
    | (refine ACall.one (refnew_call ) (by kernel_rfl) rfl ?_; simp only [go_sem])
    | (refine ACall.one (names_call ) (by kernel_rfl) rfl ?_; simp only [go_sem])
    | (refine ACall.one (texts_c _ _ (by first | assumption | omega | (simp only [List.length_take]; omega))) (by kernel_rfl) rfl ?_; simp only [go_sem])
    | (refine ACall.one (add_call ) (by kernel_rfl) rfl ?_; simp only [go_sem])
    | (refine ACall.one (radd_call ) (by kernel_rfl) rfl ?_; simp only [go_sem])
    | (refine ACall.one (get_call ) (by kernel_rfl) rfl ?_; simp only [go_sem])
    | (refine ACall.one (rat_call ) (by kernel_rfl) rfl ?_; simp only [go_sem])
    | (refine ACall.one (first0_call ) (by kernel_rfl) rfl ?_; simp only [go_sem])
    | (refine ACall.one (all_call ) (by kernel_rfl) rfl ?_; simp only [go_sem])
    | (refine ACall.one (numbers_c _ _ (by first | assumption | omega | (simp only [List.length_take]; omega))) (by kernel_rfl) rfl ?_; simp only [go_sem])
    | (refine AGuard.splitN (fun h => ?_) (fun h => ?_) <;> simp only [h, go_sem] <;> (try simp only [dD] at h))
    | (refine AGuard.split (fun h => ?_) (fun h => ?_) <;> simp only [h, go_sem] <;> (try simp only [dD] at h))
    | (refine AGet.haveM (by assumption) ?_; (try simp only [go_sem]))
    | (refine AGet.have' (by assumption) ?_; (try simp only [go_sem]))
    | ((first | refine AGet.nth ?_ (fun b hb => ?_) | refine AGet.nth1 ?_ (fun b hb => ?_) | with_reducible refine And.intro ?_ ?_); (focus (first | omega | assumption | exact List.length_pos_iff.2 (by assumption) | (simp only [List.length_append, List.length_cons, List.length_nil, List.length_map, List.length_take, List.length_drop] at *; omega) | (rw [wrap64_id (by omega) (by omega)]; omega) | (simp; done) | (simp [spare_len]; done) | (exact ⟨by omega, by omega⟩))); (try simp only [hb, go_sem]))
    | (
        refine AWP.ret ?_
        refine AEnd.is ?_; simp only [go_sem, out_v, out_s, out_n, v_int, v_bool, v_str] <;> (first | rfl | simp))
    | refine AWP.fin (by assumption) ?_
    | fail)

theorem right22_c (names : List Bs) (l : List (Bs × Int)) : ACalls E 4 [.sl none 1 (names.map str), .sl none 2 (l.map doV)] (fun r t => r = bl true ∧ t = []) := by
  cases h : newS names with
  | none => exact right22_n names l h
  | some s => exact right22_y names l (by rw [h, (new_some h).1])


end Go.Proofs.Ytceiiajacnihjaa
