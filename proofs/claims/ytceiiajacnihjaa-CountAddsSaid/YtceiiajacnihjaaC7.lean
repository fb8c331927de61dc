import Derived.Test.YtceiiajacnihjaaC6
set_option linter.unusedVariables false
set_option linter.unusedSimpArgs false
namespace Go.Proofs.Ytceiiajacnihjaa
open Go Go.Abs Go.RowKit Go.Bk
theorem srt_ba : srt [[98], [97]] = [[97], [98]] := srt_eq (l := [[98], [97]]) (List.Perm.swap ..) (by decide)
theorem new_ba : newS [[98], [97]] = some (srt [[98], [97]]) := by
  unfold newS; rw [if_pos (by decide)]
theorem ad1 : addS [[97], [98]] [0, 0] [97] 3 = (0, [3, 0]) := by decide
theorem ad2 : addS [[97], [98]] [3, 0] [97] (-1) = (0, [2, 0]) := by decide
theorem gt1 : getF [[97], [98]] [2, 0] [97] = (2, true) := by decide

set_option maxHeartbeats 4000000 in
set_option maxRecDepth 8000 in
theorem awake22_c  : ACalls E 6 [] (fun r t => r = bl true ∧ t = []) := by -- checkroll/checkrolllaw22.awake
  refine ACalls.of_awp (n := 62) (rs := [.tmp 0]) Try.func6 rfl Try.ntmps6 rfl ?_
  repeat' (first
    | refine AWP.seqk fun K hK => ?_
    | (
        refine AWP.here 1 8 7 rfl ?_
        refine AWP.regionL ?_
        refine AWPL.at 7 1 rfl ?_
        simp only [go_sem, srt_ba]
        (try refine ⟨⟨_, rfl⟩, ?_⟩)
        refine AWPL.forget 8 rfl ?_
        simp only [go_sem, srt_ba]
        refine new_call (names := [[98], [97]]) (own := []) (by rfl) (by first | rfl | (simp [AV.bel, AV.bel2, AV.bel1]; done)) (by repeat' (first | exact OwnBel.nil | refine OwnBel.cons ?_ ?_) <;> (intro es h; first | (cases h; done) | (cases h; simp [AV.leaves, AV.bel, AV.bel2, AV.bel1]))) (by simp) (fun hn => absurd (hn.symm.trans new_ba) (by simp)) (fun hn => ?_)
        simp only [srt_ba]
        simp only [go_sem, srt_ba]
        refine AWPL.of ?_
        simp only [go_sem, srt_ba])
    | (
        refine AWP.here 4 18 6 rfl ?_
        refine AWP.regionL ?_
        refine AWPL.at 6 1 rfl ?_
        simp only [go_sem, srt_ba]
        (try refine ⟨⟨_, rfl⟩, ?_⟩)
        refine add_call (id := 2) (c := 1) (nm := [[97], [98]]) (cn := [0, 0]) (d := 0) (s := [97]) (n := 3) (by rfl) (by rfl) (by rfl) (by rfl) (by rfl) (by rfl) (by decide) (by decide) ?_
        rw [ad1]
        simp only [go_sem, srt_ba]
        refine AWPL.at 4 1 rfl ?_
        simp only [go_sem, srt_ba]
        (try refine ⟨⟨_, rfl⟩, ?_⟩)
        refine add_call (id := 2) (c := 1) (nm := [[97], [98]]) (cn := [3, 0]) (d := 0) (s := [97]) (n := -1) (by rfl) (by rfl) (by rfl) (by rfl) (by rfl) (by rfl) (by decide) (by decide) ?_
        rw [ad2]
        simp only [go_sem, srt_ba]
        refine AWPL.of ?_
        simp only [go_sem, srt_ba])
    | (
        refine AWP.here 5 23 7 rfl ?_
        refine AWP.regionL ?_
        refine AWPL.at 7 1 rfl ?_
        simp only [go_sem, srt_ba]
        (try refine ⟨⟨_, rfl⟩, ?_⟩)
        refine get_call (id := 2) (c := 1) (nm := [[97], [98]]) (cn := [2, 0]) (m := 0) (d := 0) (s := [97]) (by rfl) (by rfl) (by rfl) (by rfl) (by rfl) (by decide) ?_
        rw [gt1]
        simp only [go_sem, srt_ba]
        refine AWPL.of ?_
        simp only [go_sem, srt_ba])
    | (
        refine AWP.here 6 27 36 rfl ?_
        refine AWP.regionL ?_
        refine AWPL.at 36 15 rfl ?_
        simp only [go_sem, srt_ba]
        (try refine ⟨⟨_, rfl⟩, ?_⟩)
        refine AWPL.guardT (by rfl) ?_
        refine names_call (id := 2) (c := 1) (nm := [[97], [98]]) (cn := [2, 0]) (m := 0) (d := 0) (by rfl) (by rfl) (by rfl) (by rfl) (by decide) ?_
        simp only [go_sem, srt_ba]
        refine AWPL.at 20 5 rfl ?_
        simp only [go_sem, srt_ba]
        (try refine ⟨⟨_, rfl⟩, ?_⟩)
        refine AWPL.guardT (by rfl) ?_
        refine names_call (id := 2) (c := 1) (nm := [[97], [98]]) (cn := [2, 0]) (m := 0) (d := 0) (by rfl) (by rfl) (by rfl) (by rfl) (by decide) ?_
        simp only [go_sem, srt_ba]
        refine AWPL.at 14 6 rfl ?_
        simp only [go_sem, srt_ba]
        (try refine ⟨⟨_, rfl⟩, ?_⟩)
        refine AWPL.guardT (by rfl) ?_
        refine first0_call (id := 2) (cid := 1) (nm := [[97], [98]]) (by rfl) (by rfl) ?_
        simp only [go_sem, srt_ba]
        refine AWPL.at 7 3 rfl ?_
        simp only [go_sem, srt_ba]
        (try refine ⟨⟨_, rfl⟩, ?_⟩)
        refine AWPL.guardT (by rfl) ?_
        refine first1_call (id := 2) (cid := 1) (nm := [[97], [98]]) (by rfl) (by rfl) ?_
        simp only [go_sem, srt_ba]
        refine AWPL.of ?_
        simp only [go_sem, srt_ba])
    | (refine AWP.region ?_; simp only [go_sem, srt_ba])
    | (refine hK _ ?_; clear hK K)
    | refine AWP.block ?_
    | refine AWP.cond rfl (fun c => ?_) (fun c => ?_) <;> first | exact Bool.noConfusion c | (try simp only [dD] at c)
    | refine AWP.skip ?_
    | (refine AWP.exit ?_; simp only [go_sem, srt_ba])
    | (refine ACall.one (new_call ) (by kernel_rfl) rfl ?_; simp only [go_sem, srt_ba])
    | (refine ACall.one (add_call ) (by kernel_rfl) rfl ?_; simp only [go_sem, srt_ba])
    | (refine ACall.one (get_call ) (by kernel_rfl) rfl ?_; simp only [go_sem, srt_ba])
    | (refine ACall.one (names_call ) (by kernel_rfl) rfl ?_; simp only [go_sem, srt_ba])
    | (refine ACall.one (first0_call ) (by kernel_rfl) rfl ?_; simp only [go_sem, srt_ba])
    | (refine AGuard.splitN (fun h => ?_) (fun h => ?_) <;> simp only [h, go_sem, srt_ba] <;> (try simp only [dD] at h))
    | (refine AGuard.split (fun h => ?_) (fun h => ?_) <;> simp only [h, go_sem, srt_ba] <;> (try simp only [dD] at h))
    | (refine AGet.haveM (by assumption) ?_; (try simp only [go_sem, srt_ba]))
    | (refine AGet.have' (by assumption) ?_; (try simp only [go_sem, srt_ba]))
    | ((first | refine AGet.nth ?_ (fun b hb => ?_) | refine AGet.nth1 ?_ (fun b hb => ?_) | with_reducible refine And.intro ?_ ?_); (focus (first | omega | assumption | exact List.length_pos_iff.2 (by assumption) | (simp only [List.length_append, List.length_cons, List.length_nil, List.length_map, List.length_take, List.length_drop] at *; omega) | (rw [wrap64_id (by omega) (by omega)]; omega) | (simp; done) | (simp [spare_len]; done) | (exact ⟨by omega, by omega⟩))); (try simp only [hb, go_sem, srt_ba]))
    | (
        refine AWP.ret ?_
        refine AEnd.is ?_; simp only [go_sem, out_v, out_s, out_n, v_int, v_bool, v_str] <;> (first | rfl | simp))
    | refine AWP.fin (by assumption) ?_
    | fail)


end Go.Proofs.Ytceiiajacnihjaa
