import Derived.Test.YtceiiajacnihjaaC9
set_option linter.unusedVariables false
set_option linter.unusedSimpArgs false
namespace Go.Proofs.Ytceiiajacnihjaa
open Go Go.Abs Go.RowKit Go.Bk
theorem i64_eq {a b : Int} (h : a = b) : i64 a = .v (.int .i64 b) := by rw [h]
theorem rev_step {l : List Bs} {j : Nat} {x : Bs} (h : l[j]? = some x) : (l.drop (j + 1)).reverse.map str ++ [str x] = (l.drop j).reverse.map str := by
  rw [drop_cons h]; simp

set_option maxHeartbeats 4000000 in
set_option maxRecDepth 8000 in
theorem names22_n (names : List Bs) (other : Bs) (hns : newS names = none) : ACalls E 3 [.sl none 1 (names.map str), str other] (fun r t => r = bl true ∧ t = []) := by -- #nn
  have hrs : newS names.reverse = none := by rw [new_perm (List.reverse_perm names)]; exact hns
  refine ACalls.of_awp (n := 147) (rs := [.tmp 4]) Try.func3 rfl Try.ntmps3 rfl ?_
  repeat' (first
    | refine AWP.seqk fun K hK => ?_
    | (
        refine AWP.here 10 35 8 rfl ?_
        obtain ⟨j, rfl⟩ : ∃ j, k = j + 1 := ⟨k - 1, by omega⟩
        obtain ⟨x, hx⟩ : ∃ x, names[j]? = some x := ⟨_, List.getElem?_eq_getElem (by omega)⟩
        have hj : (((j + 1 : Nat) : Int) - 1).toNat = j := by omega
        refine AWP.region ?_; simp only [go_sem, hj, hx, Option.map_some, List.getElem?_map])
    | (
        refine AWP.here 5 24 7 rfl ?_
        refine AWP.regionL ?_
        refine AWPL.at 7 1 rfl ?_
        simp only [go_sem]
        (try refine ⟨⟨_, rfl⟩, ?_⟩)
        (try refine ⟨by omega, ?_⟩)
        (try simp only [go_sem])
        refine new_call (names := names) (own := []) (by rfl) (by first | rfl | (simp [AV.bel, AV.bel2, AV.bel1]; done)) (by (repeat' (first | exact OwnBel.nil | refine OwnBel.cons ?_ ?_)) <;> (intro es h; first | (cases h; done) | (cases h; simp [AV.leaves, AV.bel, AV.bel2, AV.bel1]))) (by omega) (fun hn => ?_) (fun hn => absurd (hn.symm.trans hns) (by simp))
        simp only [go_sem]
        refine AWPL.of ?_
        simp only [go_sem])
    | (
        refine AWP.here 11 43 7 rfl ?_
        have hk0 : k = 0 := by omega
        subst hk0
        rw [List.drop_zero]
        refine AWP.forget 7 rfl ?_
        simp only [go_sem]
        refine AWP.regionL ?_
        refine AWPL.at 7 1 rfl ?_
        simp only [go_sem]
        (try refine ⟨⟨_, rfl⟩, ?_⟩)
        (try refine ⟨by omega, ?_⟩)
        (try simp only [go_sem])
        refine new_call (names := names.reverse) (own := []) (by rfl) (by first | rfl | (simp [AV.bel, AV.bel2, AV.bel1]; done)) (by (repeat' (first | exact OwnBel.nil | refine OwnBel.cons ?_ ?_)) <;> (intro es h; first | (cases h; done) | (cases h; simp [AV.leaves, AV.bel, AV.bel2, AV.bel1]))) (by rw [List.length_reverse]; omega) (fun hn => ?_) (fun hn => absurd (hn.symm.trans hrs) (by simp))
        simp only [go_sem]
        refine AWPL.of ?_
        simp only [go_sem])
    | (refine AWP.region ?_; simp only [go_sem])
    | (refine AWP.here 24 99 22 rfl ?_; refine AWP.regionAs [0, 1, 2, 3, 4, 5, 6, 7, 8, 9, 10, 11, 12, 13, 14, 15, 16, 17, 18, 19, 20, 21] [[], [0], [0, 1], [0, 1, 2], [0, 1, 2], [0, 1, 2, 4], [0, 1, 2, 3, 4, 5], [0, 1, 2, 3, 4, 5, 6], [0, 1, 2], [0, 1, 2], [0, 1, 2, 8, 9], [0, 1, 2, 8, 9, 10], [0, 1, 2, 3, 4, 5, 6, 7, 8, 9, 10, 11], [0, 1, 2, 3, 4, 5, 6, 7, 8, 9, 10, 11, 12], [0, 1, 2, 3, 4, 5, 6, 7, 8, 9, 10, 11, 12, 13], [0, 1, 2, 3, 4, 5, 6, 7, 8, 9, 10, 11, 12, 13, 14], [0, 1, 2, 3, 4, 5, 6, 7, 8, 9, 10, 11, 12, 13, 14, 15], [0, 1, 2, 3, 4, 5, 6, 7, 8, 9, 10, 11, 12, 13, 14, 15, 16], [0, 1, 2, 3, 4, 5, 6, 7, 8, 9, 10, 11, 12, 13, 14, 15, 16, 17], [0, 1, 2, 3, 4, 5, 6, 7, 8, 9, 10, 11, 12, 13, 14, 15, 16, 17, 18], [0, 1, 2, 3, 4, 5, 6, 7, 8, 9, 10, 11, 12, 13, 14, 15, 16, 17, 18, 19], [0, 1, 2, 3, 4, 5, 6, 7, 8, 9, 10, 11, 12, 13, 14, 15, 16, 17, 18, 19, 20]] [] (by kernel_rfl) (by kernel_rfl) (by decide) rfl ?_; simp only [go_sem])
    | (refine hK _ ?_; clear hK K)
    | refine AWP.block ?_
    | refine AWP.cond rfl (fun c => ?_) (fun c => ?_) <;> first | exact Bool.noConfusion c | (try simp only [dD] at c)
    | refine AWP.skip ?_
    | (refine AWP.exit ?_; simp only [go_sem])
    | (refine ACall.one (awake22_c) (by kernel_rfl) rfl ?_; simp only [go_sem])
    | (refine ACall.one (new_call ) (by kernel_rfl) rfl ?_; simp only [go_sem])
    | (refine ACall.one (names_call ) (by kernel_rfl) rfl ?_; simp only [go_sem])
    | (refine ACall.one (texts_c _ _ (by first | assumption | omega | (simp only [List.length_take]; omega))) (by kernel_rfl) rfl ?_; simp only [go_sem])
    | (refine ACall.one (get_call ) (by kernel_rfl) rfl ?_; simp only [go_sem])
    | (refine ACall.one (add_call ) (by kernel_rfl) rfl ?_; simp only [go_sem])
    | (refine AGuard.splitN (fun h => ?_) (fun h => ?_) <;> simp only [h, go_sem] <;> (try simp only [dD] at h))
    | (refine AGuard.split (fun h => ?_) (fun h => ?_) <;> simp only [h, go_sem] <;> (try simp only [dD] at h))
    | (refine AGet.haveM (by assumption) ?_; (try simp only [go_sem]))
    | (refine AGet.have' (by assumption) ?_; (try simp only [go_sem]))
    | ((first | refine AGet.nth ?_ (fun b hb => ?_) | refine AGet.nth1 ?_ (fun b hb => ?_) | with_reducible refine And.intro ?_ ?_); (focus (first | omega | assumption | exact List.length_pos_iff.2 (by assumption) | (simp only [List.length_append, List.length_cons, List.length_nil, List.length_map, List.length_take, List.length_drop] at *; omega) | (rw [wrap64_id (by omega) (by omega)]; omega) | (simp; done) | (simp [spare_len]; done) | (exact ⟨by omega, by omega⟩) | (simp; omega))); (try simp only [hb, go_sem]))
    | (
        refine AWP.here 8 31 2 rfl ?_
        refine AWP.nilTok 7 1 rfl ?_
        simp only [go_sem]
        refine AWP.loopM (ι := Nat) [31, 32, 33, 34, 35, 36, 37, 38, 39, 40, 41] (fun (k : Nat) => [(8, i64 ((k : Int) - 1)), (7, .sl (some 0) 1 ((names.drop k).reverse.map str))]) (fun (k : Nat) => []) (fun (k : Nat) => [names.length - k]) (fun (k : Nat) => k ≤ names.length) (fun (k : Nat) => k) (names.length) ?_ ?_ ?_
        · (try simp only [go_sem]); (repeat' (first | omega | (simp only [List.length_reverse, List.length_drop]; omega) | exact .inr (i64_eq (by first | omega | (rw [wrap64_id (by omega) (by omega)]; done) | (rw [wrap64_id (by omega) (by omega)]; omega))) | exact .inr ⟨by first | rfl | (simp [srt_len]; done), by intro es h; cases h; simp [AV.leaves, AV.bel, AV.bel2, AV.bel1]⟩ | refine And.intro ?_ ?_ | exact .inl rfl | exact .inr rfl | exact .inr ⟨rfl, rfl⟩ | trivial | exact .inr (oblA rfl) | exact .inr ⟨rfl, oblA rfl⟩ | exact .inr bel_strs | exact .inr ⟨rfl, bel_strs⟩ | exact .inr ⟨by simp, bel_strs⟩ | (simp; done) | exact .inr ⟨rfl, by simp⟩ | exact .inr ⟨by simp, by simp⟩)); done
        · exact Nat.le_refl _
        rintro k h1
        simp only [go_sem])
    | (
        refine ⟨j, ?_, ?_, ?_⟩
        · (try simp only [go_sem]); (try rw [wrap64_id (by omega) (by omega)]); (try rw [rev_step hx]); (repeat' (first | omega | (simp only [List.length_reverse, List.length_drop]; omega) | exact .inr (i64_eq (by first | omega | (rw [wrap64_id (by omega) (by omega)]; done) | (rw [wrap64_id (by omega) (by omega)]; omega))) | exact .inr ⟨by first | rfl | (simp [srt_len]; done), by intro es h; cases h; simp [AV.leaves, AV.bel, AV.bel2, AV.bel1]⟩ | refine And.intro ?_ ?_ | exact .inl rfl | exact .inr rfl | exact .inr ⟨rfl, rfl⟩ | trivial | exact .inr (oblA rfl) | exact .inr ⟨rfl, oblA rfl⟩ | exact .inr bel_strs | exact .inr ⟨rfl, bel_strs⟩ | exact .inr ⟨by simp, bel_strs⟩ | (simp; done) | exact .inr ⟨rfl, by simp⟩ | exact .inr ⟨by simp, by simp⟩)); done
        · omega
        · (try simp only []); omega)
    | (
        refine AWP.ret ?_
        refine AEnd.is ?_; simp only [go_sem, out_v, out_s, out_n, v_int, v_bool, v_str] <;> (first | rfl | simp))
    | refine AWP.fin (by assumption) ?_
    | fail)


end Go.Proofs.Ytceiiajacnihjaa
