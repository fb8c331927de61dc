import Derived.Test.YtceiiajacnihjaaC10
set_option linter.unusedVariables false
set_option linter.unusedSimpArgs false
namespace Go.Proofs.Ytceiiajacnihjaa
open Go Go.Abs Go.RowKit Go.Bk
theorem id_yes {nm : List Bs} {x : Bs} (h : x ∈ nm) : ¬ idI nm x < 0 := by
  intro h2
  rw [idI_idx] at h2
  have := idxI_lt.1 h2 x h
  simp at this
theorem id_no {nm : List Bs} {x : Bs} (h : ¬ x ∈ nm) : idI nm x < 0 := by
  rw [idI_idx]
  refine idxI_lt.2 fun y hy => ?_
  simp only [decide_eq_false_iff_not]
  intro e; exact h (e ▸ hy)
theorem get_zero {nm : List Bs} {x : Bs} {n : Nat} (h : x ∈ nm) (hl : nm.length = n) : getF nm (List.replicate n 0) x = (0, true) := by
  obtain ⟨k, h1, h2⟩ := idI_nat (id_yes h)
  exact getF_yes h1 (by rw [List.getElem?_replicate, if_pos (by omega)])
theorem add_one {nm : List Bs} {x : Bs} {n : Nat} (h : x ∈ nm) (hl : nm.length = n) : ∃ cn2, addS nm (List.replicate n 0) x 1 = (0, cn2) := by
  obtain ⟨k, h1, h2⟩ := idI_nat (id_yes h)
  exact ⟨_, addS_yes h1 (x := 0) (by rw [List.getElem?_replicate, if_pos (by omega)]) (by decide)⟩
theorem srt_lt {l : List Bs} (hn : l.Nodup) {i : Nat} {z y : Bs} (hi : 0 < i) (hz : (srt l)[i - 1]? = some z) (hy : (srt l)[i]? = some y) : z < y := by
  have h1 : (srt l).Nodup := (List.mergeSort_perm l _).nodup_iff.2 hn
  have h2 := srt_sorted l
  obtain ⟨a1, a2⟩ := List.getElem?_eq_some_iff.1 hz
  obtain ⟨b1, b2⟩ := List.getElem?_eq_some_iff.1 hy
  have hle : z ≤ y := by rw [← a2, ← b2]; exact List.pairwise_iff_getElem.1 h2 _ _ a1 b1 (by omega)
  refine Decidable.byContradiction fun hc => ?_
  have : z = y := List.le_antisymm hle (List.not_lt.1 hc)
  have h3 : (srt l)[i - 1]? = (srt l)[i]? := by rw [hz, hy, this]
  have := (List.getElem?_inj a1 h1).1 h3
  omega
theorem mem_next {l : List Bs} {o y : Bs} {i : Nat} (h : l[i]? = some y) : decide (o ∈ l.take (i + 1)) = (decide (o ∈ l.take i) || decide (y = o)) := by
  have e : l.take (i + 1) = l.take i ++ [y] := by rw [List.take_add_one, h]; rfl
  rw [e, Bool.eq_iff_iff, Bool.or_eq_true, decide_eq_true_eq, decide_eq_true_eq, decide_eq_true_eq, List.mem_append, List.mem_singleton]
  exact ⟨fun h => h.imp id Eq.symm, fun h => h.imp id Eq.symm⟩
theorem mem_case (l : List Bs) (o : Bs) : (o ∈ l ∧ decide (o ∈ l) = true) ∨ (¬ o ∈ l ∧ decide (o ∈ l) = false) := by
  by_cases h : o ∈ l
  · exact .inl ⟨h, decide_eq_true h⟩
  · exact .inr ⟨h, decide_eq_false h⟩
theorem srt_rev (l : List Bs) : srt l.reverse = srt l := srt_eq ((List.mergeSort_perm l _).trans (List.reverse_perm l).symm) (srt_sorted l)

set_option maxHeartbeats 4000000 in
set_option maxRecDepth 8000 in
theorem names22_y (names : List Bs) (other : Bs) (hns : newS names = some (srt names)) : ACalls E 3 [.sl none 1 (names.map str), str other] (fun r t => r = bl true ∧ t = []) := by -- #ny
  obtain ⟨hs1, hs2, hs3, hs4, hs5⟩ := new_some hns
  have hrv := srt_rev names
  have hrs : newS names.reverse = some (srt names.reverse) := by rw [new_perm (List.reverse_perm names), hns, hrv]
  have hsl := srt_len names
  refine ACalls.of_awp (n := 147) (rs := [.tmp 4]) Try.func3 rfl Try.ntmps3 rfl ?_
  repeat' (first
    | refine AWP.seqk fun K hK => ?_
    | (
        refine AWP.here 10 35 8 rfl ?_
        obtain ⟨j, rfl⟩ : ∃ j, k = j + 1 := ⟨k - 1, by omega⟩
        obtain ⟨x, hx⟩ : ∃ x, names[j]? = some x := ⟨_, List.getElem?_eq_getElem (by omega)⟩
        have hj : (((j + 1 : Nat) : Int) - 1).toNat = j := by omega
        refine AWP.region ?_; simp only [go_sem, Go.Proofs.bytesLess_eq, hj, hx, Option.map_some, List.getElem?_map])
    | (
        refine AWP.here 24 99 22 rfl ?_
        refine AWP.regionAs [0, 1, 2, 3, 4, 5, 6, 7, 8, 9, 10, 11, 12, 13, 14, 15, 16, 17, 18, 19, 20, 21] [[], [0], [0, 1], [0, 1, 2], [0, 1, 2], [0, 1, 2, 4], [0, 1, 2, 3, 4, 5], [0, 1, 2, 3, 4, 5, 6], [0, 1, 2], [0, 1, 2], [0, 1, 2, 8, 9], [0, 1, 2, 8, 9, 10], [0, 1, 2, 3, 4, 5, 6, 7, 8, 9, 10, 11], [0, 1, 2, 3, 4, 5, 6, 7, 8, 9, 10, 11, 12], [0, 1, 2, 3, 4, 5, 6, 7, 8, 9, 10, 11, 12, 13], [0, 1, 2, 3, 4, 5, 6, 7, 8, 9, 10, 11, 12, 13, 14], [0, 1, 2, 3, 4, 5, 6, 7, 8, 9, 10, 11, 12, 13, 14, 15], [0, 1, 2, 3, 4, 5, 6, 7, 8, 9, 10, 11, 12, 13, 14, 15, 16], [0, 1, 2, 3, 4, 5, 6, 7, 8, 9, 10, 11, 12, 13, 14, 15, 16, 17], [0, 1, 2, 3, 4, 5, 6, 7, 8, 9, 10, 11, 12, 13, 14, 15, 16, 17, 18], [0, 1, 2, 3, 4, 5, 6, 7, 8, 9, 10, 11, 12, 13, 14, 15, 16, 17, 18, 19], [0, 1, 2, 3, 4, 5, 6, 7, 8, 9, 10, 11, 12, 13, 14, 15, 16, 17, 18, 19, 20]] [] (by kernel_rfl) (by kernel_rfl) (by decide) rfl ?_; simp only [go_sem, Go.Proofs.bytesLess_eq, hx, hy, hz, hgt, hpw2, hlt, Option.map_some])
    | (
        refine AWP.here 26 121 10 rfl ?_
        refine AWP.region ?_; simp only [go_sem, Go.Proofs.bytesLess_eq, hy, Option.map_some])
    | (
        refine AWP.here 5 24 7 rfl ?_
        refine AWP.regionL ?_
        refine AWPL.at 7 1 rfl ?_
        simp only [go_sem, Go.Proofs.bytesLess_eq]
        (repeat (refine ⟨⟨_, rfl⟩, ?_⟩))
        (try refine ⟨by omega, ?_⟩)
        (try simp only [go_sem, Go.Proofs.bytesLess_eq])
        refine new_call (names := names) (own := []) (by rfl) (by first | rfl | (simp [AV.bel, AV.bel2, AV.bel1]; done)) (by (repeat' (first | exact OwnBel.nil | refine OwnBel.cons ?_ ?_)) <;> (intro es h; first | (cases h; done) | (cases h; simp [AV.leaves, AV.bel, AV.bel2, AV.bel1]))) (by omega) (fun hn => absurd (hn.symm.trans hns) (by simp)) (fun hn => ?_)
        simp only [go_sem, Go.Proofs.bytesLess_eq]
        refine AWPL.of ?_
        simp only [go_sem, Go.Proofs.bytesLess_eq])
    | (
        refine AWP.here 11 43 7 rfl ?_
        have hk0 : k = 0 := by omega
        subst hk0
        rw [List.drop_zero]
        refine AWP.forget 7 rfl ?_
        simp only [go_sem, Go.Proofs.bytesLess_eq]
        refine AWP.regionL ?_
        refine AWPL.at 7 1 rfl ?_
        simp only [go_sem, Go.Proofs.bytesLess_eq]
        (repeat (refine ⟨⟨_, rfl⟩, ?_⟩))
        (try refine ⟨by omega, ?_⟩)
        (try simp only [go_sem, Go.Proofs.bytesLess_eq])
        refine new_call (names := names.reverse) (own := [none, some (List.replicate names.length (i64 0)), some [bdV (srt names) 1 0 0]]) (by rfl) (by first | rfl | (simp [AV.bel, AV.bel2, AV.bel1]; done)) (by (repeat' (first | exact OwnBel.nil | refine OwnBel.cons ?_ ?_)) <;> (intro es h; first | (cases h; done) | (cases h; simp [AV.leaves, AV.bel, AV.bel2, AV.bel1]))) (by rw [List.length_reverse]; omega) (fun hn => absurd (hn.symm.trans hrs) (by simp)) (fun hn => ?_)
        simp only [hrv, List.length_reverse]
        simp only [go_sem, Go.Proofs.bytesLess_eq]
        refine AWPL.of ?_
        simp only [go_sem, Go.Proofs.bytesLess_eq])
    | (
        refine AWP.here 16 70 3 rfl ?_
        refine AWP.regionL ?_
        refine AWPL.at 3 1 rfl ?_
        simp only [go_sem, Go.Proofs.bytesLess_eq]
        (repeat (refine ⟨⟨_, rfl⟩, ?_⟩))
        (try refine ⟨by omega, ?_⟩)
        (try simp only [go_sem, Go.Proofs.bytesLess_eq])
        refine names_call (id := 2) (c := 1) (nm := srt names) (cn := (List.replicate names.length (0 : Int))) (m := 0) (d := 0) (by rfl) (by rfl) (by rw [List.map_replicate]; rfl) (by rw [srt_len, List.length_replicate]) (by rw [srt_len]; omega) ?_
        simp only [go_sem, Go.Proofs.bytesLess_eq]
        refine AWPL.of ?_
        simp only [go_sem, Go.Proofs.bytesLess_eq])
    | (
        refine AWP.here 17 72 12 rfl ?_
        refine AWP.regionL ?_
        refine AWPL.at 12 8 rfl ?_
        simp only [go_sem, hsl]
        (repeat (refine ⟨⟨_, rfl⟩, ?_⟩))
        (try refine ⟨by omega, ?_⟩)
        (try simp only [go_sem, hsl])
        refine AWPL.guardT (by rfl) ?_
        refine names_call (id := 5) (c := 4) (nm := srt names) (cn := (List.replicate names.length (0 : Int))) (m := 0) (d := 0) (by rfl) (by rfl) (by rw [List.map_replicate]; rfl) (by rw [srt_len, List.length_replicate]) (by rw [srt_len]; omega) ?_
        simp only [go_sem, hsl]
        refine AWPL.of ?_
        simp only [go_sem, hsl])
    | (
        refine AWP.here 23 91 11 rfl ?_
        obtain ⟨x, hx⟩ : ∃ x, names[i]? = some x := ⟨_, List.getElem?_eq_getElem (by omega)⟩
        obtain ⟨y, hy⟩ : ∃ y, (srt names)[i]? = some y := ⟨_, List.getElem?_eq_getElem (by rw [hsl]; omega)⟩
        have hgz := get_zero (n := names.length) (mem_srt.2 (List.mem_of_getElem? hx)) (by rw [hsl])
        rcases Nat.eq_zero_or_pos i with hi0 | hi0
        have hgt : (0 < (i : Int)) = False := by rw [eq_iff_iff, iff_false]; omega
        have hz := hy
        have hpw2 := hgt
        have hlt := hgt
        refine AWP.regionL ?_
        refine AWPL.at 11 5 rfl ?_
        simp only [go_sem, hx, Option.map_some]
        (repeat (refine ⟨⟨_, rfl⟩, ?_⟩))
        (try refine ⟨by omega, ?_⟩)
        (try simp only [go_sem, hx, Option.map_some])
        refine get_call (id := 2) (c := 1) (nm := srt names) (cn := (List.replicate names.length (0 : Int))) (m := 0) (d := 0) (s := x) (by rfl) (by rfl) (by rfl) (by rw [List.map_replicate]; rfl) (by rw [srt_len, List.length_replicate]) (by rw [srt_len]; omega) ?_
        rw [hgz]
        simp only [go_sem, hx, Option.map_some]
        refine AWPL.of ?_
        simp only [go_sem, hx, Option.map_some]
        rotate_left
        have hgt : (0 < (i : Int)) = True := by rw [eq_iff_iff, iff_true]; omega
        obtain ⟨z, hz⟩ : ∃ z, (srt names)[i - 1]? = some z := ⟨_, List.getElem?_eq_getElem (by rw [hsl]; omega)⟩
        have hpw2 := prevW hi0 (by omega)
        have hlt : (z < y) = True := by rw [eq_iff_iff, iff_true]; exact srt_lt hs5 hi0 hz hy
        refine AWP.regionL ?_
        refine AWPL.at 11 5 rfl ?_
        simp only [go_sem, hx, Option.map_some]
        (repeat (refine ⟨⟨_, rfl⟩, ?_⟩))
        (try refine ⟨by omega, ?_⟩)
        (try simp only [go_sem, hx, Option.map_some])
        refine get_call (id := 2) (c := 1) (nm := srt names) (cn := (List.replicate names.length (0 : Int))) (m := 0) (d := 0) (s := x) (by rfl) (by rfl) (by rfl) (by rw [List.map_replicate]; rfl) (by rw [srt_len, List.length_replicate]) (by rw [srt_len]; omega) ?_
        rw [hgz]
        simp only [go_sem, hx, Option.map_some]
        refine AWPL.of ?_
        simp only [go_sem, hx, Option.map_some])
    | (
        refine AWP.here 27 131 8 rfl ?_
        have hi : i = names.length := by omega
        subst hi
        rw [← hsl, List.take_length]
        simp only [hsl]
        rcases mem_case (srt names) other with ⟨hm, hm2⟩ | ⟨hm, hm2⟩
        have hgz := get_zero (n := names.length) hm (by rw [hsl])
        obtain ⟨cn2, hadd⟩ := add_one (n := names.length) hm (by rw [hsl])
        refine AWP.regionL ?_
        refine AWPL.at 8 2 rfl ?_
        simp only [go_sem, Go.Proofs.bytesLess_eq]
        (repeat (refine ⟨⟨_, rfl⟩, ?_⟩))
        (try refine ⟨by omega, ?_⟩)
        (try simp only [go_sem, Go.Proofs.bytesLess_eq])
        refine get_call (id := 2) (c := 1) (nm := srt names) (cn := (List.replicate names.length (0 : Int))) (m := 0) (d := 0) (s := other) (by rfl) (by rfl) (by rfl) (by rw [List.map_replicate]; rfl) (by rw [srt_len, List.length_replicate]) (by rw [srt_len]; omega) ?_
        rw [hgz]
        simp only [go_sem, Go.Proofs.bytesLess_eq]
        refine AWPL.of ?_
        simp only [go_sem, Go.Proofs.bytesLess_eq]
        rotate_left
        have hadd := addS_no (cn := (List.replicate names.length (0 : Int))) (n := 1) (id_no hm)
        refine AWP.regionL ?_
        refine AWPL.at 8 2 rfl ?_
        simp only [go_sem, Go.Proofs.bytesLess_eq]
        (repeat (refine ⟨⟨_, rfl⟩, ?_⟩))
        (try refine ⟨by omega, ?_⟩)
        (try simp only [go_sem, Go.Proofs.bytesLess_eq])
        refine get_call (id := 2) (c := 1) (nm := srt names) (cn := (List.replicate names.length (0 : Int))) (m := 0) (d := 0) (s := other) (by rfl) (by rfl) (by rfl) (by rw [List.map_replicate]; rfl) (by rw [srt_len, List.length_replicate]) (by rw [srt_len]; omega) ?_
        rw [getF_no (id_no hm)]
        simp only [go_sem, Go.Proofs.bytesLess_eq]
        refine AWPL.of ?_
        simp only [go_sem, Go.Proofs.bytesLess_eq])
    | (
        refine AWP.here 28 136 12 rfl ?_
        refine AWP.regionL ?_
        refine AWPL.at 12 6 rfl ?_
        simp only [go_sem, hm2]
        (repeat (refine ⟨⟨_, rfl⟩, ?_⟩))
        (try refine ⟨by omega, ?_⟩)
        (try simp only [go_sem, hm2])
        refine AWPL.guardT (by rfl) ?_
        refine add_call (id := 2) (c := 1) (nm := srt names) (cn := (List.replicate names.length (0 : Int))) (d := 0) (s := other) (n := 1) (by rfl) (by rfl) (by rfl) (by rfl) (by rw [List.map_replicate]; rfl) (by rw [srt_len, List.length_replicate]) (by rw [srt_len]; omega) (by decide) ?_
        rw [hadd]
        simp only [go_sem, hm2]
        refine AWPL.of ?_
        simp only [go_sem, hm2])
    | (refine AWP.region ?_; simp only [go_sem, Go.Proofs.bytesLess_eq])
    | (refine AWP.here 24 99 22 rfl ?_; refine AWP.regionAs [0, 1, 2, 3, 4, 5, 6, 7, 8, 9, 10, 11, 12, 13, 14, 15, 16, 17, 18, 19, 20, 21] [[], [0], [0, 1], [0, 1, 2], [0, 1, 2], [0, 1, 2, 4], [0, 1, 2, 3, 4, 5], [0, 1, 2, 3, 4, 5, 6], [0, 1, 2], [0, 1, 2], [0, 1, 2, 8, 9], [0, 1, 2, 8, 9, 10], [0, 1, 2, 3, 4, 5, 6, 7, 8, 9, 10, 11], [0, 1, 2, 3, 4, 5, 6, 7, 8, 9, 10, 11, 12], [0, 1, 2, 3, 4, 5, 6, 7, 8, 9, 10, 11, 12, 13], [0, 1, 2, 3, 4, 5, 6, 7, 8, 9, 10, 11, 12, 13, 14], [0, 1, 2, 3, 4, 5, 6, 7, 8, 9, 10, 11, 12, 13, 14, 15], [0, 1, 2, 3, 4, 5, 6, 7, 8, 9, 10, 11, 12, 13, 14, 15, 16], [0, 1, 2, 3, 4, 5, 6, 7, 8, 9, 10, 11, 12, 13, 14, 15, 16, 17], [0, 1, 2, 3, 4, 5, 6, 7, 8, 9, 10, 11, 12, 13, 14, 15, 16, 17, 18], [0, 1, 2, 3, 4, 5, 6, 7, 8, 9, 10, 11, 12, 13, 14, 15, 16, 17, 18, 19], [0, 1, 2, 3, 4, 5, 6, 7, 8, 9, 10, 11, 12, 13, 14, 15, 16, 17, 18, 19, 20]] [] (by kernel_rfl) (by kernel_rfl) (by decide) rfl ?_; simp only [go_sem, Go.Proofs.bytesLess_eq])
    | (refine hK _ ?_; clear hK K)
    | refine AWP.block ?_
    | refine AWP.cond rfl (fun c => ?_) (fun c => ?_) <;> first | exact Bool.noConfusion c | (try simp only [dD] at c)
    | refine AWP.skip ?_
    | (refine AWP.exit ?_; simp only [go_sem, Go.Proofs.bytesLess_eq])
    | (refine ACall.one (awake22_c) (by kernel_rfl) rfl ?_; simp only [go_sem, Go.Proofs.bytesLess_eq])
    | (refine ACall.one (new_call ) (by kernel_rfl) rfl ?_; simp only [go_sem, Go.Proofs.bytesLess_eq])
    | (refine ACall.one (names_call ) (by kernel_rfl) rfl ?_; simp only [go_sem, Go.Proofs.bytesLess_eq])
    | (refine ACall.one (texts_c _ _ (by first | assumption | omega | (simp only [List.length_take]; omega))) (by kernel_rfl) rfl ?_; simp only [go_sem, Go.Proofs.bytesLess_eq])
    | (refine ACall.one (get_call ) (by kernel_rfl) rfl ?_; simp only [go_sem, Go.Proofs.bytesLess_eq])
    | (refine ACall.one (add_call ) (by kernel_rfl) rfl ?_; simp only [go_sem, Go.Proofs.bytesLess_eq])
    | (refine AGuard.splitN (fun h => ?_) (fun h => ?_) <;> simp only [h, go_sem, Go.Proofs.bytesLess_eq] <;> (try simp only [dD] at h))
    | (refine AGuard.split (fun h => ?_) (fun h => ?_) <;> simp only [h, go_sem, Go.Proofs.bytesLess_eq] <;> (try simp only [dD] at h))
    | (refine AGet.haveM (by assumption) ?_; (try simp only [go_sem, Go.Proofs.bytesLess_eq]))
    | (refine AGet.have' (by assumption) ?_; (try simp only [go_sem, Go.Proofs.bytesLess_eq]))
    | ((first | refine AGet.nth ?_ (fun b hb => ?_) | refine AGet.nth1 ?_ (fun b hb => ?_) | with_reducible refine And.intro ?_ ?_); (focus (first | omega | assumption | exact List.length_pos_iff.2 (by assumption) | (simp only [List.length_append, List.length_cons, List.length_nil, List.length_map, List.length_take, List.length_drop] at *; omega) | (rw [wrap64_id (by omega) (by omega)]; omega) | (simp; done) | (simp [spare_len]; done) | (exact ⟨by omega, by omega⟩) | (simp; omega) | (rw [hsl]; omega))); (try simp only [hb, go_sem, Go.Proofs.bytesLess_eq]))
    | (
        refine AWP.here 8 31 2 rfl ?_
        refine AWP.nilTok 7 1 rfl ?_
        simp only [go_sem, Go.Proofs.bytesLess_eq]
        refine AWP.loopM (ι := Nat) [31, 32, 33, 34, 35, 36, 37, 38, 39, 40, 41] (fun (k : Nat) => [(8, i64 ((k : Int) - 1)), (7, .sl (some 0) 1 ((names.drop k).reverse.map str))]) (fun (k : Nat) => [none, some (List.replicate names.length (i64 0)), some [bdV (srt names) 1 0 0]]) (fun (k : Nat) => [names.length - k]) (fun (k : Nat) => k ≤ names.length) (fun (k : Nat) => k) (names.length) ?_ ?_ ?_
        · (try simp only [go_sem]); (repeat' (first | omega | (simp only [List.length_reverse, List.length_drop]; omega) | exact .inr (i64_eq (by first | omega | (rw [wrap64_id (by omega) (by omega)]; done) | (rw [wrap64_id (by omega) (by omega)]; omega))) | exact .inr ⟨by first | rfl | (simp [srt_len]; done), by intro es h; cases h; simp [AV.leaves, AV.bel, AV.bel2, AV.bel1]⟩ | refine And.intro ?_ ?_ | exact .inl rfl | exact .inr rfl | exact .inr ⟨rfl, rfl⟩ | trivial | exact .inr (oblA rfl) | exact .inr ⟨rfl, oblA rfl⟩ | exact .inr bel_strs | exact .inr ⟨rfl, bel_strs⟩ | exact .inr ⟨by simp, bel_strs⟩ | (simp; done) | exact .inr ⟨rfl, by simp⟩ | exact .inr ⟨by simp, by simp⟩)); done
        · exact Nat.le_refl _
        rintro k h1
        simp only [go_sem, Go.Proofs.bytesLess_eq])
    | (
        refine AWP.here 21 84 4 rfl ?_
        refine AWP.loopM (ι := Nat) [4, 14, 15, 84, 85, 86, 87, 88, 89, 90, 91, 92, 93, 94, 95, 96, 97, 98, 99, 100, 101, 102, 103, 104, 105, 106, 107, 108, 109, 110, 111, 112, 113, 114, 115, 116, 117, 118, 119, 120, 121, 122, 123, 124, 125, 126, 127, 128, 129] (fun (i : Nat) => [(13, i64 i), (12, bl (decide (other ∈ (srt names).take i)))]) (fun (i : Nat) => [none, some (List.replicate names.length (i64 0)), some [bdV (srt names) 1 0 0], none, some (List.replicate names.length (i64 0)), some [bdV (srt names) 4 0 0]]) (fun (i : Nat) => []) (fun (i : Nat) => i ≤ names.length) (fun (i : Nat) => names.length - i) (0) ?_ ?_ ?_
        · (try simp only [go_sem]); (repeat' (first | omega | (simp only [List.length_reverse, List.length_drop]; omega) | exact .inr (i64_eq (by first | omega | (rw [wrap64_id (by omega) (by omega)]; done) | (rw [wrap64_id (by omega) (by omega)]; omega))) | exact .inr ⟨by first | rfl | (simp [srt_len]; done), by intro es h; cases h; simp [AV.leaves, AV.bel, AV.bel2, AV.bel1]⟩ | refine And.intro ?_ ?_ | exact .inl rfl | exact .inr rfl | exact .inr ⟨rfl, rfl⟩ | trivial | exact .inr (oblA rfl) | exact .inr ⟨rfl, oblA rfl⟩ | exact .inr bel_strs | exact .inr ⟨rfl, bel_strs⟩ | exact .inr ⟨by simp, bel_strs⟩ | (simp; done) | exact .inr ⟨rfl, by simp⟩ | exact .inr ⟨by simp, by simp⟩)); done
        · omega
        rintro i h1
        simp only [go_sem, Go.Proofs.bytesLess_eq])
    | (
        refine ⟨j, ?_, ?_, ?_⟩
        · (try simp only [go_sem]); (try rw [wrap64_id (by omega) (by omega)]); (try rw [rev_step hx]); (repeat' (first | omega | (simp only [List.length_reverse, List.length_drop]; omega) | exact .inr (i64_eq (by first | omega | (rw [wrap64_id (by omega) (by omega)]; done) | (rw [wrap64_id (by omega) (by omega)]; omega))) | exact .inr ⟨by first | rfl | (simp [srt_len]; done), by intro es h; cases h; simp [AV.leaves, AV.bel, AV.bel2, AV.bel1]⟩ | refine And.intro ?_ ?_ | exact .inl rfl | exact .inr rfl | exact .inr ⟨rfl, rfl⟩ | trivial | exact .inr (oblA rfl) | exact .inr ⟨rfl, oblA rfl⟩ | exact .inr bel_strs | exact .inr ⟨rfl, bel_strs⟩ | exact .inr ⟨by simp, bel_strs⟩ | (simp; done) | exact .inr ⟨rfl, by simp⟩ | exact .inr ⟨by simp, by simp⟩)); done
        · omega
        · (try simp only []); omega)
    | (
        refine ⟨i + 1, ?_, ?_, ?_⟩
        · (try simp only [go_sem]); (try rw [wrap64_id (by omega) (by omega)]); (try rw [mem_next hy]); (try simp only [h, decide_true, decide_false, Bool.true_or, Bool.false_or]); (repeat' (first | omega | (simp only [List.length_reverse, List.length_drop]; omega) | exact .inr (i64_eq (by first | omega | (rw [wrap64_id (by omega) (by omega)]; done) | (rw [wrap64_id (by omega) (by omega)]; omega))) | exact .inr ⟨by first | rfl | (simp [srt_len]; done), by intro es h; cases h; simp [AV.leaves, AV.bel, AV.bel2, AV.bel1]⟩ | refine And.intro ?_ ?_ | exact .inl rfl | exact .inr rfl | exact .inr ⟨rfl, rfl⟩ | trivial | exact .inr (oblA rfl) | exact .inr ⟨rfl, oblA rfl⟩ | exact .inr bel_strs | exact .inr ⟨rfl, bel_strs⟩ | exact .inr ⟨by simp, bel_strs⟩ | (simp; done) | exact .inr ⟨rfl, by simp⟩ | exact .inr ⟨by simp, by simp⟩)); done
        · omega
        · (try simp only []); omega)
    | (
        refine AWP.ret ?_
        refine AEnd.is ?_; simp only [go_sem, out_v, out_s, out_n, v_int, v_bool, v_str] <;> (first | rfl | (simp; done) | skip))
    | refine AWP.fin (by assumption) ?_
    | fail)

theorem names22_c (names : List Bs) (other : Bs) : ACalls E 3 [.sl none 1 (names.map str), str other] (fun r t => r = bl true ∧ t = []) := by
  cases h : newS names with
  | none => exact names22_n names other h
  | some s => exact names22_y names other (by rw [h, (new_some h).1])


end Go.Proofs.Ytceiiajacnihjaa
