import Derived.Test.YtceiiajacnihjaaC11
set_option linter.unusedVariables false
set_option linter.unusedSimpArgs false
namespace Go.Proofs.Ytceiiajacnihjaa
open Go Go.Abs Go.RowKit Go.Bk
theorem srt_xy : srt [[120], [121]] = [[120], [121]] := srt_eq (l := [[120], [121]]) (List.Perm.refl _) (by decide)
theorem srt_yx : srt [[121], [120]] = [[120], [121]] := srt_eq (l := [[121], [120]]) (List.Perm.swap ..) (by decide)
theorem new_xy : newS [[120], [121]] = some (srt [[120], [121]]) := by unfold newS; rw [if_pos (by decide)]
theorem new_yx : newS [[121], [120]] = some (srt [[121], [120]]) := by unfold newS; rw [if_pos (by decide)]
theorem id_x : idI [[120], [121]] [120] = ((0 : Nat) : Int) := by decide
theorem id_y : idI [[120], [121]] [121] = ((1 : Nat) : Int) := by decide
theorem get_x {a : Int} : getF [[120], [121]] [a, 0] [120] = (a, true) := getF_yes id_x rfl
theorem get_y {a : Int} : getF [[120], [121]] [a, 0] [121] = (0, true) := getF_yes id_y rfl
theorem addx (a x : Int) (ha : numB a = true) : (∃ a2, addS [[120], [121]] [a, 0] [120] x = (0, [a2, 0]) ∧ (numB a2 = true ∧ a2 = a + x ∧ numB x = true)) ∨ (∃ a2, addS [[120], [121]] [a, 0] [120] x = (9, [a2, 0]) ∧ numB a2 = true) := by
  cases h : (addF a x).2 with
  | true =>
    left
    have h2 : numB a = true ∧ numB x = true ∧ numB (a + x) = true := by
      unfold addF at h
      split at h
      · rename_i hc; simp only [Bool.and_eq_true] at hc; exact ⟨hc.1.1, hc.1.2, hc.2⟩
      · simp at h
    refine ⟨a + x, ?_, h2.2.2, rfl, h2.2.1⟩
    rw [addS_yes id_x rfl h]
    simp [addF, h2]
  | false => exact .inr ⟨a, addS_over id_x rfl h, ha⟩
theorem inv_ok {L : List Int} {i : Nat} {a b a2 b2 x y : Int} {ov : Bool} (hi : i < L.length) (hx : L[i]? = some x) (hy : L[L.length - 1 - i]? = some y) (ha2 : numB a2 = true ∧ a2 = a + x ∧ numB x = true) (hb2 : numB b2 = true ∧ b2 = b + y ∧ numB y = true)
    (hov : ov = false → (a = sumL (L.take i) ∧ (L.take i).all numB = true) ∧ b = sumL (L.drop (L.length - i))) :
    i + 1 ≤ L.length ∧ numB a2 = true ∧ numB b2 = true ∧ (ov = false → (a2 = sumL (L.take (i + 1)) ∧ (L.take (i + 1)).all numB = true) ∧ b2 = sumL (L.drop (L.length - (i + 1)))) := by
  refine ⟨hi, ha2.1, hb2.1, fun h => ?_⟩
  obtain ⟨⟨e1, e2⟩, e3⟩ := hov h
  have et : L.take (i + 1) = L.take i ++ [x] := by rw [List.take_add_one, hx]; rfl
  have ed : L.drop (L.length - (i + 1)) = y :: L.drop (L.length - i) := by
    rw [show L.length - (i + 1) = L.length - 1 - i by omega, drop_cons hy, show L.length - 1 - i + 1 = L.length - i by omega]
  rw [et, ed, sumL_app, List.all_append, e2]
  refine ⟨⟨?_, ?_⟩, ?_⟩
  · rw [ha2.2.1, e1]; simp [sumL]
  · simp [ha2.2.2]
  · rw [hb2.2.1, e3]; simp [sumL]; omega
theorem inv_ov {L : List Int} {i : Nat} {a2 b2 : Int} {P : Prop} (hi : i < L.length) (ha2 : numB a2 = true) (hb2 : numB b2 = true) : i + 1 ≤ L.length ∧ numB a2 = true ∧ numB b2 = true ∧ (true = false → P) := ⟨hi, ha2, hb2, fun h => by simp at h⟩
theorem inv_fin {L : List Int} {a b : Int} {ov : Bool} (ha : numB a = true) (hov : ov = false → (a = sumL (L.take L.length) ∧ (L.take L.length).all numB = true) ∧ b = sumL (L.drop (L.length - L.length))) : ov = false → sumF L = (sumL L, true) ∧ a = sumL L ∧ b = sumL L := fun h => by
  obtain ⟨⟨e1, e2⟩, e3⟩ := hov h
  rw [List.take_length] at e1 e2
  rw [Nat.sub_self, List.drop_zero] at e3
  refine ⟨?_, e1, e3⟩
  unfold sumF; rw [e2, ← e1, ha]; rfl

set_option maxHeartbeats 4000000 in
set_option maxRecDepth 8000 in
theorem adds22_c (l : List Int) : ACalls E 5 [.sl none 1 (l.map i64)] (fun r t => r = bl true ∧ t = []) := by -- checkroll/checkrolllaw22.CountAdds
  refine ACalls.of_awp (n := 128) (rs := [.tmp 2]) Try.func5 rfl Try.ntmps5 rfl ?_
  repeat' (first
    | refine AWP.seqk fun K hK => ?_
    | (
        refine AWP.here 17 93 16 rfl ?_
        have hi : i = L.length := by omega
        subst hi
        have hfin := inv_fin ha hov
        refine AWP.region ?_; simp only [go_sem])
    | (
        refine AWP.here 4 25 7 rfl ?_
        obtain ⟨L, hL, hLn⟩ : ∃ L, List.take (min ((l.length : Nat) : Int) 100).toNat l = L ∧ L.length ≤ 100 := ⟨_, rfl, by rw [List.length_take]; omega⟩
        rw [hL]
        refine AWP.regionL ?_
        refine AWPL.at 7 1 rfl ?_
        simp only [go_sem]
        (repeat (refine ⟨⟨_, rfl⟩, ?_⟩))
        (try refine ⟨by omega, ?_⟩)
        (try simp only [go_sem])
        refine AWPL.forget 25 rfl ?_
        simp only [go_sem]
        refine new_call (names := [[120], [121]]) (own := []) (by rfl) (by first | rfl | (simp [AV.bel, AV.bel2, AV.bel1]; done)) (by (repeat' (first | exact OwnBel.nil | refine OwnBel.cons ?_ ?_)) <;> (intro es h; first | (cases h; done) | (cases h; simp [AV.leaves, AV.bel, AV.bel2, AV.bel1]))) (by simp) (fun hn => absurd (hn.symm.trans new_xy) (by simp)) (fun hn => ?_)
        simp only [srt_xy]
        simp only [go_sem]
        refine AWPL.of ?_
        simp only [go_sem])
    | (
        refine AWP.here 5 30 7 rfl ?_
        refine AWP.regionL ?_
        refine AWPL.at 7 1 rfl ?_
        simp only [go_sem]
        (repeat (refine ⟨⟨_, rfl⟩, ?_⟩))
        (try refine ⟨by omega, ?_⟩)
        (try simp only [go_sem])
        refine AWPL.forget 30 rfl ?_
        simp only [go_sem]
        refine new_call (names := [[121], [120]]) (own := [some [.agg [.sl none 1 (List.map str [[120], [121]])]], some (List.replicate 2 (i64 0)), some [bdV [[120], [121]] 1 0 0]]) (by rfl) (by first | rfl | (simp [AV.bel, AV.bel2, AV.bel1]; done)) (by (repeat' (first | exact OwnBel.nil | refine OwnBel.cons ?_ ?_)) <;> (intro es h; first | (cases h; done) | (cases h; simp [AV.leaves, AV.bel, AV.bel2, AV.bel1]))) (by simp) (fun hn => absurd (hn.symm.trans new_yx) (by simp)) (fun hn => ?_)
        simp only [srt_yx]
        simp only [go_sem]
        refine AWPL.of ?_
        simp only [go_sem])
    | (
        refine AWP.here 12 54 11 rfl ?_
        obtain ⟨x, hx⟩ : ∃ x, L[i]? = some x := ⟨_, List.getElem?_eq_getElem (by omega)⟩
        obtain ⟨y, hy⟩ : ∃ y, L[L.length - 1 - i]? = some y := ⟨_, List.getElem?_eq_getElem (by omega)⟩
        have hyw : IntKind.i64.wrap (IntKind.i64.wrap ((L.length : Int) - 1) - (i : Int)) = ((L.length - 1 - i : Nat) : Int) := by
          have e1 : IntKind.i64.wrap ((L.length : Int) - 1) = (L.length : Int) - 1 := wrap64_id (by omega) (by omega)
          rw [e1, wrap64_id (by omega) (by omega)]; omega
        rcases addx a x ha with ⟨a2, hadd, ha2⟩ | ⟨a2, hadd, ha2⟩
        refine AWP.regionL ?_
        refine AWPL.at 11 5 rfl ?_
        simp only [go_sem, hx, Option.map_some]
        (repeat (refine ⟨⟨_, rfl⟩, ?_⟩))
        (try refine ⟨by omega, ?_⟩)
        (try simp only [go_sem, hx, Option.map_some])
        refine add_call (id := 2) (c := 1) (nm := [[120], [121]]) (cn := [a, 0]) (d := 0) (s := [120]) (n := x) (by rfl) (by rfl) (by rfl) (by rfl) (by rfl) (by rfl) (by decide) (by decide) ?_
        rw [hadd]
        simp only [go_sem, hx, Option.map_some]
        refine AWPL.of ?_
        simp only [go_sem, hx, Option.map_some]
        rotate_left
        refine AWP.regionL ?_
        refine AWPL.at 11 5 rfl ?_
        simp only [go_sem, hx, Option.map_some]
        (repeat (refine ⟨⟨_, rfl⟩, ?_⟩))
        (try refine ⟨by omega, ?_⟩)
        (try simp only [go_sem, hx, Option.map_some])
        refine add_call (id := 2) (c := 1) (nm := [[120], [121]]) (cn := [a, 0]) (d := 0) (s := [120]) (n := x) (by rfl) (by rfl) (by rfl) (by rfl) (by rfl) (by rfl) (by decide) (by decide) ?_
        rw [hadd]
        simp only [go_sem, hx, Option.map_some]
        refine AWPL.of ?_
        simp only [go_sem, hx, Option.map_some])
    | (
        refine AWP.here 13 64 15 rfl ?_
        rcases addx b y hb with ⟨b2, hadd2, hb2⟩ | ⟨b2, hadd2, hb2⟩
        refine AWP.regionL ?_
        refine AWPL.at 15 9 rfl ?_
        simp only [go_sem, hy, hyw, Option.map_some, Int.toNat_natCast, nn_cast, true_and]
        (repeat (refine ⟨⟨_, rfl⟩, ?_⟩))
        (try refine ⟨by omega, ?_⟩)
        (try simp only [go_sem, hy, hyw, Option.map_some, Int.toNat_natCast, nn_cast, true_and])
        refine add_call (id := 5) (c := 4) (nm := [[120], [121]]) (cn := [b, 0]) (d := 0) (s := [120]) (n := y) (by rfl) (by rfl) (by rfl) (by rfl) (by rfl) (by rfl) (by decide) (by decide) ?_
        rw [hadd2]
        simp only [go_sem, hy, hyw, Option.map_some, Int.toNat_natCast, nn_cast, true_and]
        refine AWPL.of ?_
        simp only [go_sem, hy, hyw, Option.map_some, Int.toNat_natCast, nn_cast, true_and]
        rotate_left
        refine AWP.regionL ?_
        refine AWPL.at 15 9 rfl ?_
        simp only [go_sem, hy, hyw, Option.map_some, Int.toNat_natCast, nn_cast, true_and]
        (repeat (refine ⟨⟨_, rfl⟩, ?_⟩))
        (try refine ⟨by omega, ?_⟩)
        (try simp only [go_sem, hy, hyw, Option.map_some, Int.toNat_natCast, nn_cast, true_and])
        refine add_call (id := 5) (c := 4) (nm := [[120], [121]]) (cn := [b, 0]) (d := 0) (s := [120]) (n := y) (by rfl) (by rfl) (by rfl) (by rfl) (by rfl) (by rfl) (by decide) (by decide) ?_
        rw [hadd2]
        simp only [go_sem, hy, hyw, Option.map_some, Int.toNat_natCast, nn_cast, true_and]
        refine AWPL.of ?_
        simp only [go_sem, hy, hyw, Option.map_some, Int.toNat_natCast, nn_cast, true_and])
    | (
        refine AWP.here 14 79 7 rfl ?_
        refine AWP.regionL ?_
        refine AWPL.at 7 1 rfl ?_
        simp only [go_sem]
        (repeat (refine ⟨⟨_, rfl⟩, ?_⟩))
        (try refine ⟨by omega, ?_⟩)
        (try simp only [go_sem])
        refine get_call (id := 2) (c := 1) (nm := [[120], [121]]) (cn := [a, 0]) (m := 0) (d := 0) (s := [120]) (by rfl) (by rfl) (by rfl) (by rfl) (by rfl) (by decide) ?_
        rw [get_x]
        simp only [go_sem]
        refine AWPL.of ?_
        simp only [go_sem])
    | (
        refine AWP.here 15 84 7 rfl ?_
        refine AWP.regionL ?_
        refine AWPL.at 7 1 rfl ?_
        simp only [go_sem]
        (repeat (refine ⟨⟨_, rfl⟩, ?_⟩))
        (try refine ⟨by omega, ?_⟩)
        (try simp only [go_sem])
        refine get_call (id := 5) (c := 4) (nm := [[120], [121]]) (cn := [b, 0]) (m := 0) (d := 0) (s := [120]) (by rfl) (by rfl) (by rfl) (by rfl) (by rfl) (by decide) ?_
        rw [get_x]
        simp only [go_sem]
        refine AWPL.of ?_
        simp only [go_sem])
    | (
        refine AWP.here 16 89 7 rfl ?_
        refine AWP.regionL ?_
        refine AWPL.at 7 1 rfl ?_
        simp only [go_sem]
        (repeat (refine ⟨⟨_, rfl⟩, ?_⟩))
        (try refine ⟨by omega, ?_⟩)
        (try simp only [go_sem])
        refine get_call (id := 2) (c := 1) (nm := [[120], [121]]) (cn := [a, 0]) (m := 0) (d := 0) (s := [121]) (by rfl) (by rfl) (by rfl) (by rfl) (by rfl) (by decide) ?_
        rw [get_y]
        simp only [go_sem]
        refine AWPL.of ?_
        simp only [go_sem])
    | (refine AWP.region ?_; simp only [go_sem])
    | (refine hK _ ?_; clear hK K)
    | refine AWP.block ?_
    | refine AWP.cond rfl (fun c => ?_) (fun c => ?_) <;> first | exact Bool.noConfusion c | (try simp only [dD] at c)
    | refine AWP.skip ?_
    | (refine AWP.exit ?_; simp only [go_sem])
    | (refine ACall.one (awake22_c) (by kernel_rfl) rfl ?_; simp only [go_sem])
    | (refine ACall.one (new_call ) (by kernel_rfl) rfl ?_; simp only [go_sem])
    | (refine ACall.one (add_call ) (by kernel_rfl) rfl ?_; simp only [go_sem])
    | (refine ACall.one (get_call ) (by kernel_rfl) rfl ?_; simp only [go_sem])
    | (refine ACall.one (numr_c _) (by kernel_rfl) rfl ?_; simp only [go_sem])
    | (refine ACall.one (nsum_c L (by omega)) (by kernel_rfl) rfl ?_; simp only [go_sem])
    | (refine AGuard.splitN (fun h => ?_) (fun h => ?_) <;> simp only [h, go_sem] <;> (try simp only [dD] at h))
    | (refine AGuard.split (fun h => ?_) (fun h => ?_) <;> simp only [h, go_sem] <;> (try simp only [dD] at h))
    | (refine AGet.haveM (by assumption) ?_; (try simp only [go_sem]))
    | (refine AGet.have' (by assumption) ?_; (try simp only [go_sem]))
    | ((first | refine AGet.nth ?_ (fun b hb => ?_) | refine AGet.nth1 ?_ (fun b hb => ?_) | with_reducible refine And.intro ?_ ?_); (focus (first | omega | assumption | exact List.length_pos_iff.2 (by assumption) | (simp only [List.length_append, List.length_cons, List.length_nil, List.length_map, List.length_take, List.length_drop] at *; omega) | (rw [wrap64_id (by omega) (by omega)]; omega) | (simp; done) | (simp [spare_len]; done) | (exact ⟨by omega, by omega⟩))); (try simp only [hb, go_sem]))
    | (
        refine AWP.here 10 48 4 rfl ?_
        refine AWP.loopM (ι := Nat × Int × Int × Bool) [48, 49, 50, 51, 52, 53, 54, 55, 56, 57, 58, 59, 60, 61, 62, 63, 64, 65, 66, 67, 68, 69, 70, 71, 72, 73, 74, 75, 76, 77] (fun ⟨i, a, b, ov⟩ => [(8, i64 i), (7, bl ov)]) (fun ⟨i, a, b, ov⟩ => [none, some (List.map i64 [a, 0]), some [bdV [[120], [121]] 1 0 0], none, some (List.map i64 [b, 0]), some [bdV [[120], [121]] 4 0 0]]) (fun ⟨i, a, b, ov⟩ => []) (fun ⟨i, a, b, ov⟩ => i ≤ L.length ∧ numB a = true ∧ numB b = true ∧ (ov = false → (a = sumL (L.take i) ∧ (L.take i).all numB = true) ∧ b = sumL (L.drop (L.length - i)))) (fun ⟨i, a, b, ov⟩ => L.length - i) ((0, 0, 0, false)) ?_ ?_ ?_
        · (try simp only [go_sem]); (repeat' (first | omega | (simp only [List.length_reverse, List.length_drop]; omega) | exact .inr (i64_eq (by first | omega | (rw [wrap64_id (by omega) (by omega)]; done) | (rw [wrap64_id (by omega) (by omega)]; omega))) | exact .inr ⟨by first | rfl | (simp [srt_len]; done), by intro es h; cases h; simp [AV.leaves, AV.bel, AV.bel2, AV.bel1]⟩ | refine And.intro ?_ ?_ | exact .inl rfl | exact .inr rfl | exact .inr ⟨rfl, rfl⟩ | trivial | exact .inr (oblA rfl) | exact .inr ⟨rfl, oblA rfl⟩ | exact .inr bel_strs | exact .inr ⟨rfl, bel_strs⟩ | exact .inr ⟨by simp, bel_strs⟩ | (simp; done) | exact .inr ⟨rfl, by simp⟩ | exact .inr ⟨by simp, by simp⟩)); done
        · exact ⟨by omega, by decide, by decide, fun _ => ⟨⟨by simp [sumL], by simp⟩, by simp [sumL]⟩⟩
        rintro ⟨i, a, b, ov⟩ ⟨h1, ha, hb, hov⟩
        simp only [go_sem])
    | (
        refine ⟨(i + 1, a2, b2, ov), ?_, ?_, ?_⟩
        · (try simp only [go_sem]); (try rw [wrap64_id (by omega) (by omega)]); (try simp only [cond_true, cond_false]); (repeat' (first | omega | (simp only [List.length_reverse, List.length_drop]; omega) | exact .inr (i64_eq (by first | omega | (rw [wrap64_id (by omega) (by omega)]; done) | (rw [wrap64_id (by omega) (by omega)]; omega))) | exact .inr ⟨by first | rfl | (simp [srt_len]; done), by intro es h; cases h; simp [AV.leaves, AV.bel, AV.bel2, AV.bel1]⟩ | refine And.intro ?_ ?_ | exact .inl rfl | exact .inr rfl | exact .inr ⟨rfl, rfl⟩ | trivial | exact .inr (oblA rfl) | exact .inr ⟨rfl, oblA rfl⟩ | exact .inr bel_strs | exact .inr ⟨rfl, bel_strs⟩ | exact .inr ⟨by simp, bel_strs⟩ | (simp; done) | exact .inr ⟨rfl, by simp⟩ | exact .inr ⟨by simp, by simp⟩)); done
        · first | exact inv_ok (by omega) hx hy ha2 hb2 hov | exact inv_ov (by omega) (by first | exact ha2 | exact ha2.1) (by first | exact hb2 | exact hb2.1)
        · (try simp only []); omega)
    | (
        refine ⟨(i + 1, a2, b2, true), ?_, ?_, ?_⟩
        · (try simp only [go_sem]); (try rw [wrap64_id (by omega) (by omega)]); (try simp only [cond_true, cond_false]); (repeat' (first | omega | (simp only [List.length_reverse, List.length_drop]; omega) | exact .inr (i64_eq (by first | omega | (rw [wrap64_id (by omega) (by omega)]; done) | (rw [wrap64_id (by omega) (by omega)]; omega))) | exact .inr ⟨by first | rfl | (simp [srt_len]; done), by intro es h; cases h; simp [AV.leaves, AV.bel, AV.bel2, AV.bel1]⟩ | refine And.intro ?_ ?_ | exact .inl rfl | exact .inr rfl | exact .inr ⟨rfl, rfl⟩ | trivial | exact .inr (oblA rfl) | exact .inr ⟨rfl, oblA rfl⟩ | exact .inr bel_strs | exact .inr ⟨rfl, bel_strs⟩ | exact .inr ⟨by simp, bel_strs⟩ | (simp; done) | exact .inr ⟨rfl, by simp⟩ | exact .inr ⟨by simp, by simp⟩)); done
        · first | exact inv_ok (by omega) hx hy ha2 hb2 hov | exact inv_ov (by omega) (by first | exact ha2 | exact ha2.1) (by first | exact hb2 | exact hb2.1)
        · (try simp only []); omega)
    | (
        refine AWP.ret ?_
        refine AEnd.is ?_; simp only [go_sem, out_v, out_s, out_n, v_int, v_bool, v_str] <;> (first | rfl | (simp; done) | (exfalso; simp_all; done) | (simp_all; done) | skip))
    | refine AWP.fin (by assumption) ?_
    | fail)


end Go.Proofs.Ytceiiajacnihjaa
