import Derived.Test.YtajeeghgiilhiaaQ3
import Derived.Test.YtajeeghgiilhiaaLd
set_option linter.unusedVariables false
set_option linter.unusedSimpArgs false
namespace Go.Proofs.Ytajeeghgiilhiaa
open Go Go.Abs Go.RowKit Go.Bk
theorem cl_sl {l : List Bs} : ∀ x ∈ (AV.agg [.sl none 1 (l.map str)]).leaves, x.clean1 = some x := by
  intro x hx
  simp only [AV.leaves, List.mem_cons, List.not_mem_nil, or_false] at hx
  subst hx; rfl
theorem cl_strs (l : List Bs) : ∀ e ∈ l.map str, ∀ x ∈ e.leaves, x.clean1 = some x := by
  intro e he x hx
  obtain ⟨o, _, rfl⟩ := List.mem_map.1 he
  simp only [AV.leaves, List.mem_cons, List.not_mem_nil, or_false] at hx
  subst hx; rfl
theorem fresh_strs (l : List Bs) : Fresh [l.length] (.sl (some 0) 1 (l.map str)) := by
  refine ⟨by simp, ?_⟩
  intro e he y hy
  obtain ⟨o, _, rfl⟩ := List.mem_map.1 he
  simp only [AV.leaves, List.mem_cons, List.not_mem_nil, or_false] at hy
  exact ⟨_, hy⟩
theorem strs_take {l : List Bs} {m : Nat} : (l.map str ++ spare 1 m).take l.length = l.map str := List.take_left' (by simp)
theorem strs_snoc {l : List Bs} {x : Bs} : l.map str ++ [str x] = (l ++ [x]).map str := by simp
theorem right_b1 {b : Bk} (h : headB b = false) : rightBk b = false := by simp [rightBk, h]
theorem right_b2 {b : Bk} (h : twiceB (srt b.ids) = true) : rightBk b = false := by
  rw [twiceB_srt] at h; simp [rightBk]; intro _ h2; simp [h2] at h
theorem right_b3 {b : Bk} {i : Nat} {f : Dn} (hb : b.fills[i]? = some f) (h : fillB b f = false) : rightBk b = false := by
  have : b.fills.all (fillB b) = false := by
    rw [List.all_eq_false]; exact ⟨f, List.mem_of_getElem? hb, by simp [h]⟩
  unfold rightBk; rw [this]; simp
theorem right_b4 {b : Bk} (h1 : headB b = true) (h2 : twiceB (srt b.ids) = false) (h3 : b.fills.all (fillB b) = true) : (!(!decide (b.fills.map (·.id)).Nodup)) = rightBk b := by
  rw [twiceB_srt] at h2
  unfold rightBk; rw [h1, h3]
  have : decide b.ids.Nodup = true := by simpa using h2
  rw [this]; simp
theorem fill_yes {b : Bk} {f : Dn} (h1 : smallB f.qty = true) (h2 : smallB f.price = true) (h3 : ¬ f.time < 0) (h4 : ¬ b.clock < f.time) (h5 : f.id ∈ sortL b.ids) : fillB b f = true := by
  rw [mem_srt] at h5
  simp [fillB, h1, h2, h5]; omega
theorem fill_no {b : Bk} {f : Dn} (h5 : ¬ f.id ∈ sortL b.ids) : fillB b f = false := by
  rw [mem_srt] at h5
  simp [fillB, h5]
theorem all_take {α : Type} {l : List α} {p : α → Bool} {i : Nat} {x : α} (hb : l[i]? = some x) (h : (l.take i).all p = true) (hx : p x = true) : (l.take (i + 1)).all p = true := by
  rw [take_next hb, List.all_append, h]; simp [hx]

set_option maxHeartbeats 8000000 in
set_option maxRecDepth 8000 in
theorem bright_c (bk : Bk) (ho : bk.orders.length ≤ 9223372036854775807) (hf : bk.fills.length ≤ 9223372036854775807) (hi : bk.ids.length ≤ 9223372036854775807) : ACalls E 14 [bkV bk] (fun r t => r = bl (rightBk bk) ∧ t = []) := by -- checkroll/book.Right
  refine ACalls.of_awp (n := 100) (rs := [.tmp 2]) Try.func14 rfl Try.ntmps14 rfl ?_
  repeat' (first
    | refine AWP.seqk fun K hK => ?_
    | (
        refine AWP.here 16 94 2 rfl ?_
        rw [strs_take, strs_snoc]
        refine AWP.renum [0, 1, 4] (by decide) rfl rfl ?_
        simp only [go_sem]
        refine AWP.region ?_; simp only [go_sem])
    | (
        refine AWP.here 17 95 2 rfl ?_
        refine AWP.regionL ?_
        refine AWPL.at 2 1 rfl ?_
        simp only [go_sem]
        refine AWPL.sortS (by kernel_rfl) rfl (fun blk off cap ss w h1 h2 h3 => Go.Proofs.AnyM.slices_Sort_string Go.Proofs.Try.sort50 blk off cap ss w h1 h2 h3) (fun p cap w => Go.Proofs.AnyM.slices_Sort_string_none Go.Proofs.Try.sort50 p cap w) (id := 2) (l := nl) (sp := spare 1 m) rfl rfl (by omega) ?_
        simp only [go_sem]
        refine AWPL.of ?_
        simp only [go_sem])
    | (refine AWP.here 3 45 5 rfl ?_; refine AWP.regionL ?_; refine AWPL.at 5 2 rfl ?_; simp only [go_sem])
    | (refine AWP.region ?_; simp only [go_sem])
    | (refine hK _ ?_; clear hK K)
    | refine AWP.block ?_
    | refine AWP.cond rfl (fun c => ?_) (fun c => ?_) <;> first | exact Bool.noConfusion c | (try simp only [dD] at c)
    | refine AWP.skip ?_
    | (refine AWP.exit ?_; simp only [go_sem])
    | (refine ACall.one (oright_c _ (by first | assumption | omega | (simp only [List.length_take]; omega))) (by kernel_rfl) rfl ?_; simp only [go_sem])
    | (refine ACall.snap (sorted_c bk.ids (by omega)) (by kernel_rfl) rfl (.cons (.fn (.cons (.ptr (e := .agg [.sl none 1 (bk.ids.map str)]) rfl cl_sl) .nil)) .nil) ?_; rintro r t ⟨rfl, rfl⟩; refine ⟨fresh_strs _, ?_⟩; simp only [go_sem])
    | (refine ACall.one (twice_c _ (by rw [sortL_len]; omega)) (by kernel_rfl) rfl ?_; simp only [go_sem])
    | (refine ACall.snapOne (twice_c (sortL nl) (by rw [sortL_len]; omega)) (by kernel_rfl) rfl (.cons (.one (.mu' rfl (by simp [sortL_len]) (cl_strs _))) .nil) ?_; simp only [go_sem])
    | (refine ACall.one (bamount_c _) (by kernel_rfl) rfl ?_; simp only [go_sem])
    | (refine ACall.of (bsearch_c (sortL bk.ids) _ (srt_sorted _) (by rw [sortL_len]; omega)) (by kernel_rfl) rfl ?_; rintro r t ⟨⟨n, rfl⟩, rfl⟩; simp only [go_sem])
    | (refine AWPL.call (rs := [.tmp 2]) Try.func32 rfl Try.ntmps32 rfl (by kernel_rfl) rfl rfl ?_; simp only [go_sem])
    | (refine AGuard.splitN (fun h => ?_) (fun h => ?_) <;> simp only [h, go_sem] <;> (try simp only [dD] at h))
    | (refine AGuard.split (fun h => ?_) (fun h => ?_) <;> simp only [h, go_sem] <;> (try simp only [dD] at h))
    | (refine AGet.haveM (by assumption) ?_; (try simp only [go_sem]))
    | (refine AGet.have' (by assumption) ?_; (try simp only [go_sem]))
    | ((first | refine AGet.nth ?_ (fun b hb => ?_) | refine AGet.nth1 ?_ (fun b hb => ?_) | with_reducible refine And.intro ?_ ?_); (focus (first | omega | assumption | exact List.length_pos_iff.2 (by assumption) | (simp only [List.length_append, List.length_cons, List.length_nil, List.length_map, List.length_take, List.length_drop] at *; omega) | (rw [wrap64_id (by omega) (by omega)]; omega) | (simp; done) | (simp [spare_len]; done) | (exact ⟨by omega, by omega⟩))); (try simp only [hb, go_sem]))
    | (
        refine AWP.here 8 55 1 rfl ?_
        refine AWP.nilMu 4 1 rfl ?_
        simp only [go_sem]
        refine AWP.loopM (ι := Nat × List Bs × Nat) [2, 6, 7, 8, 55, 56, 57, 58, 59, 60, 61, 62, 63, 64, 65, 66, 67, 68, 69, 70, 71, 72, 73, 74, 75, 76, 77, 78, 79, 80, 81, 82, 83, 84, 85, 86, 87, 88, 89, 90, 91, 92, 93, 94] (fun ⟨i, nl, m⟩ => [(54, i64 i), (4, .mu 2 1 0 nl.length (nl.length + m))]) (fun ⟨i, nl, m⟩ => [some [.agg [odsV bk.orders, dnsV bk.fills, .sl none 1 (bk.ids.map str), i64 bk.clock, i64 bk.bad]], some [.agg [.sl none 1 (bk.ids.map str)]], some (nl.map str ++ spare 1 m)]) (fun ⟨i, nl, m⟩ => [(sortL bk.ids).length]) (fun ⟨i, nl, m⟩ => i ≤ bk.fills.length ∧ (bk.fills.take i).all (fillB bk) = true ∧ nl = (bk.fills.take i).map (·.id)) (fun ⟨i, nl, m⟩ => bk.fills.length - i) ((0, [], 0)) ?_ ?_ ?_
        · (try simp only [go_sem]); (repeat' (first | refine And.intro ?_ ?_ | exact .inl rfl | exact .inr rfl | exact .inr ⟨rfl, rfl⟩ | trivial | exact .inr (oblA rfl) | exact .inr ⟨rfl, oblA rfl⟩ | exact .inr bel_strs | exact .inr ⟨rfl, bel_strs⟩ | exact .inr ⟨by simp, bel_strs⟩ | (simp; done) | exact .inr ⟨rfl, by simp⟩ | exact .inr ⟨by simp, by simp⟩))
        · exact ⟨Nat.zero_le _, by simp, by simp⟩
        rintro ⟨i, nl, m⟩ ⟨h1, h2, h3⟩
        simp only [go_sem]
        have hnl : nl.length = i := by rw [h3, List.length_map, List.length_take]; omega)
    | (
        refine ⟨(i + 1, nl ++ [b.id], mm), ?_, ?_, ?_⟩
        · (try simp only [go_sem]); (try rw [wrap64_id (by omega) (by omega)]); (repeat' (first | refine And.intro ?_ ?_ | exact .inl rfl | exact .inr rfl | exact .inr ⟨rfl, rfl⟩ | trivial | exact .inr (oblA rfl) | exact .inr ⟨rfl, oblA rfl⟩ | exact .inr bel_strs | exact .inr ⟨rfl, bel_strs⟩ | exact .inr ⟨by simp, bel_strs⟩ | (simp; done) | exact .inr ⟨rfl, by simp⟩ | exact .inr ⟨by simp, by simp⟩))
        · exact ⟨by show i + 1 ≤ bk.fills.length; omega, all_take (by assumption) h2 (fill_yes (by assumption) (by assumption) (by omega) (by omega) (by assumption)), by rw [h3, take_next (by assumption)]; simp⟩
        · show bk.fills.length - (i + 1) < bk.fills.length - i; omega)
    | (
        refine AWP.ret ?_
        refine AEnd.is ?_; simp only [go_sem, out_v, out_s, out_n, v_int, v_bool, v_str] <;> (first
        | (rw [right_b1 (by first | (simp [headB, *]; done) | (simp [headB]; intros; omega))]; done)
        | (rw [right_b2 (by assumption)]; done)
        | (rw [right_b3 hb (by first | (simp [fillB, *]; done) | (simp [fillB]; intros; omega))]; done)
        | (rw [right_b3 hb (fill_no (by assumption))]; done)
        | (rw [twiceB_srt, h3, List.take_of_length_le (by omega)]; rw [List.take_of_length_le (by omega)] at h2; exact right_b4 (by simp [headB, *]; omega) (by assumption) h2)
        | skip))
    | (refine AWP.ret ?_; refine AInPost.ret rfl ?_; simp only [go_sem])
    | (refine AWPL.of ?_; simp only [go_sem])
    | (refine fun (mm : Nat) => ?_; simp only [go_sem])
    | refine AWP.fin (by assumption) ?_)


end Go.Proofs.Ytajeeghgiilhiaa
