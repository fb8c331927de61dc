import Derived.Test.YtajeeghgiilhiaaQ4
set_option linter.unusedVariables false
set_option linter.unusedSimpArgs false
namespace Go.Proofs.Ytajeeghgiilhiaa
open Go Go.Abs Go.RowKit Go.Bk
theorem pl_dn (l : List Dn) : ∀ e ∈ l.map dnV, e.leaves.length = 9 ∧ ∀ y ∈ e.leaves, ∃ z, y = .v z := by
  intro e he
  obtain ⟨o, _, rfl⟩ := List.mem_map.1 he
  refine ⟨rfl, fun x hx => ?_⟩
  simp only [AV.leaves, List.mem_cons, List.not_mem_nil, or_false] at hx
  rcases hx with rfl | rfl | rfl | rfl | rfl | rfl | rfl | rfl | rfl <;> exact ⟨_, rfl⟩
theorem right_facts {b : Bk} (h : rightBk b = true) : headB b = true ∧ (b.orders.length ≤ 64 ∧ b.fills.length ≤ 256 ∧ b.ids.length ≤ 256) ∧ ∀ f ∈ b.fills, 0 ≤ f.time ∧ f.time ≤ 4611686018427387904 := by
  simp only [rightBk, Bool.and_eq_true] at h
  obtain ⟨⟨⟨h1, h2⟩, h3⟩, h4⟩ := h
  refine ⟨h1, ?_, fun f hf => ?_⟩
  · simp only [headB, Bool.and_eq_true, decide_eq_true_eq] at h1
    exact ⟨right_len (by simp [h1]), by omega, by omega⟩
  · have := List.all_eq_true.1 h3 f hf
    simp only [headB, fillB, Bool.and_eq_true, decide_eq_true_eq] at h1 this
    omega
theorem come_no {b : Bk} {x : Ex} (h : rightBk b = false ∨ execB x = false) : comeF b x = (b, 0) := by
  unfold comeF; rcases h with h | h <;> simp [h]
theorem come_yes {b : Bk} {x : Ex} (h1 : rightBk b = true) (h2 : execB x = true) : comeF b x = takeF b x := by
  unfold comeF; simp [h1, h2]

set_option maxHeartbeats 4000000 in
set_option maxRecDepth 8000 in
theorem oclone_p (l : List Od) (hl : l.length ≤ 1000000) : ACalls E 27 [.sl none 8 (l.map odV)] (fun r t => r = .sl none 8 (l.map odV) ∧ t = []) := by -- slices.Clone[[]checkroll/api.Order,checkroll/api.Order]
  refine ACalls.of_awp (n := 8) (rs := [.tmp 2]) Try.func27 rfl Try.ntmps27 rfl ?_
  repeat' (first
    | refine AWP.seqk fun K hK => ?_
    | (refine AWP.region ?_; simp only [go_sem])
    | (refine hK _ ?_; clear hK K)
    | refine AWP.block ?_
    | refine AWP.cond rfl (fun c => ?_) (fun c => ?_) <;> first | exact Bool.noConfusion c | (try simp only [dD] at c)
    | refine AWP.skip ?_
    | (refine AWP.exit ?_; simp only [go_sem])
    | (refine AGet.haveM (by assumption) ?_; (try simp only [go_sem]))
    | (refine AGet.have' (by assumption) ?_; (try simp only [go_sem]))
    | ((first | refine AGet.nth ?_ (fun b hb => ?_) | refine AGet.nth1 ?_ (fun b hb => ?_) | with_reducible refine And.intro ?_ ?_); (focus (first | omega | assumption | exact List.length_pos_iff.2 (by assumption) | (simp only [List.length_append, List.length_cons, List.length_nil, List.length_map, List.length_take, List.length_drop] at *; omega) | (rw [wrap64_id (by omega) (by omega)]; omega) | (simp; done) | (simp [spare_len]; done) | (exact ⟨by omega, by omega⟩))); (try simp only [hb, go_sem]))
    | (
        refine AWP.ret ?_
        refine AEnd.is ?_; simp only [go_sem, out_v, out_s, out_n, v_int, v_bool, v_str] <;> (first
        | (have he : l = [] := by
             apply Classical.byContradiction; intro hne
             have := hbb (by simpa using hne)
             rw [this] at c; exact absurd c (by simp)
           simp [he]; done)
        | (simp; done)))
    | (refine fun (bb : Bool) (hbb : _ → bb = false) => ?_)
    | refine AWP.fin (by assumption) ?_)

set_option maxHeartbeats 4000000 in
set_option maxRecDepth 8000 in
theorem dclone_c (l : List Dn) (hl : l.length ≤ 1000000) : ACalls E 28 [.sl none 9 (l.map dnV)] (fun r t => r = .sl (some 0) 9 (l.map dnV) ∧ t = [l.length]) := by -- slices.Clone[[]checkroll/api.Done,checkroll/api.Done]
  refine ACalls.of_awp (n := 8) (rs := [.tmp 2]) Try.func28 rfl Try.ntmps28 rfl ?_
  repeat' (first
    | refine AWP.seqk fun K hK => ?_
    | (refine AWP.region ?_; simp only [go_sem])
    | (refine hK _ ?_; clear hK K)
    | refine AWP.block ?_
    | refine AWP.cond rfl (fun c => ?_) (fun c => ?_) <;> first | exact Bool.noConfusion c | (try simp only [dD] at c)
    | refine AWP.skip ?_
    | (refine AWP.exit ?_; simp only [go_sem])
    | (refine AGet.haveM (by assumption) ?_; (try simp only [go_sem]))
    | (refine AGet.have' (by assumption) ?_; (try simp only [go_sem]))
    | ((first | refine AGet.nth ?_ (fun b hb => ?_) | refine AGet.nth1 ?_ (fun b hb => ?_) | with_reducible refine And.intro ?_ ?_); (focus (first | omega | assumption | exact List.length_pos_iff.2 (by assumption) | (simp only [List.length_append, List.length_cons, List.length_nil, List.length_map, List.length_take, List.length_drop] at *; omega) | (rw [wrap64_id (by omega) (by omega)]; omega) | (simp; done) | (simp [spare_len]; done) | (exact ⟨by omega, by omega⟩))); (try simp only [hb, go_sem]))
    | (
        refine AWP.ret ?_
        simp only [go_sem]
        first
        | (have he : l = [] := by
             apply Classical.byContradiction; intro hne
             have := hbb (by simpa using hne)
             rw [this] at c; exact absurd c (by simp)
           exact ⟨[(false, 9)], .sl (some 0) 9 [], rfl, rfl, by rw [he]; rfl, by rw [he]; rfl⟩)
        | exact ⟨[(true, 0)], .sl (some 0) 9 _, rfl, ⟨rfl, rfl, rfl⟩, by simp, by simp [selLens]⟩)
    | (refine fun (bb : Bool) (hbb : _ → bb = false) => ?_)
    | refine AWP.fin (by assumption) ?_)

set_option maxHeartbeats 4000000 in
set_option maxRecDepth 8000 in
theorem sclone_c (l : List Bs) (hl : l.length ≤ 1000000) : ACalls E 29 [.sl none 1 (l.map str)] (fun r t => r = .sl (some 0) 1 (l.map str) ∧ t = [l.length]) := by -- slices.Clone[[]string,string]
  refine ACalls.of_awp (n := 8) (rs := [.tmp 2]) Try.func29 rfl Try.ntmps29 rfl ?_
  repeat' (first
    | refine AWP.seqk fun K hK => ?_
    | (refine AWP.region ?_; simp only [go_sem])
    | (refine hK _ ?_; clear hK K)
    | refine AWP.block ?_
    | refine AWP.cond rfl (fun c => ?_) (fun c => ?_) <;> first | exact Bool.noConfusion c | (try simp only [dD] at c)
    | refine AWP.skip ?_
    | (refine AWP.exit ?_; simp only [go_sem])
    | (refine AGet.haveM (by assumption) ?_; (try simp only [go_sem]))
    | (refine AGet.have' (by assumption) ?_; (try simp only [go_sem]))
    | ((first | refine AGet.nth ?_ (fun b hb => ?_) | refine AGet.nth1 ?_ (fun b hb => ?_) | with_reducible refine And.intro ?_ ?_); (focus (first | omega | assumption | exact List.length_pos_iff.2 (by assumption) | (simp only [List.length_append, List.length_cons, List.length_nil, List.length_map, List.length_take, List.length_drop] at *; omega) | (rw [wrap64_id (by omega) (by omega)]; omega) | (simp; done) | (simp [spare_len]; done) | (exact ⟨by omega, by omega⟩))); (try simp only [hb, go_sem]))
    | (
        refine AWP.ret ?_
        simp only [go_sem]
        first
        | (have he : l = [] := by
             apply Classical.byContradiction; intro hne
             have := hbb (by simpa using hne)
             rw [this] at c; exact absurd c (by simp)
           exact ⟨[(false, 1)], .sl (some 0) 1 [], rfl, rfl, by rw [he]; rfl, by rw [he]; rfl⟩)
        | exact ⟨[(true, 0)], .sl (some 0) 1 _, rfl, ⟨rfl, rfl, rfl⟩, by simp, by simp [selLens]⟩)
    | (refine fun (bb : Bool) (hbb : _ → bb = false) => ?_)
    | refine AWP.fin (by assumption) ?_)


end Go.Proofs.Ytajeeghgiilhiaa
