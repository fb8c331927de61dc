import Derived.Test.YtajeeghgiilhiaaG1
import Derived.Test.YtajeeghgiilhiaaMr
import Derived.Test.YtajeeghgiilhiaaShf
import Derived.Test.YtajeeghgiilhiaaLy
import Derived.Shelf.SlSortCmp.WholeK
set_option linter.unusedVariables false
set_option linter.unusedSimpArgs false
namespace Go.Proofs.Ytajeeghgiilhiaa
open Go Go.Abs Go.RowKit Go.Bk
abbrev nmV (x : Bs × Bs) : AV := .agg [str x.1, str x.2]

set_option maxHeartbeats 4000000 in
set_option maxRecDepth 8000 in
theorem cnanD_c (s : Bs) : ACalls ED 59 [str s] (fun r t => r = bl false ∧ t = []) := by -- cmp.isNaN[string]
  refine ACalls.of_awp (n := 6) (rs := [.tmp 2]) Try.func59 rfl Try.ntmps59 rfl ?_
  repeat' (first
    | refine AWP.seqk fun K hK => ?_
    | (refine AWP.region ?_; simp only [go_sem])
    | (refine hK _ ?_; clear hK K)
    | refine AWP.block ?_
    | refine AWP.cond rfl (fun c => ?_) (fun c => ?_) <;> first | exact Bool.noConfusion c | (try simp only [dD] at c)
    | refine AWP.skip ?_
    | (refine AWP.exit ?_; simp only [go_sem])
    | (refine AGet.haveM (by assumption) ?_; (try simp only [go_sem]))
    | (refine AGet.have' (by assumption) ?_; (try simp only [go_sem]))
    | ((first | refine AGet.nth ?_ (fun b hb => ?_) | refine AGet.nth1 ?_ (fun b hb => ?_) | with_reducible refine And.intro ?_ ?_); (focus (first | omega | assumption | exact List.length_pos_iff.2 (by assumption) | (simp only [List.length_append, List.length_cons, List.length_nil, List.length_map, List.length_take, List.length_drop] at *; omega) | (rw [wrap64_id (by omega) (by omega)]; omega) | (simp; done) | (simp [spare_len]; done) | (exact ⟨by omega, by omega⟩))); (try simp only [hb, go_sem]))
    | (
        refine AWP.ret ?_
        refine AEnd.is ?_; simp only [go_sem, out_v, out_s, out_n, v_int, v_bool, v_str] <;> (simp; done))
    | refine AWP.fin (by assumption) ?_
    | fail)

set_option maxHeartbeats 4000000 in
set_option maxRecDepth 8000 in
theorem ccmpD_c (s u : Bs) : ACalls ED 41 [str s, str u] (fun r t => r = i64 (cmpS s u) ∧ t = []) := by -- cmp.Compare[string]
  refine ACalls.of_awp (n := 20) (rs := [.tmp 4]) Try.func41 rfl Try.ntmps41 rfl ?_
  repeat' (first
    | refine AWP.seqk fun K hK => ?_
    | (refine AWP.region ?_; simp only [go_sem, Go.Proofs.bytesLess_eq])
    | (refine hK _ ?_; clear hK K)
    | refine AWP.block ?_
    | refine AWP.cond rfl (fun c => ?_) (fun c => ?_) <;> first | exact Bool.noConfusion c | (try simp only [dD] at c)
    | refine AWP.skip ?_
    | (refine AWP.exit ?_; simp only [go_sem, Go.Proofs.bytesLess_eq])
    | (refine ACall.one (cnanD_c _) (by kernel_rfl) rfl ?_; simp only [go_sem, Go.Proofs.bytesLess_eq])
    | (refine AGet.haveM (by assumption) ?_; (try simp only [go_sem, Go.Proofs.bytesLess_eq]))
    | (refine AGet.have' (by assumption) ?_; (try simp only [go_sem, Go.Proofs.bytesLess_eq]))
    | ((first | refine AGet.nth ?_ (fun b hb => ?_) | refine AGet.nth1 ?_ (fun b hb => ?_) | with_reducible refine And.intro ?_ ?_); (focus (first | omega | assumption | exact List.length_pos_iff.2 (by assumption) | (simp only [List.length_append, List.length_cons, List.length_nil, List.length_map, List.length_take, List.length_drop] at *; omega) | (rw [wrap64_id (by omega) (by omega)]; omega) | (simp; done) | (simp [spare_len]; done) | (exact ⟨by omega, by omega⟩))); (try simp only [hb, go_sem, Go.Proofs.bytesLess_eq]))
    | (
        refine AWP.ret ?_
        refine AEnd.is ?_; simp only [go_sem, out_v, out_s, out_n, v_int, v_bool, v_str] <;> (simp only [cmpS]; (try simp only [decide_eq_true_eq, decide_eq_false_iff_not, Bool.or_eq_true, Bool.or_eq_false_iff, not_or, Bool.not_eq_true, Bool.not_eq_false] at *); first | (rw [if_pos (by assumption)]; done) | (simp_all; done) | (rcases ‹_ ∨ _› with h3 | h3 <;> simp_all; done) | skip))
    | refine AWP.fin (by assumption) ?_
    | fail)

set_option maxHeartbeats 4000000 in
set_option maxRecDepth 8000 in
theorem corD_c (x y : Int) : ACalls ED 40 [.sl none 1 [i64 x, i64 y]] (fun r t => r = i64 (if x ≠ 0 then x else y) ∧ t = []) := by -- cmp.Or[int]
  refine ACalls.of_awp (n := 18) (rs := [.tmp 2]) Try.func40 rfl Try.ntmps40 rfl ?_
  repeat' (first
    | refine AWP.seqk fun K hK => ?_
    | (
        refine AWP.here 4 10 3 rfl ?_
        obtain ⟨z, hz2, hzz⟩ : ∃ z, ([i64 x, i64 y] : List AV)[i]? = some (i64 z) ∧ (i = 0 ∧ z = x ∨ i = 1 ∧ z = y) := by
          rcases i with _ | _ | i
          · exact ⟨x, rfl, .inl ⟨rfl, rfl⟩⟩
          · exact ⟨y, rfl, .inr ⟨rfl, rfl⟩⟩
          · exfalso; omega
        refine AWP.region ?_; simp only [go_sem, hz2])
    | (refine AWP.region ?_; simp only [go_sem])
    | (refine hK _ ?_; clear hK K)
    | refine AWP.block ?_
    | refine AWP.cond rfl (fun c => ?_) (fun c => ?_) <;> first | exact Bool.noConfusion c | (try simp only [dD] at c)
    | refine AWP.skip ?_
    | (refine AWP.exit ?_; simp only [go_sem])
    | (refine AGet.haveM (by assumption) ?_; (try simp only [go_sem]))
    | (refine AGet.have' (by assumption) ?_; (try simp only [go_sem]))
    | ((first | refine AGet.nth ?_ (fun b hb => ?_) | refine AGet.nth1 ?_ (fun b hb => ?_) | with_reducible refine And.intro ?_ ?_); (focus (first | omega | assumption | exact List.length_pos_iff.2 (by assumption) | (simp only [List.length_append, List.length_cons, List.length_nil, List.length_map, List.length_take, List.length_drop] at *; omega) | (rw [wrap64_id (by omega) (by omega)]; omega) | (simp; done) | (simp [spare_len]; done) | (exact ⟨by omega, by omega⟩))); (try simp only [hb, go_sem]))
    | (
        refine AWP.here 3 9 1 rfl ?_
        refine AWP.loopN (ι := Nat) [2, 5, 9, 10, 11, 12, 13, 14, 15, 16] (fun (i : Nat) => [(8, i64 i)]) (fun (i : Nat) => i ≤ 2 ∧ (0 < i → x = 0) ∧ (1 < i → y = 0)) (fun (i : Nat) => 2 - i) (0) ?_ ?_ ?_
        · (try simp only [go_sem]); (repeat' (first | refine And.intro ?_ ?_ | exact .inl rfl | exact .inr rfl | exact .inr ⟨rfl, rfl⟩ | trivial | exact .inr (oblA rfl) | exact .inr ⟨rfl, oblA rfl⟩ | exact .inr bel_strs | exact .inr ⟨rfl, bel_strs⟩ | exact .inr ⟨by simp, bel_strs⟩ | (simp; done) | exact .inr ⟨rfl, by simp⟩ | exact .inr ⟨by simp, by simp⟩)); done
        · exact ⟨by omega, by omega, by omega⟩
        rintro i ⟨h1, h2, h3⟩
        simp only [go_sem])
    | (
        refine ⟨i + 1, ?_, ?_, ?_⟩
        · (try simp only [go_sem]); (try rw [wrap64_id (by omega) (by omega)]); (repeat' (first | refine And.intro ?_ ?_ | exact .inl rfl | exact .inr rfl | exact .inr ⟨rfl, rfl⟩ | trivial | exact .inr (oblA rfl) | exact .inr ⟨rfl, oblA rfl⟩ | exact .inr bel_strs | exact .inr ⟨rfl, bel_strs⟩ | exact .inr ⟨by simp, bel_strs⟩ | (simp; done) | exact .inr ⟨rfl, by simp⟩ | exact .inr ⟨by simp, by simp⟩)); done
        · (rcases hzz with ⟨rfl, rfl⟩ | ⟨rfl, rfl⟩ <;> exact ⟨by omega, by intros; first | assumption | omega, by intros; first | assumption | omega⟩)
        · (try simp only []); omega)
    | (
        refine AWP.ret ?_
        refine AEnd.is ?_; simp only [go_sem, out_v, out_s, out_n, v_int, v_bool, v_str] <;> (first | rfl | (rcases hzz with ⟨rfl, rfl⟩ | ⟨rfl, rfl⟩ <;> simp_all; done) | (have e1 := h2 (by omega); have e2 := h3 (by omega); subst e1; subst e2; rfl) | skip))
    | refine AWP.fin (by assumption) ?_
    | fail)

set_option maxHeartbeats 4000000 in
set_option maxRecDepth 8000 in
theorem clo_c (x y : Nm) : ACalls ED 39 [nmV x, nmV y] (fun r t => r = i64 (cmpN x y) ∧ t = []) := by -- checkroll/ledger.All$1
  refine ACalls.of_awp (n := 17) (rs := [.tmp 4]) Try.func39 rfl Try.ntmps39 rfl ?_
  repeat' (first
    | refine AWP.seqk fun K hK => ?_
    | (refine AWP.region ?_; simp only [go_sem])
    | (refine AWP.here 1 5 13 rfl ?_; refine AWP.regionO [0, 1, 2, 3, 5, 6, 7, 8, 4, 9, 10, 11, 12] [] (by kernel_rfl) (by kernel_rfl) rfl ?_; simp only [go_sem])
    | (refine hK _ ?_; clear hK K)
    | refine AWP.block ?_
    | refine AWP.cond rfl (fun c => ?_) (fun c => ?_) <;> first | exact Bool.noConfusion c | (try simp only [dD] at c)
    | refine AWP.skip ?_
    | (refine AWP.exit ?_; simp only [go_sem])
    | (refine ACall.one (ccmpD_c x.1 y.1) (by kernel_rfl) rfl ?_; simp only [go_sem])
    | (refine ACall.one (ccmpD_c x.2 y.2) (by kernel_rfl) rfl ?_; simp only [go_sem])
    | (refine ACall.one (corD_c (cmpS x.1 y.1) (cmpS x.2 y.2)) (by kernel_rfl) rfl ?_; simp only [go_sem])
    | (refine AGet.haveM (by assumption) ?_; (try simp only [go_sem]))
    | (refine AGet.have' (by assumption) ?_; (try simp only [go_sem]))
    | ((first | refine AGet.nth ?_ (fun b hb => ?_) | refine AGet.nth1 ?_ (fun b hb => ?_) | with_reducible refine And.intro ?_ ?_); (focus (first | omega | assumption | exact List.length_pos_iff.2 (by assumption) | (simp only [List.length_append, List.length_cons, List.length_nil, List.length_map, List.length_take, List.length_drop] at *; omega) | (rw [wrap64_id (by omega) (by omega)]; omega) | (simp; done) | (simp [spare_len]; done) | (exact ⟨by omega, by omega⟩))); (try simp only [hb, go_sem]))
    | (
        refine AWP.ret ?_
        refine AEnd.is ?_; simp only [go_sem, out_v, out_s, out_n, v_int, v_bool, v_str] <;> (first | rfl | (simp [cmpN]; done) | skip))
    | refine AWP.fin (by assumption) ?_
    | fail)


/-- What a call leaves that turns nothing old, and draws no less: blocks of its own, and draws. -/
theorem grown_of {W w' : World} (h : Go.Abs.Below True W.heap.size W w') : ∃ q os', w' = Go.Sort.grow (W.drewN q) os' := by
  refine ⟨w'.drawn - W.drawn, w'.heap.extract W.heap.size w'.heap.size, ?_⟩
  have hd := h.drawn trivial
  have hs := h.size
  obtain ⟨hp, tp, dr, os, out⟩ := w'
  have h1 : os = W.os := h.os
  have h2 : tp = W.tape := h.tape
  have h3 : out = W.output := h.output
  subst h1; subst h2; subst h3
  have hh : hp = W.heap ++ hp.extract W.heap.size hp.size := by
    apply Array.ext_getElem?
    intro i
    rcases Nat.lt_or_ge i W.heap.size with hi | hi
    · rw [Array.getElem?_append_left hi]; exact h.block i hi
    · rw [Array.getElem?_append_right hi, Array.getElem?_extract]
      simp only [] at hs
      rcases Nat.lt_or_ge i hp.size with hi2 | hi2
      · rw [if_pos (by simp only [Nat.min_self]; omega)]
        congr 1; omega
      · rw [if_neg (by simp only [Nat.min_self]; omega), Array.getElem?_eq_none hi2]
  show (⟨hp, W.tape, dr, W.os, W.output⟩ : World) = ⟨W.heap ++ hp.extract W.heap.size hp.size, W.tape, W.drawn + (dr - W.drawn), W.os, W.output⟩
  rw [← hh, Nat.add_sub_of_le hd]
def encN (x : Nm) : List Value := [.string ⟨x.1.toArray⟩, .string ⟨x.2.toArray⟩]
theorem cmpLaysN (blk off size : Nat) (w : World) : Go.Proofs.CmpLays Try.prog 39 #[] encN 2 cmpN blk off size w := by
  intro m os dk hs x y
  have h := clo_c x y (Go.Proofs.sortWorldK encN 2 w blk off m dk os) (fun _ _ => none) [.agg (encN x).toArray, .agg (encN y).toArray] trivial (fun g cs hg => by cases hg) (fun _ _ _ hx => by cases hx)
    ⟨rfl, fun i z v h1 h2 => by
      rcases i with _ | _ | i
      · cases h1; cases h2
        exact .agg _ _ rfl (fun j y' u hy hu => by
          rcases j with _ | _ | j
          · cases hy; cases hu; exact .v _
          · cases hy; cases hu; exact .v _
          · simp at hy)
      · cases h1; cases h2
        exact .agg _ _ rfl (fun j y' u hy hu => by
          rcases j with _ | _ | j
          · cases hy; cases hu; exact .v _
          · cases hy; cases hu; exact .v _
          · simp at hy)
      · simp at h1⟩
  refine h.mono ?_
  rintro e w' ⟨v, r, tks, im', rfl, hb, _, _, _, _, hv, rfl, _⟩
  have := hv.inv_v
  subst this
  exact ⟨rfl, grown_of hb⟩

end Go.Proofs.Ytajeeghgiilhiaa
