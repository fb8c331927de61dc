import Derived.Test.YtajeeghgiilhiaaT2
set_option linter.unusedVariables false
set_option linter.unusedSimpArgs false
namespace Go.Proofs.Ytajeeghgiilhiaa
open Go Go.Abs Go.RowKit Go.Bk

set_option maxRecDepth 100000 in
set_option maxHeartbeats 16000000 in
theorem stb_call {ops : Array Oper} {l0 : List Oper} {Q : Exit → St → Prop} {tmps up : List AV} {gl : Nat → Option (List AV)} {own : List (Option (List AV))} {tk : List Nat} {dst : Option Tmp} {x0 x1 x2 : Operand} {tys : Array TypeId} {ty : TypeId} {pos : String} {after : Array Edge} {id m N : Nat} {d : Array Po} 
    (hx0 : St.ev ⟨tmps, own, tk, gl, none, up⟩ x0 = .mu id 5 0 N (N + m))
    (hx1 : St.ev ⟨tmps, own, tk, gl, none, up⟩ x1 = i64 (N : Int))
    (hx2 : St.ev ⟨tmps, own, tk, gl, none, up⟩ x2 = .fn 23 [])
    (ho : own[id]? = some (some (rowP d m)))
    (hbu : (tmps ++ up).all (AV.bel own.length tk.length) = true)
    (hbo : OwnBel own own.length tk.length)
    (hl : N ≤ 1000000)
    (hN : d.size = N)
    (hend : AWPL E ops l0 Q (St.put ⟨tmps, own.set id (some (rowP (Go.Stb.stable ltP d) m)), tk, gl, none, up⟩ dst (.tup []))) : AWPL E ops (⟨dst, .call ⟨.value (.func 48), #[x0, x1, x2], tys⟩, ty, pos, after, none⟩ :: l0) Q ⟨tmps, own, tk, gl, none, up⟩ := by
  have hid := lt_of_get ho
  obtain ⟨ow, how⟩ : ∃ ow : List (Option (List AV)), own = ow.set id (some (rowP d m)) := ⟨own, (set_same ho).symm⟩
  subst how
  rw [List.length_set] at hid
  have hob : ∀ d' : Array Po, OwnBel (ow.set id (some (rowP d' m))) ow.length tk.length := fun d' => by
    have := hbo.set (id := id) (bel_rowP d' m); rwa [List.set_set, List.length_set] at this
  have hob2 : ∀ d' : Array Po, OwnBel (ow.set id (some (rowP d' m))) (ow.set id (some (rowP d' m))).length tk.length := fun d' => by rw [List.length_set]; exact hob d'
  rw [List.length_set] at hbu
  simp only [List.set_set] at hend
  refine AWPL.call (caps := []) (rs := []) Try.func48 rfl Try.ntmps48 rfl (by kernel_rfl) rfl rfl ?_
  show AWP E _ _ ⟨([St.ev _ x0, St.ev _ x1, St.ev _ x2] ++ []) ++ List.replicate (63 - 3) (.v undef), _, tk, gl, none, tmps ++ up⟩
  rw [hx0, hx1, hx2]
  have hBn : ∀ (tm : List AV) (d' : Array Po), d' = Go.Stb.stable ltP d → AInPost E.P [] ⟨tmps, ow.set id (some (rowP d m)), tk, gl, none, up⟩ (fun s z => AWPL E ops l0 Q (s.put dst z)) .normal ⟨tm, ow.set id (some (rowP d' m)), tk, gl, none, tmps ++ up⟩ := fun tm d' e => by subst e; exact ⟨rfl, hend⟩
  have hBr : ∀ (tm : List AV) (d' : Array Po), d' = Go.Stb.stable ltP d → AInPost E.P [] ⟨tmps, ow.set id (some (rowP d m)), tk, gl, none, up⟩ (fun s z => AWPL E ops l0 Q (s.put dst z)) .ret ⟨tm, ow.set id (some (rowP d' m)), tk, gl, none, tmps ++ up⟩ := fun tm d' e => by subst e; exact ⟨rfl, hend⟩
  generalize AInPost E.P [] ⟨tmps, ow.set id (some (rowP d m)), tk, gl, none, up⟩ (fun s z => AWPL E ops l0 Q (s.put dst z)) = Q1 at hBn hBr ⊢
  generalize tmps ++ up = up' at hbu hBn hBr ⊢
  clear hend ho hbo hx0 hx1 hx2
  have hset : ∀ x, (ow.set id x)[id]? = some x := fun x => List.getElem?_set_self hid
  repeat' (first
    | refine AWP.seqk fun K hK => ?_
    | (
        refine AWP.here 5 20 4 rfl ?_
        have w0 : IntKind.i64.wrap (((x + 20 : Nat) : Int) + 20) = ((x + 20 + 20 : Nat) : Int) := by rw [wrap64_id (by omega) (by omega)]; omega
        refine AWP.region ?_; simp only [go_sem, hset, List.set_set, List.length_set, w0])
    | (
        refine AWP.here 8 31 4 rfl ?_
        have w0 : IntKind.i64.wrap ((2 : Int) * s) = ((2 * s : Nat) : Int) := by rw [wrap64_id (by omega) (by omega)]; omega
        refine AWP.region ?_; simp only [go_sem, hset, List.set_set, List.length_set, w0])
    | (
        refine AWP.here 12 45 5 rfl ?_
        have w0 : IntKind.i64.wrap ((2 : Int) * s) = ((2 * s : Nat) : Int) := by rw [wrap64_id (by omega) (by omega)]; omega
        have w1 : IntKind.i64.wrap (((x + 2 * s : Nat) : Int) + ((2 * s : Nat) : Int)) = ((x + 2 * s + 2 * s : Nat) : Int) := by rw [wrap64_id (by omega) (by omega)]; omega
        refine AWP.region ?_; simp only [go_sem, hset, List.set_set, List.length_set, w0, w1])
    | (
        refine AWP.here 13 49 4 rfl ?_
        have w0 : IntKind.i64.wrap ((x : Int) + s) = ((x + s : Nat) : Int) := by rw [wrap64_id (by omega) (by omega)]; omega
        refine AWP.region ?_; simp only [go_sem, hset, List.set_set, List.length_set, w0])
    | (
        refine AWP.here 16 61 3 rfl ?_
        first
        | rw [show rowP (Go.Stb.symM ltP x (x + s) N e2) m = rowP (Go.Stb.mrgP ltP N s 0 (2 * s) e) m by rw [← k3, mrgP_end1 (by omega) (by omega) (by omega)]]
        | rw [show rowP e2 m = rowP (Go.Stb.mrgP ltP N s 0 (2 * s) e) m by rw [← k3, mrgP_end2 (by omega) (by omega) (by omega)]]
        have z3 : (Go.Stb.mrgP ltP N s 0 (2 * s) e).size = N := by
          rw [← k3]
          rcases Nat.lt_or_ge (x + s) N with q | q
          · rw [mrgP_end1 (by omega) (by omega) (by omega), symM_size]; exact k2
          · rw [mrgP_end2 (by omega) (by omega) (by omega)]; exact k2
        have w0 : IntKind.i64.wrap ((s : Int) * 2) = ((s * 2 : Nat) : Int) := by rw [wrap64_id (by omega) (by omega)]; omega
        refine AWP.region ?_; simp only [go_sem, hset, List.set_set, List.length_set, w0])
    | (
        refine AWP.here 3 14 5 rfl ?_
        refine AWP.regionL ?_
        refine AWPL.at 5 4 rfl ?_
        simp only [go_sem, hset, List.set_set, List.length_set]
        (repeat (refine ⟨⟨_, rfl⟩, ?_⟩))
        refine isr_call (id := id) (m := m) (N := N) (d := e) (lo := x) (hi := x + 20) (by rfl) (by rfl) (by rfl) (by rfl) (hset _) (by simp only [List.length_set, List.all_append, hbu, List.all_cons, List.all_nil, List.cons_append, List.nil_append, AV.bel, AV.bel2, AV.bel1, decide_eq_true hid, Bool.and_true, Bool.true_and, List.all_replicate]) (hob2 _) hl (by first | assumption | omega) (by omega) (by omega) ?_
        simp only [go_sem, hset, List.set_set, List.length_set]
        refine AWPL.of ?_
        (try simp only [go_sem, hset, List.set_set, List.length_set]))
    | (
        refine AWP.here 6 23 5 rfl ?_
        refine AWP.regionL ?_
        refine AWPL.at 5 4 rfl ?_
        simp only [go_sem, hset, List.set_set, List.length_set]
        (repeat (refine ⟨⟨_, rfl⟩, ?_⟩))
        refine isr_call (id := id) (m := m) (N := N) (d := e) (lo := x) (hi := N) (by rfl) (by rfl) (by rfl) (by rfl) (hset _) (by simp only [List.length_set, List.all_append, hbu, List.all_cons, List.all_nil, List.cons_append, List.nil_append, AV.bel, AV.bel2, AV.bel1, decide_eq_true hid, Bool.and_true, Bool.true_and, List.all_replicate]) (hob2 _) hl (by first | assumption | omega) (by omega) (by omega) ?_
        simp only [go_sem, hset, List.set_set, List.length_set]
        refine AWPL.of ?_
        (try simp only [go_sem, hset, List.set_set, List.length_set])
        rw [show Go.Sort.insertionSort ltP e x N = Go.Stb.insB ltP N 0 20 d by rw [← g3, insB_stop (by omega)]]
        have z1 : (Go.Stb.insB ltP N 0 20 d).size = N := by rw [← g3, insB_stop (by omega), isort_size (by omega) (by omega)]; exact g2
        generalize he1 : Go.Stb.insB ltP N 0 20 d = e1 at z1 ⊢)
    | (
        refine AWP.here 10 36 8 rfl ?_
        have w0 : IntKind.i64.wrap ((x : Int) + s) = ((x + s : Nat) : Int) := by rw [wrap64_id (by omega) (by omega)]; omega
        refine AWP.regionL ?_
        refine AWPL.at 8 7 rfl ?_
        simp only [go_sem, hset, List.set_set, List.length_set, w0]
        (repeat (refine ⟨⟨_, rfl⟩, ?_⟩))
        refine sym_call _ (id := id) (m := m) (N := N) (d := e2) (lo := x) (mi := x + s) (hi := x + 2 * s) (by rfl) (by rfl) (by rfl) (by rfl) (by rfl) (hset _) (by simp only [List.length_set, List.all_append, hbu, List.all_cons, List.all_nil, List.cons_append, List.nil_append, AV.bel, AV.bel2, AV.bel1, decide_eq_true hid, Bool.and_true, Bool.true_and, List.all_replicate]) (hob2 _) hl (by first | assumption | omega) (by omega) (by omega) (by omega) ?_ (Nat.le_refl _)
        simp only [go_sem, hset, List.set_set, List.length_set, w0]
        refine AWPL.of ?_
        (try simp only [go_sem, hset, List.set_set, List.length_set, w0]))
    | (
        refine AWP.here 15 55 6 rfl ?_
        refine AWP.regionL ?_
        refine AWPL.at 6 5 rfl ?_
        simp only [go_sem, hset, List.set_set, List.length_set]
        (repeat (refine ⟨⟨_, rfl⟩, ?_⟩))
        refine sym_call _ (id := id) (m := m) (N := N) (d := e2) (lo := x) (mi := x + s) (hi := N) (by rfl) (by rfl) (by rfl) (by rfl) (by rfl) (hset _) (by simp only [List.length_set, List.all_append, hbu, List.all_cons, List.all_nil, List.cons_append, List.nil_append, AV.bel, AV.bel2, AV.bel1, decide_eq_true hid, Bool.and_true, Bool.true_and, List.all_replicate]) (hob2 _) hl (by first | assumption | omega) (by omega) (by omega) (by omega) ?_ (Nat.le_refl _)
        simp only [go_sem, hset, List.set_set, List.length_set]
        refine AWPL.of ?_
        (try simp only [go_sem, hset, List.set_set, List.length_set]))
    | (refine AWP.region ?_; simp only [go_sem, hset, List.set_set, List.length_set])
    | (refine hK _ ?_; clear hK K)
    | refine AWP.block ?_
    | refine AWP.cond rfl (fun c => ?_) (fun c => ?_) <;> first | exact Bool.noConfusion c | (try simp only [dD] at c)
    | refine AWP.skip ?_
    | (refine AWP.exit ?_; simp only [go_sem, hset, List.set_set, List.length_set])
    | (refine ACall.one (isr_call ) (by kernel_rfl) rfl ?_; simp only [go_sem, hset, List.set_set, List.length_set])
    | (refine ACall.one (sym_call ) (by kernel_rfl) rfl ?_; simp only [go_sem, hset, List.set_set, List.length_set])
    | (refine AGet.haveM (by assumption) ?_; (try simp only [go_sem, hset, List.set_set, List.length_set]))
    | (refine AGet.have' (by assumption) ?_; (try simp only [go_sem, hset, List.set_set, List.length_set]))
    | ((first | refine AGet.nth ?_ (fun b hb => ?_) | refine AGet.nth1 ?_ (fun b hb => ?_) | with_reducible refine And.intro ?_ ?_); (focus (first | omega | assumption | exact List.length_pos_iff.2 (by assumption) | (simp only [List.length_append, List.length_cons, List.length_nil, List.length_map, List.length_take, List.length_drop] at *; omega) | (rw [wrap64_id (by omega) (by omega)]; omega) | (simp; done) | (simp [spare_len]; done) | (exact ⟨by omega, by omega⟩))); (try simp only [hb, go_sem, hset, List.set_set, List.length_set]))
    | (
        refine AWP.here 2 11 3 rfl ?_
        refine AWP.loopM (ι := Nat × Array Po) [11, 12, 13, 14, 15, 16, 17, 18, 19, 20, 21, 22] (fun ⟨x, e⟩ => [(7, i64 x), (8, i64 ((x + 20 : Nat) : Int))]) (fun ⟨x, e⟩ => ow.set id (some (rowP e m))) (fun ⟨x, e⟩ => tk) (fun ⟨x, e⟩ => x ≤ N ∧ e.size = N ∧ Go.Stb.insB ltP N x (x + 20) e = Go.Stb.insB ltP N 0 20 d) (fun ⟨x, e⟩ => N - x) ((0, d)) ?_ ?_ ?_
        · (try simp only [go_sem]); (try simp only [List.set_set, List.length_set]); (repeat' (first | assumption | exact OwnBel.wk (hob _) | exact wkK_self | exact .inr ⟨rfl, decide_eq_true hid⟩ | exact .inr (decide_eq_true hid) | refine And.intro ?_ ?_ | exact .inl rfl | exact .inr rfl | exact .inr ⟨rfl, rfl⟩ | trivial | exact .inr (oblA rfl) | exact .inr ⟨rfl, oblA rfl⟩ | exact .inr bel_strs | exact .inr ⟨rfl, bel_strs⟩ | exact .inr ⟨by simp, bel_strs⟩ | (simp; done) | exact .inr ⟨rfl, by simp⟩ | exact .inr ⟨by simp, by simp⟩)); done
        · exact ⟨by omega, hN, rfl⟩
        rintro ⟨x, e⟩ ⟨g1, g2, g3⟩
        simp only [go_sem, hset, List.set_set, List.length_set])
    | (
        refine AWP.here 7 28 3 rfl ?_
        refine AWP.loopM (ι := Nat × Array Po) [7, 8, 9, 28, 29, 30, 31, 32, 33, 34, 35, 36, 37, 38, 39, 40, 41, 42, 43, 44, 45, 46, 47, 48, 49, 50, 51, 52, 53, 54, 55, 56, 57, 58, 59, 60, 61, 62] (fun ⟨s, e⟩ => [(6, i64 s)]) (fun ⟨s, e⟩ => ow.set id (some (rowP e m))) (fun ⟨s, e⟩ => tk) (fun ⟨s, e⟩ => 0 < s ∧ s ≤ 2 * N + 20 ∧ e.size = N ∧ Go.Stb.mrgL ltP N s e = Go.Stb.mrgL ltP N 20 e1) (fun ⟨s, e⟩ => N - s) ((20, e1)) ?_ ?_ ?_
        · (try simp only [go_sem]); (try simp only [List.set_set, List.length_set]); (repeat' (first | assumption | exact OwnBel.wk (hob _) | exact wkK_self | exact .inr ⟨rfl, decide_eq_true hid⟩ | exact .inr (decide_eq_true hid) | refine And.intro ?_ ?_ | exact .inl rfl | exact .inr rfl | exact .inr ⟨rfl, rfl⟩ | trivial | exact .inr (oblA rfl) | exact .inr ⟨rfl, oblA rfl⟩ | exact .inr bel_strs | exact .inr ⟨rfl, bel_strs⟩ | exact .inr ⟨by simp, bel_strs⟩ | (simp; done) | exact .inr ⟨rfl, by simp⟩ | exact .inr ⟨by simp, by simp⟩)); done
        · exact ⟨by omega, by omega, z1, rfl⟩
        rintro ⟨s, e⟩ ⟨j1, j2, j3, j4⟩
        simp only [go_sem, hset, List.set_set, List.length_set])
    | (
        refine AWP.here 9 33 3 rfl ?_
        refine AWP.loopM (ι := Nat × Array Po) [33, 34, 35, 36, 37, 38, 39, 40, 41, 42, 43, 44, 45, 46, 47, 48] (fun ⟨x, e2⟩ => [(7, i64 x), (8, i64 ((x + 2 * s : Nat) : Int))]) (fun ⟨x, e2⟩ => ow.set id (some (rowP e2 m))) (fun ⟨x, e2⟩ => tk) (fun ⟨x, e2⟩ => x ≤ N ∧ e2.size = N ∧ Go.Stb.mrgP ltP N s x (x + 2 * s) e2 = Go.Stb.mrgP ltP N s 0 (2 * s) e) (fun ⟨x, e2⟩ => N - x) ((0, e)) ?_ ?_ ?_
        · (try simp only [go_sem]); (try rw [Nat.zero_add]); (try simp only [List.set_set, List.length_set]); (repeat' (first | assumption | exact OwnBel.wk (hob _) | exact wkK_self | exact .inr ⟨rfl, decide_eq_true hid⟩ | exact .inr (decide_eq_true hid) | refine And.intro ?_ ?_ | exact .inl rfl | exact .inr rfl | exact .inr ⟨rfl, rfl⟩ | trivial | exact .inr (oblA rfl) | exact .inr ⟨rfl, oblA rfl⟩ | exact .inr bel_strs | exact .inr ⟨rfl, bel_strs⟩ | exact .inr ⟨by simp, bel_strs⟩ | (simp; done) | exact .inr ⟨rfl, by simp⟩ | exact .inr ⟨by simp, by simp⟩)); done
        · exact ⟨by omega, j3, by rw [Nat.zero_add]⟩
        rintro ⟨x, e2⟩ ⟨k1, k2, k3⟩
        simp only [go_sem, hset, List.set_set, List.length_set])
    | (
        refine ⟨(x + 20, Go.Sort.insertionSort ltP e x (x + 20)), ?_, ?_, ?_⟩
        · (try simp only [go_sem]); (try rw [wrap64_id (by omega) (by omega)]); (try simp only [List.set_set, List.length_set]); (repeat' (first | assumption | exact OwnBel.wk (hob _) | exact wkK_self | exact .inr ⟨rfl, decide_eq_true hid⟩ | exact .inr (decide_eq_true hid) | refine And.intro ?_ ?_ | exact .inl rfl | exact .inr rfl | exact .inr ⟨rfl, rfl⟩ | trivial | exact .inr (oblA rfl) | exact .inr ⟨rfl, oblA rfl⟩ | exact .inr bel_strs | exact .inr ⟨rfl, bel_strs⟩ | exact .inr ⟨by simp, bel_strs⟩ | (simp; done) | exact .inr ⟨rfl, by simp⟩ | exact .inr ⟨by simp, by simp⟩)); done
        · (try dsimp only); exact ⟨by omega, by rw [isort_size (by omega) (by omega)]; exact g2, (insB_step (by omega)).symm.trans g3⟩
        · (try simp only []); omega)
    | (
        refine ⟨(s * 2, Go.Stb.mrgP ltP N s 0 (2 * s) e), ?_, ?_, ?_⟩
        · (try simp only [go_sem]); (try rw [wrap64_id (by omega) (by omega)]); (try simp only [List.set_set, List.length_set]); (repeat' (first | assumption | exact OwnBel.wk (hob _) | exact wkK_self | exact .inr ⟨rfl, decide_eq_true hid⟩ | exact .inr (decide_eq_true hid) | refine And.intro ?_ ?_ | exact .inl rfl | exact .inr rfl | exact .inr ⟨rfl, rfl⟩ | trivial | exact .inr (oblA rfl) | exact .inr ⟨rfl, oblA rfl⟩ | exact .inr bel_strs | exact .inr ⟨rfl, bel_strs⟩ | exact .inr ⟨by simp, bel_strs⟩ | (simp; done) | exact .inr ⟨rfl, by simp⟩ | exact .inr ⟨by simp, by simp⟩)); done
        · (try dsimp only); exact ⟨by omega, by omega, z3, (mrgL_step (by omega) (by omega)).symm.trans j4⟩
        · (try simp only []); omega)
    | (
        refine ⟨(x + 2 * s, Go.Stb.symM ltP x (x + s) (x + 2 * s) e2), ?_, ?_, ?_⟩
        · (try simp only [go_sem]); (try rw [wrap64_id (by omega) (by omega)]); (try simp only [List.set_set, List.length_set]); (repeat' (first | assumption | exact OwnBel.wk (hob _) | exact wkK_self | exact .inr ⟨rfl, decide_eq_true hid⟩ | exact .inr (decide_eq_true hid) | refine And.intro ?_ ?_ | exact .inl rfl | exact .inr rfl | exact .inr ⟨rfl, rfl⟩ | trivial | exact .inr (oblA rfl) | exact .inr ⟨rfl, oblA rfl⟩ | exact .inr bel_strs | exact .inr ⟨rfl, bel_strs⟩ | exact .inr ⟨by simp, bel_strs⟩ | (simp; done) | exact .inr ⟨rfl, by simp⟩ | exact .inr ⟨by simp, by simp⟩)); done
        · (try dsimp only); exact ⟨by omega, by rw [symM_size]; exact k2, (mrgP_step (by omega) (by omega)).symm.trans k3⟩
        · (try simp only []); omega)
    | (
        refine AWP.ret ?_
        (try simp only [inb_ret, athen_ret])
        (try simp only [List.set_set])
        exact hBr _ _ rfl)
    | (refine hBn _ _ ?_; unfold Go.Stb.stable; rw [hN, he1, ← j4, mrgL_stop (by omega)]; done)
    | (exfalso; omega)
    | refine AWP.fin (by assumption) ?_
    | fail)

set_option maxRecDepth 100000 in
set_option maxHeartbeats 16000000 in
theorem ssf_call {ops : Array Oper} {l0 : List Oper} {Q : Exit → St → Prop} {tmps up : List AV} {gl : Nat → Option (List AV)} {own : List (Option (List AV))} {tk : List Nat} {dst : Option Tmp} {x0 x1 : Operand} {tys : Array TypeId} {ty : TypeId} {pos : String} {after : Array Edge} {id m N : Nat} {d : Array Po} 
    (hx0 : St.ev ⟨tmps, own, tk, gl, none, up⟩ x0 = .mu id 5 0 N (N + m))
    (hx1 : St.ev ⟨tmps, own, tk, gl, none, up⟩ x1 = .fn 23 [])
    (ho : own[id]? = some (some (rowP d m)))
    (hbu : (tmps ++ up).all (AV.bel own.length tk.length) = true)
    (hbo : OwnBel own own.length tk.length)
    (hl : N ≤ 1000000)
    (hN : d.size = N)
    (hend : AWPL E ops l0 Q (St.put ⟨tmps, own.set id (some (rowP (Go.Stb.stable ltP d) m)), tk, gl, none, up⟩ dst (.tup []))) : AWPL E ops (⟨dst, .call ⟨.value (.func 22), #[x0, x1], tys⟩, ty, pos, after, none⟩ :: l0) Q ⟨tmps, own, tk, gl, none, up⟩ := by
  have hid := lt_of_get ho
  obtain ⟨ow, how⟩ : ∃ ow : List (Option (List AV)), own = ow.set id (some (rowP d m)) := ⟨own, (set_same ho).symm⟩
  subst how
  rw [List.length_set] at hid
  have hob : ∀ d' : Array Po, OwnBel (ow.set id (some (rowP d' m))) ow.length tk.length := fun d' => by
    have := hbo.set (id := id) (bel_rowP d' m); rwa [List.set_set, List.length_set] at this
  have hob2 : ∀ d' : Array Po, OwnBel (ow.set id (some (rowP d' m))) (ow.set id (some (rowP d' m))).length tk.length := fun d' => by rw [List.length_set]; exact hob d'
  rw [List.length_set] at hbu
  simp only [List.set_set] at hend
  refine AWPL.call (caps := []) (rs := []) Try.func22 rfl Try.ntmps22 rfl (by kernel_rfl) rfl rfl ?_
  show AWP E _ _ ⟨([St.ev _ x0, St.ev _ x1] ++ []) ++ List.replicate (9 - 2) (.v undef), _, tk, gl, none, tmps ++ up⟩
  rw [hx0, hx1]
  have hBn : ∀ (tm : List AV) (d' : Array Po), d' = Go.Stb.stable ltP d → AInPost E.P [] ⟨tmps, ow.set id (some (rowP d m)), tk, gl, none, up⟩ (fun s z => AWPL E ops l0 Q (s.put dst z)) .normal ⟨tm, ow.set id (some (rowP d' m)), tk, gl, none, tmps ++ up⟩ := fun tm d' e => by subst e; exact ⟨rfl, hend⟩
  have hBr : ∀ (tm : List AV) (d' : Array Po), d' = Go.Stb.stable ltP d → AInPost E.P [] ⟨tmps, ow.set id (some (rowP d m)), tk, gl, none, up⟩ (fun s z => AWPL E ops l0 Q (s.put dst z)) .ret ⟨tm, ow.set id (some (rowP d' m)), tk, gl, none, tmps ++ up⟩ := fun tm d' e => by subst e; exact ⟨rfl, hend⟩
  generalize AInPost E.P [] ⟨tmps, ow.set id (some (rowP d m)), tk, gl, none, up⟩ (fun s z => AWPL E ops l0 Q (s.put dst z)) = Q1 at hBn hBr ⊢
  generalize tmps ++ up = up' at hbu hBn hBr ⊢
  clear hend ho hbo hx0 hx1
  have hset : ∀ x, (ow.set id x)[id]? = some x := fun x => List.getElem?_set_self hid
  repeat' (first
    | refine AWP.seqk fun K hK => ?_
    | (
        refine AWP.here 0 4 5 rfl ?_
        refine AWP.regionL ?_
        refine AWPL.at 5 4 rfl ?_
        simp only [go_sem, hset, List.set_set, List.length_set]
        (repeat (refine ⟨⟨_, rfl⟩, ?_⟩))
        refine stb_call (id := id) (m := m) (N := N) (d := d) (by rfl) (by rfl) (by rfl) (hset _) (by simp only [List.length_set, List.all_append, hbu, List.all_cons, List.all_nil, List.cons_append, List.nil_append, AV.bel, AV.bel2, AV.bel1, decide_eq_true hid, Bool.and_true, Bool.true_and, List.all_replicate]) (hob2 _) hl (by first | assumption | omega)  ?_
        simp only [go_sem, hset, List.set_set, List.length_set]
        refine AWPL.of ?_
        (try simp only [go_sem, hset, List.set_set, List.length_set]))
    | (refine AWP.region ?_; simp only [go_sem, hset, List.set_set, List.length_set])
    | (refine hK _ ?_; clear hK K)
    | refine AWP.block ?_
    | refine AWP.cond rfl (fun c => ?_) (fun c => ?_) <;> first | exact Bool.noConfusion c | (try simp only [dD] at c)
    | refine AWP.skip ?_
    | (refine AWP.exit ?_; simp only [go_sem, hset, List.set_set, List.length_set])
    | (refine ACall.one (stb_call ) (by kernel_rfl) rfl ?_; simp only [go_sem, hset, List.set_set, List.length_set])
    | (refine AGet.haveM (by assumption) ?_; (try simp only [go_sem, hset, List.set_set, List.length_set]))
    | (refine AGet.have' (by assumption) ?_; (try simp only [go_sem, hset, List.set_set, List.length_set]))
    | ((first | refine AGet.nth ?_ (fun b hb => ?_) | refine AGet.nth1 ?_ (fun b hb => ?_) | with_reducible refine And.intro ?_ ?_); (focus (first | omega | assumption | exact List.length_pos_iff.2 (by assumption) | (simp only [List.length_append, List.length_cons, List.length_nil, List.length_map, List.length_take, List.length_drop] at *; omega) | (rw [wrap64_id (by omega) (by omega)]; omega) | (simp; done) | (simp [spare_len]; done) | (exact ⟨by omega, by omega⟩))); (try simp only [hb, go_sem, hset, List.set_set, List.length_set]))
    | (
        refine AWP.ret ?_
        (try simp only [inb_ret, athen_ret])
        (try simp only [List.set_set])
        exact hBr _ _ rfl)
    | (exact hBn _ _ rfl)
    | refine AWP.fin (by assumption) ?_
    | fail)


end Go.Proofs.Ytajeeghgiilhiaa
