import Derived.Test.YtajeeghgiilhiaaG1
import Derived.Test.YtajeeghgiilhiaaQ3
import Derived.Test.YtajeeghgiilhiaaQ22
import Derived.Test.YtajeeghgiilhiaaLt
import Derived.Test.YtajeeghgiilhiaaMr
import Derived.Test.YtajeeghgiilhiaaLr
import Derived.Test.YtajeeghgiilhiaaLn
set_option linter.unusedVariables false
set_option linter.unusedSimpArgs false
namespace Go.Proofs.Ytajeeghgiilhiaa
open Go Go.Abs Go.RowKit Go.Bk
theorem set_same {α : Type} {l : List α} {i : Nat} {x : α} (h : l[i]? = some x) : l.set i x = l := by
  obtain ⟨hi, rfl⟩ := List.getElem?_eq_some_iff.1 h
  exact List.set_getElem_self hi
def rowP (d : Array Po) (m : Nat) : List AV := d.toList.map poV ++ spare 5 m
theorem row_get {d : Array Po} {m i : Nat} (h : i < d.size) : (rowP d m)[i]? = some (poV d[i]!) := by
  unfold rowP
  rw [List.getElem?_append_left (by simpa using h), List.getElem?_map, Array.getElem?_toList, Array.getElem?_eq_getElem h, getElem!_pos d i h]; rfl
theorem row_set {d : Array Po} {m i : Nat} {x : Po} (h : i < d.size) : (rowP d m).set i (poV x) = rowP (d.setIfInBounds i x) m := by
  unfold rowP
  rw [List.set_append_left _ _ (by simpa using h), Array.toList_setIfInBounds, List.map_set]
theorem row_swp {d : Array Po} {m i j : Nat} (hi : i < d.size) (hj : j < d.size) : ((rowP d m).set i (poV d[j]!)).set j (poV d[i]!) = rowP (Go.Sort.swp d i j) m := by
  rw [row_set hi, row_set (by rw [Array.size_setIfInBounds]; exact hj)]; rfl
theorem bel_rowP {no nt : Nat} (d : Array Po) (m : Nat) : ∀ e ∈ rowP d m, ∀ z ∈ e.leaves, z.bel no nt = true := by
  unfold rowP
  exact bel_row (f := poV) (l := d.toList) (fun x z hz => by
    simp only [AV.leaves, List.mem_cons, List.not_mem_nil, or_false] at hz
    rcases hz with rfl | rfl | rfl | rfl | rfl <;> rfl) _ rfl
section
variable {u v n i j lo hi mi : Nat} {d : Array Po}
theorem swpR_step (h : i < n) : Go.Stb.swpR u v n i d = Go.Stb.swpR u v n (i + 1) (Go.Sort.swp d (u + i) (v + i)) := by
  rw [Go.Stb.swpR, if_pos h]
theorem swpR_stop (h : n ≤ i) : Go.Stb.swpR u v n i d = d := by
  rw [Go.Stb.swpR, if_neg (by omega)]
theorem rotL_gt (h1 : 0 < j) (h : j < i) : Go.Stb.rotL mi i j d = Go.Stb.rotL mi (i - j) j (Go.Stb.swpR (mi - i) mi j 0 d) := by
  rw [Go.Stb.rotL, dif_neg (by omega), if_neg (by omega), if_pos h]
theorem rotL_lt (h1 : 0 < i) (h : i < j) : Go.Stb.rotL mi i j d = Go.Stb.rotL mi i (j - i) (Go.Stb.swpR (mi - i) (mi + j - i) i 0 d) := by
  rw [Go.Stb.rotL, dif_neg (by omega), if_neg (by omega), if_neg (by omega)]
theorem rotL_eq (h1 : 0 < i) (h : i = j) : Go.Stb.rotL mi i j d = Go.Stb.swpR (mi - i) mi i 0 d := by
  rw [Go.Stb.rotL, dif_neg (by omega), if_pos h]
theorem insO_step (h : i < hi) : Go.Sort.insOuter ltP lo hi i d = Go.Sort.insOuter ltP lo hi (i + 1) (Go.Sort.insInner ltP lo i d) := by
  rw [Go.Sort.insOuter, if_pos h]
theorem insO_stop (h : hi ≤ i) : Go.Sort.insOuter ltP lo hi i d = d := by
  rw [Go.Sort.insOuter, if_neg (by omega)]
theorem ins_stop1 (h : j ≤ lo) : Go.Sort.insInner ltP lo j d = d := by
  cases j with
  | zero => rfl
  | succ j => rw [Go.Sort.insInner, if_neg (by simp; omega)]
theorem ltP_iff {p q : Po} : ltP p q = true ↔ cmpN (nmP p) (nmP q) < 0 := by unfold ltP ltN; exact decide_eq_true_iff
theorem ins_stop2 (h : ¬ cmpN (nmP d[j]!) (nmP d[j - 1]!) < 0) : Go.Sort.insInner ltP lo j d = d := by
  cases j with
  | zero => rfl
  | succ j =>
    rw [Go.Sort.insInner, if_neg]
    rw [← ltP_iff] at h
    simp only [Nat.add_sub_cancel] at h
    simp [h]
theorem ins_step (h : lo < j) (hl : cmpN (nmP d[j]!) (nmP d[j - 1]!) < 0) : Go.Sort.insInner ltP lo j d = Go.Sort.insInner ltP lo (j - 1) (Go.Sort.swp d j (j - 1)) := by
  cases j with
  | zero => omega
  | succ j =>
    rw [← ltP_iff] at hl
    simp only [Nat.add_sub_cancel] at hl ⊢
    rw [Go.Sort.insInner, if_pos (by simp [hl]; omega)]
end

set_option maxHeartbeats 4000000 in
set_option maxRecDepth 8000 in
theorem cor2_c (x y : Int) : ACalls E 40 [.sl none 1 [i64 x, i64 y]] (fun r t => r = i64 (if x ≠ 0 then x else y) ∧ t = []) := by -- cmp.Or[int]
  refine ACalls.of_awp (n := 18) (rs := [.tmp 2]) Try.func40 rfl Try.ntmps40 rfl ?_
  repeat' (first
    | refine AWP.seqk fun K hK => ?_
    | (
        refine AWP.here 4 10 3 rfl ?_
        obtain ⟨z, hz2, hzz⟩ : ∃ z, ([i64 x, i64 y] : List AV)[i]? = some (i64 z) ∧ (i = 0 ∧ z = x ∨ i = 1 ∧ z = y) := by
          rcases i with _ | _ | i
          · exact ⟨x, rfl, .inl ⟨rfl, rfl⟩⟩
          · exact ⟨y, rfl, .inr ⟨rfl, rfl⟩⟩
          · exfalso; omega
        refine AWP.region ?_; simp only [go_sem, hz2])
    | (refine AWP.region ?_; simp only [go_sem])
    | (refine hK _ ?_; clear hK K)
    | refine AWP.block ?_
    | refine AWP.cond rfl (fun c => ?_) (fun c => ?_) <;> first | exact Bool.noConfusion c | (try simp only [dD] at c)
    | refine AWP.skip ?_
    | (refine AWP.exit ?_; simp only [go_sem])
    | (refine AGet.haveM (by assumption) ?_; (try simp only [go_sem]))
    | (refine AGet.have' (by assumption) ?_; (try simp only [go_sem]))
    | ((first | refine AGet.nth ?_ (fun b hb => ?_) | refine AGet.nth1 ?_ (fun b hb => ?_) | with_reducible refine And.intro ?_ ?_); (focus (first | omega | assumption | exact List.length_pos_iff.2 (by assumption) | (simp only [List.length_append, List.length_cons, List.length_nil, List.length_map, List.length_take, List.length_drop] at *; omega) | (rw [wrap64_id (by omega) (by omega)]; omega) | (simp; done) | (simp [spare_len]; done) | (exact ⟨by omega, by omega⟩))); (try simp only [hb, go_sem]))
    | (
        refine AWP.here 3 9 1 rfl ?_
        refine AWP.loopN (ι := Nat) [2, 5, 9, 10, 11, 12, 13, 14, 15, 16] (fun (i : Nat) => [(8, i64 i)]) (fun (i : Nat) => i ≤ 2 ∧ (0 < i → x = 0) ∧ (1 < i → y = 0)) (fun (i : Nat) => 2 - i) (0) ?_ ?_ ?_
        · (try simp only [go_sem]); (repeat' (first | refine And.intro ?_ ?_ | exact .inl rfl | exact .inr rfl | exact .inr ⟨rfl, rfl⟩ | trivial | exact .inr (oblA rfl) | exact .inr ⟨rfl, oblA rfl⟩ | exact .inr bel_strs | exact .inr ⟨rfl, bel_strs⟩ | exact .inr ⟨by simp, bel_strs⟩ | (simp; done) | exact .inr ⟨rfl, by simp⟩ | exact .inr ⟨by simp, by simp⟩)); done
        · exact ⟨by omega, by omega, by omega⟩
        rintro i ⟨h1, h2, h3⟩
        simp only [go_sem])
    | (
        refine ⟨i + 1, ?_, ?_, ?_⟩
        · (try simp only [go_sem]); (try rw [wrap64_id (by omega) (by omega)]); (repeat' (first | refine And.intro ?_ ?_ | exact .inl rfl | exact .inr rfl | exact .inr ⟨rfl, rfl⟩ | trivial | exact .inr (oblA rfl) | exact .inr ⟨rfl, oblA rfl⟩ | exact .inr bel_strs | exact .inr ⟨rfl, bel_strs⟩ | exact .inr ⟨by simp, bel_strs⟩ | (simp; done) | exact .inr ⟨rfl, by simp⟩ | exact .inr ⟨by simp, by simp⟩)); done
        · (rcases hzz with ⟨rfl, rfl⟩ | ⟨rfl, rfl⟩ <;> exact ⟨by omega, by intros; first | assumption | omega, by intros; first | assumption | omega⟩)
        · (try simp only []); omega)
    | (
        refine AWP.ret ?_
        refine AEnd.is ?_; simp only [go_sem, out_v, out_s, out_n, v_int, v_bool, v_str] <;> (first | rfl | (rcases hzz with ⟨rfl, rfl⟩ | ⟨rfl, rfl⟩ <;> simp_all; done) | (have e1 := h2 (by omega); have e2 := h3 (by omega); subst e1; subst e2; rfl) | skip))
    | refine AWP.fin (by assumption) ?_
    | fail)

set_option maxHeartbeats 4000000 in
set_option maxRecDepth 8000 in
theorem byn_c (p q : Po) : ACalls E 23 [poV p, poV q] (fun r t => r = i64 (cmpN (nmP p) (nmP q)) ∧ t = []) := by -- checkroll/merge.byName
  refine ACalls.of_awp (n := 17) (rs := [.tmp 4]) Try.func23 rfl Try.ntmps23 rfl ?_
  repeat' (first
    | refine AWP.seqk fun K hK => ?_
    | (refine AWP.region ?_; simp only [go_sem])
    | (refine AWP.here 1 5 13 rfl ?_; refine AWP.regionO [0, 1, 2, 3, 5, 6, 7, 8, 4, 9, 10, 11, 12] [] (by kernel_rfl) (by kernel_rfl) rfl ?_; simp only [go_sem])
    | (refine hK _ ?_; clear hK K)
    | refine AWP.block ?_
    | refine AWP.cond rfl (fun c => ?_) (fun c => ?_) <;> first | exact Bool.noConfusion c | (try simp only [dD] at c)
    | refine AWP.skip ?_
    | (refine AWP.exit ?_; simp only [go_sem])
    | (refine ACall.one (ccmpg_c p.acc q.acc) (by kernel_rfl) rfl ?_; simp only [go_sem])
    | (refine ACall.one (ccmpg_c p.sym q.sym) (by kernel_rfl) rfl ?_; simp only [go_sem])
    | (refine ACall.one (cor2_c (cmpS p.acc q.acc) (cmpS p.sym q.sym)) (by kernel_rfl) rfl ?_; simp only [go_sem])
    | (refine AGet.haveM (by assumption) ?_; (try simp only [go_sem]))
    | (refine AGet.have' (by assumption) ?_; (try simp only [go_sem]))
    | ((first | refine AGet.nth ?_ (fun b hb => ?_) | refine AGet.nth1 ?_ (fun b hb => ?_) | with_reducible refine And.intro ?_ ?_); (focus (first | omega | assumption | exact List.length_pos_iff.2 (by assumption) | (simp only [List.length_append, List.length_cons, List.length_nil, List.length_map, List.length_take, List.length_drop] at *; omega) | (rw [wrap64_id (by omega) (by omega)]; omega) | (simp; done) | (simp [spare_len]; done) | (exact ⟨by omega, by omega⟩))); (try simp only [hb, go_sem]))
    | (
        refine AWP.ret ?_
        refine AEnd.is ?_; simp only [go_sem, out_v, out_s, out_n, v_int, v_bool, v_str] <;> (first | rfl | (simp [cmpN, nmP]; done) | skip))
    | refine AWP.fin (by assumption) ?_
    | fail)

set_option maxRecDepth 100000 in
set_option maxHeartbeats 16000000 in
theorem swr_call {ops : Array Oper} {l0 : List Oper} {Q : Exit → St → Prop} {tmps up : List AV} {gl : Nat → Option (List AV)} {own : List (Option (List AV))} {tk : List Nat} {dst : Option Tmp} {x0 x1 x2 x3 x4 : Operand} {tys : Array TypeId} {ty : TypeId} {pos : String} {after : Array Edge} {id m N : Nat} {d : Array Po} {u v n : Nat}
    (hx0 : St.ev ⟨tmps, own, tk, gl, none, up⟩ x0 = .mu id 5 0 N (N + m))
    (hx1 : St.ev ⟨tmps, own, tk, gl, none, up⟩ x1 = i64 (u : Int))
    (hx2 : St.ev ⟨tmps, own, tk, gl, none, up⟩ x2 = i64 (v : Int))
    (hx3 : St.ev ⟨tmps, own, tk, gl, none, up⟩ x3 = i64 (n : Int))
    (hx4 : St.ev ⟨tmps, own, tk, gl, none, up⟩ x4 = .fn 23 [])
    (ho : own[id]? = some (some (rowP d m)))
    (hbu : (tmps ++ up).all (AV.bel own.length tk.length) = true)
    (hbo : OwnBel own own.length tk.length)
    (hl : N ≤ 1000000)
    (hN : d.size = N)
    (hu : u + n ≤ N)
    (hv : v + n ≤ N)
    (hend : AWPL E ops l0 Q (St.put ⟨tmps, own.set id (some (rowP (Go.Stb.swpR u v n 0 d) m)), tk, gl, none, up⟩ dst (.tup []))) : AWPL E ops (⟨dst, .call ⟨.value (.func 97), #[x0, x1, x2, x3, x4], tys⟩, ty, pos, after, none⟩ :: l0) Q ⟨tmps, own, tk, gl, none, up⟩ := by
  have hid := lt_of_get ho
  obtain ⟨ow, how⟩ : ∃ ow : List (Option (List AV)), own = ow.set id (some (rowP d m)) := ⟨own, (set_same ho).symm⟩
  subst how
  rw [List.length_set] at hid
  have hob : ∀ d' : Array Po, OwnBel (ow.set id (some (rowP d' m))) ow.length tk.length := fun d' => by
    have := hbo.set (id := id) (bel_rowP d' m); rwa [List.set_set, List.length_set] at this
  have hob2 : ∀ d' : Array Po, OwnBel (ow.set id (some (rowP d' m))) (ow.set id (some (rowP d' m))).length tk.length := fun d' => by rw [List.length_set]; exact hob d'
  rw [List.length_set] at hbu
  simp only [List.set_set] at hend
  refine AWPL.call (caps := []) (rs := []) Try.func97 rfl Try.ntmps97 rfl (by kernel_rfl) rfl rfl ?_
  show AWP E _ _ ⟨([St.ev _ x0, St.ev _ x1, St.ev _ x2, St.ev _ x3, St.ev _ x4] ++ []) ++ List.replicate (38 - 5) (.v undef), _, tk, gl, none, tmps ++ up⟩
  rw [hx0, hx1, hx2, hx3, hx4]
  have hBn : ∀ (tm : List AV) (d' : Array Po), d' = Go.Stb.swpR u v n 0 d → AInPost E.P [] ⟨tmps, ow.set id (some (rowP d m)), tk, gl, none, up⟩ (fun s z => AWPL E ops l0 Q (s.put dst z)) .normal ⟨tm, ow.set id (some (rowP d' m)), tk, gl, none, tmps ++ up⟩ := fun tm d' e => by subst e; exact ⟨rfl, hend⟩
  have hBr : ∀ (tm : List AV) (d' : Array Po), d' = Go.Stb.swpR u v n 0 d → AInPost E.P [] ⟨tmps, ow.set id (some (rowP d m)), tk, gl, none, up⟩ (fun s z => AWPL E ops l0 Q (s.put dst z)) .ret ⟨tm, ow.set id (some (rowP d' m)), tk, gl, none, tmps ++ up⟩ := fun tm d' e => by subst e; exact ⟨rfl, hend⟩
  generalize AInPost E.P [] ⟨tmps, ow.set id (some (rowP d m)), tk, gl, none, up⟩ (fun s z => AWPL E ops l0 Q (s.put dst z)) = Q1 at hBn hBr ⊢
  generalize tmps ++ up = up' at hbu hBn hBr ⊢
  clear hend ho hbo hx0 hx1 hx2 hx3 hx4
  have hset : ∀ x, (ow.set id x)[id]? = some x := fun x => List.getElem?_set_self hid
  repeat' (first
    | refine AWP.seqk fun K hK => ?_
    | (
        refine AWP.here 3 16 24 rfl ?_
        have w1 : IntKind.i64.wrap ((u : Int) + i) = ((u + i : Nat) : Int) := by rw [wrap64_id (by omega) (by omega)]; omega
        have w2 : IntKind.i64.wrap ((v : Int) + i) = ((v + i : Nat) : Int) := by rw [wrap64_id (by omega) (by omega)]; omega
        have g1 : (rowP e m)[u + i]? = some (poV e[u + i]!) := row_get (by omega)
        have g2 : (rowP e m)[v + i]? = some (poV e[v + i]!) := row_get (by omega)
        have g3 : ((rowP e m).set (u + i) (poV e[v + i]!))[v + i]? = some (poV (e.setIfInBounds (u + i) e[v + i]!)[v + i]!) := by rw [row_set (by omega)]; exact row_get (by rw [Array.size_setIfInBounds]; omega)
        have g4 : ((rowP e m).set (u + i) (poV e[v + i]!)).set (v + i) (poV e[u + i]!) = rowP (Go.Sort.swp e (u + i) (v + i)) m := row_swp (by omega) (by omega)
        refine AWP.regionAs [0, 1, 2, 3, 4, 5, 6, 7, 8, 9, 10, 11, 12, 13, 14, 15, 16, 17, 18, 19, 20, 21, 22, 23] [[], [], [], [1, 2], [], [], [], [5, 6], [], [], [], [9, 10], [8, 9, 10, 11], [8, 9, 10, 11, 12], [], [], [], [15, 16], [14, 15, 16, 17], [14, 15, 16, 17, 18], [0, 1, 2, 3, 8, 9, 10, 11, 12, 13, 14, 15, 16, 17, 18, 19], [0, 1, 2, 3, 8, 9, 10, 11, 12, 13, 14, 15, 16, 17, 18, 19, 20], [0, 1, 2, 3, 4, 5, 6, 7, 8, 9, 10, 11, 12, 13, 14, 15, 16, 17, 18, 19, 20, 21], [0, 1, 2, 3, 4, 5, 6, 7, 8, 9, 10, 11, 12, 13, 14, 15, 16, 17, 18, 19, 20, 21, 22]] [] (by kernel_rfl) (by kernel_rfl) (by decide) rfl ?_; simp only [go_sem, hset, List.set_set, List.length_set, w1, w2, g1, g2, g3, g4, Int.toNat_natCast, hset, List.set_set])
    | (refine AWP.region ?_; simp only [go_sem, hset, List.set_set, List.length_set])
    | (refine AWP.here 3 16 24 rfl ?_; refine AWP.regionAs [0, 1, 2, 3, 4, 5, 6, 7, 8, 9, 10, 11, 12, 13, 14, 15, 16, 17, 18, 19, 20, 21, 22, 23] [[], [], [], [1, 2], [], [], [], [5, 6], [], [], [], [9, 10], [8, 9, 10, 11], [8, 9, 10, 11, 12], [], [], [], [15, 16], [14, 15, 16, 17], [14, 15, 16, 17, 18], [0, 1, 2, 3, 8, 9, 10, 11, 12, 13, 14, 15, 16, 17, 18, 19], [0, 1, 2, 3, 8, 9, 10, 11, 12, 13, 14, 15, 16, 17, 18, 19, 20], [0, 1, 2, 3, 4, 5, 6, 7, 8, 9, 10, 11, 12, 13, 14, 15, 16, 17, 18, 19, 20, 21], [0, 1, 2, 3, 4, 5, 6, 7, 8, 9, 10, 11, 12, 13, 14, 15, 16, 17, 18, 19, 20, 21, 22]] [] (by kernel_rfl) (by kernel_rfl) (by decide) rfl ?_; simp only [go_sem, hset, List.set_set, List.length_set])
    | (refine hK _ ?_; clear hK K)
    | refine AWP.block ?_
    | refine AWP.cond rfl (fun c => ?_) (fun c => ?_) <;> first | exact Bool.noConfusion c | (try simp only [dD] at c)
    | refine AWP.skip ?_
    | (refine AWP.exit ?_; simp only [go_sem, hset, List.set_set, List.length_set])
    | (refine AGet.haveM (by assumption) ?_; (try simp only [go_sem, hset, List.set_set, List.length_set]))
    | (refine AGet.have' (by assumption) ?_; (try simp only [go_sem, hset, List.set_set, List.length_set]))
    | ((first | refine AGet.nth ?_ (fun b hb => ?_) | refine AGet.nth1 ?_ (fun b hb => ?_) | with_reducible refine And.intro ?_ ?_); (focus (first | omega | assumption | exact List.length_pos_iff.2 (by assumption) | (simp only [List.length_append, List.length_cons, List.length_nil, List.length_map, List.length_take, List.length_drop] at *; omega) | (rw [wrap64_id (by omega) (by omega)]; omega) | (simp; done) | (simp [spare_len]; done) | (exact ⟨by omega, by omega⟩))); (try simp only [hb, go_sem, hset, List.set_set, List.length_set]))
    | (
        refine AWP.here 1 11 3 rfl ?_
        refine AWP.loopM (ι := Nat × Array Po) [11, 12, 13, 14, 15, 16, 17, 18, 19, 20, 21, 22, 23, 24, 25, 26, 27, 28, 29, 30, 31, 32, 33, 34, 35, 36, 37] (fun ⟨i, e⟩ => [(10, i64 i)]) (fun ⟨i, e⟩ => ow.set id (some (rowP e m))) (fun ⟨i, e⟩ => tk) (fun ⟨i, e⟩ => i ≤ n ∧ e.size = N ∧ Go.Stb.swpR u v n i e = Go.Stb.swpR u v n 0 d) (fun ⟨i, e⟩ => n - i) ((0, d)) ?_ ?_ ?_
        · (try simp only [go_sem]); (try simp only [List.set_set, List.length_set]); (repeat' (first | assumption | exact OwnBel.wk (hob _) | exact wkK_self | exact .inr ⟨rfl, decide_eq_true hid⟩ | exact .inr (decide_eq_true hid) | refine And.intro ?_ ?_ | exact .inl rfl | exact .inr rfl | exact .inr ⟨rfl, rfl⟩ | trivial | exact .inr (oblA rfl) | exact .inr ⟨rfl, oblA rfl⟩ | exact .inr bel_strs | exact .inr ⟨rfl, bel_strs⟩ | exact .inr ⟨by simp, bel_strs⟩ | (simp; done) | exact .inr ⟨rfl, by simp⟩ | exact .inr ⟨by simp, by simp⟩)); done
        · exact ⟨by omega, hN, rfl⟩
        rintro ⟨i, e⟩ ⟨h1, h2, h3⟩
        simp only [go_sem, hset, List.set_set, List.length_set])
    | (
        refine ⟨(i + 1, Go.Sort.swp e (u + i) (v + i)), ?_, ?_, ?_⟩
        · (try simp only [go_sem]); (try rw [wrap64_id (by omega) (by omega)]); (try simp only [List.set_set, List.length_set]); (repeat' (first | assumption | exact OwnBel.wk (hob _) | exact wkK_self | exact .inr ⟨rfl, decide_eq_true hid⟩ | exact .inr (decide_eq_true hid) | refine And.intro ?_ ?_ | exact .inl rfl | exact .inr rfl | exact .inr ⟨rfl, rfl⟩ | trivial | exact .inr (oblA rfl) | exact .inr ⟨rfl, oblA rfl⟩ | exact .inr bel_strs | exact .inr ⟨rfl, bel_strs⟩ | exact .inr ⟨by simp, bel_strs⟩ | (simp; done) | exact .inr ⟨rfl, by simp⟩ | exact .inr ⟨by simp, by simp⟩)); done
        · (try dsimp only); exact ⟨by omega, by rw [Go.Sort.swp_size]; exact h2, (swpR_step (by omega)).symm.trans h3⟩
        · (try simp only []); omega)
    | (
        refine AWP.ret ?_
        (try simp only [inb_ret, athen_ret])
        (try simp only [List.set_set])
        exact hBr _ _ rfl)
    | (exact hBn _ _ (by rw [← h3, swpR_stop (by omega)]))
    | refine AWP.fin (by assumption) ?_
    | fail)

set_option maxRecDepth 100000 in
set_option maxHeartbeats 16000000 in
theorem rot_call {ops : Array Oper} {l0 : List Oper} {Q : Exit → St → Prop} {tmps up : List AV} {gl : Nat → Option (List AV)} {own : List (Option (List AV))} {tk : List Nat} {dst : Option Tmp} {x0 x1 x2 x3 x4 : Operand} {tys : Array TypeId} {ty : TypeId} {pos : String} {after : Array Edge} {id m N : Nat} {d : Array Po} {lo mi hi : Nat}
    (hx0 : St.ev ⟨tmps, own, tk, gl, none, up⟩ x0 = .mu id 5 0 N (N + m))
    (hx1 : St.ev ⟨tmps, own, tk, gl, none, up⟩ x1 = i64 (lo : Int))
    (hx2 : St.ev ⟨tmps, own, tk, gl, none, up⟩ x2 = i64 (mi : Int))
    (hx3 : St.ev ⟨tmps, own, tk, gl, none, up⟩ x3 = i64 (hi : Int))
    (hx4 : St.ev ⟨tmps, own, tk, gl, none, up⟩ x4 = .fn 23 [])
    (ho : own[id]? = some (some (rowP d m)))
    (hbu : (tmps ++ up).all (AV.bel own.length tk.length) = true)
    (hbo : OwnBel own own.length tk.length)
    (hl : N ≤ 1000000)
    (hN : d.size = N)
    (h1 : lo < mi)
    (h2 : mi < hi)
    (h3 : hi ≤ N)
    (hend : AWPL E ops l0 Q (St.put ⟨tmps, own.set id (some (rowP (Go.Stb.rotL mi (mi - lo) (hi - mi) d) m)), tk, gl, none, up⟩ dst (.tup []))) : AWPL E ops (⟨dst, .call ⟨.value (.func 88), #[x0, x1, x2, x3, x4], tys⟩, ty, pos, after, none⟩ :: l0) Q ⟨tmps, own, tk, gl, none, up⟩ := by
  have hid := lt_of_get ho
  obtain ⟨ow, how⟩ : ∃ ow : List (Option (List AV)), own = ow.set id (some (rowP d m)) := ⟨own, (set_same ho).symm⟩
  subst how
  rw [List.length_set] at hid
  have hob : ∀ d' : Array Po, OwnBel (ow.set id (some (rowP d' m))) ow.length tk.length := fun d' => by
    have := hbo.set (id := id) (bel_rowP d' m); rwa [List.set_set, List.length_set] at this
  have hob2 : ∀ d' : Array Po, OwnBel (ow.set id (some (rowP d' m))) (ow.set id (some (rowP d' m))).length tk.length := fun d' => by rw [List.length_set]; exact hob d'
  rw [List.length_set] at hbu
  simp only [List.set_set] at hend
  refine AWPL.call (caps := []) (rs := []) Try.func88 rfl Try.ntmps88 rfl (by kernel_rfl) rfl rfl ?_
  show AWP E _ _ ⟨([St.ev _ x0, St.ev _ x1, St.ev _ x2, St.ev _ x3, St.ev _ x4] ++ []) ++ List.replicate (58 - 5) (.v undef), _, tk, gl, none, tmps ++ up⟩
  rw [hx0, hx1, hx2, hx3, hx4]
  have hBn : ∀ (tm : List AV) (d' : Array Po), d' = Go.Stb.rotL mi (mi - lo) (hi - mi) d → AInPost E.P [] ⟨tmps, ow.set id (some (rowP d m)), tk, gl, none, up⟩ (fun s z => AWPL E ops l0 Q (s.put dst z)) .normal ⟨tm, ow.set id (some (rowP d' m)), tk, gl, none, tmps ++ up⟩ := fun tm d' e => by subst e; exact ⟨rfl, hend⟩
  have hBr : ∀ (tm : List AV) (d' : Array Po), d' = Go.Stb.rotL mi (mi - lo) (hi - mi) d → AInPost E.P [] ⟨tmps, ow.set id (some (rowP d m)), tk, gl, none, up⟩ (fun s z => AWPL E ops l0 Q (s.put dst z)) .ret ⟨tm, ow.set id (some (rowP d' m)), tk, gl, none, tmps ++ up⟩ := fun tm d' e => by subst e; exact ⟨rfl, hend⟩
  generalize AInPost E.P [] ⟨tmps, ow.set id (some (rowP d m)), tk, gl, none, up⟩ (fun s z => AWPL E ops l0 Q (s.put dst z)) = Q1 at hBn hBr ⊢
  generalize tmps ++ up = up' at hbu hBn hBr ⊢
  clear hend ho hbo hx0 hx1 hx2 hx3 hx4
  have hset : ∀ x, (ow.set id x)[id]? = some x := fun x => List.getElem?_set_self hid
  repeat' (first
    | refine AWP.seqk fun K hK => ?_
    | (
        refine AWP.here 0 12 4 rfl ?_
        have w0 : IntKind.i64.wrap ((mi : Int) - lo) = ((mi - lo : Nat) : Int) := by rw [wrap64_id (by omega) (by omega)]; omega
        refine AWP.region ?_; simp only [go_sem, hset, List.set_set, List.length_set, w0])
    | (
        refine AWP.here 1 15 4 rfl ?_
        have w0 : IntKind.i64.wrap ((hi : Int) - mi) = ((hi - mi : Nat) : Int) := by rw [wrap64_id (by omega) (by omega)]; omega
        refine AWP.region ?_; simp only [go_sem, hset, List.set_set, List.length_set, w0])
    | (
        refine AWP.here 5 32 4 rfl ?_
        have w0 : IntKind.i64.wrap ((i : Int) - j) = ((i - j : Nat) : Int) := by rw [wrap64_id (by omega) (by omega)]; omega
        refine AWP.region ?_; simp only [go_sem, hset, List.set_set, List.length_set, w0])
    | (
        refine AWP.here 7 47 4 rfl ?_
        have w0 : IntKind.i64.wrap ((j : Int) - i) = ((j - i : Nat) : Int) := by rw [wrap64_id (by omega) (by omega)]; omega
        refine AWP.region ?_; simp only [go_sem, hset, List.set_set, List.length_set, w0])
    | (
        refine AWP.here 4 24 8 rfl ?_
        have w0 : IntKind.i64.wrap ((mi : Int) - i) = ((mi - i : Nat) : Int) := by rw [wrap64_id (by omega) (by omega)]; omega
        refine AWP.regionL ?_
        refine AWPL.at 8 7 rfl ?_
        simp only [go_sem, hset, List.set_set, List.length_set, w0]
        refine swr_call (id := id) (m := m) (N := N) (d := e) (u := mi - i) (v := mi) (n := j) (by rfl) (by rfl) (by rfl) (by rfl) (by rfl) (hset _) (by simp only [List.length_set, List.all_append, hbu, List.all_cons, List.all_nil, List.cons_append, List.nil_append, AV.bel, AV.bel2, AV.bel1, decide_eq_true hid, Bool.and_true, Bool.true_and, List.all_replicate]) (hob2 _) hl (by first | assumption | omega) (by omega) (by omega) ?_
        simp only [go_sem, hset, List.set_set, List.length_set, w0]
        refine AWPL.of ?_
        (try simp only [go_sem, hset, List.set_set, List.length_set, w0]))
    | (
        refine AWP.here 6 35 12 rfl ?_
        have w0 : IntKind.i64.wrap ((mi : Int) - i) = ((mi - i : Nat) : Int) := by rw [wrap64_id (by omega) (by omega)]; omega
        have w1 : IntKind.i64.wrap ((mi : Int) + j) = ((mi + j : Nat) : Int) := by rw [wrap64_id (by omega) (by omega)]; omega
        have w2 : IntKind.i64.wrap (((mi + j : Nat) : Int) - i) = ((mi + j - i : Nat) : Int) := by rw [wrap64_id (by omega) (by omega)]; omega
        refine AWP.regionL ?_
        refine AWPL.at 12 11 rfl ?_
        simp only [go_sem, hset, List.set_set, List.length_set, w0, w1, w2]
        refine swr_call (id := id) (m := m) (N := N) (d := e) (u := mi - i) (v := mi + j - i) (n := i) (by rfl) (by rfl) (by rfl) (by rfl) (by rfl) (hset _) (by simp only [List.length_set, List.all_append, hbu, List.all_cons, List.all_nil, List.cons_append, List.nil_append, AV.bel, AV.bel2, AV.bel1, decide_eq_true hid, Bool.and_true, Bool.true_and, List.all_replicate]) (hob2 _) hl (by first | assumption | omega) (by omega) (by omega) ?_
        simp only [go_sem, hset, List.set_set, List.length_set, w0, w1, w2]
        refine AWPL.of ?_
        (try simp only [go_sem, hset, List.set_set, List.length_set, w0, w1, w2]))
    | (
        refine AWP.here 8 50 8 rfl ?_
        have w0 : IntKind.i64.wrap ((mi : Int) - i) = ((mi - i : Nat) : Int) := by rw [wrap64_id (by omega) (by omega)]; omega
        refine AWP.regionL ?_
        refine AWPL.at 8 7 rfl ?_
        simp only [go_sem, hset, List.set_set, List.length_set, w0]
        refine swr_call (id := id) (m := m) (N := N) (d := e) (u := mi - i) (v := mi) (n := i) (by rfl) (by rfl) (by rfl) (by rfl) (by rfl) (hset _) (by simp only [List.length_set, List.all_append, hbu, List.all_cons, List.all_nil, List.cons_append, List.nil_append, AV.bel, AV.bel2, AV.bel1, decide_eq_true hid, Bool.and_true, Bool.true_and, List.all_replicate]) (hob2 _) hl (by first | assumption | omega) (by omega) (by omega) ?_
        simp only [go_sem, hset, List.set_set, List.length_set, w0]
        refine AWPL.of ?_
        (try simp only [go_sem, hset, List.set_set, List.length_set, w0]))
    | (refine AWP.region ?_; simp only [go_sem, hset, List.set_set, List.length_set])
    | (refine hK _ ?_; clear hK K)
    | refine AWP.block ?_
    | refine AWP.cond rfl (fun c => ?_) (fun c => ?_) <;> first | exact Bool.noConfusion c | (try simp only [dD] at c)
    | refine AWP.skip ?_
    | (refine AWP.exit ?_; simp only [go_sem, hset, List.set_set, List.length_set])
    | (refine ACall.one (swr_call ) (by kernel_rfl) rfl ?_; simp only [go_sem, hset, List.set_set, List.length_set])
    | (refine AGet.haveM (by assumption) ?_; (try simp only [go_sem, hset, List.set_set, List.length_set]))
    | (refine AGet.have' (by assumption) ?_; (try simp only [go_sem, hset, List.set_set, List.length_set]))
    | ((first | refine AGet.nth ?_ (fun b hb => ?_) | refine AGet.nth1 ?_ (fun b hb => ?_) | with_reducible refine And.intro ?_ ?_); (focus (first | omega | assumption | exact List.length_pos_iff.2 (by assumption) | (simp only [List.length_append, List.length_cons, List.length_nil, List.length_map, List.length_take, List.length_drop] at *; omega) | (rw [wrap64_id (by omega) (by omega)]; omega) | (simp; done) | (simp [spare_len]; done) | (exact ⟨by omega, by omega⟩))); (try simp only [hb, go_sem, hset, List.set_set, List.length_set]))
    | (
        refine AWP.here 2 18 3 rfl ?_
        refine AWP.loopM (ι := Nat × Nat × Array Po) [18, 19, 20, 21, 22, 23, 24, 25, 26, 27, 28, 29, 30, 31, 32, 33, 34, 35, 36, 37, 38, 39, 40, 41, 42, 43, 44, 45, 46, 47, 48, 49] (fun ⟨i, j, e⟩ => [(10, i64 i), (11, i64 j)]) (fun ⟨i, j, e⟩ => ow.set id (some (rowP e m))) (fun ⟨i, j, e⟩ => tk) (fun ⟨i, j, e⟩ => 0 < i ∧ 0 < j ∧ i ≤ mi ∧ mi + j ≤ N ∧ e.size = N ∧ Go.Stb.rotL mi i j e = Go.Stb.rotL mi (mi - lo) (hi - mi) d) (fun ⟨i, j, e⟩ => i + j) ((mi - lo, hi - mi, d)) ?_ ?_ ?_
        · (try simp only [go_sem]); (try simp only [List.set_set, List.length_set]); (repeat' (first | assumption | exact OwnBel.wk (hob _) | exact wkK_self | exact .inr ⟨rfl, decide_eq_true hid⟩ | exact .inr (decide_eq_true hid) | refine And.intro ?_ ?_ | exact .inl rfl | exact .inr rfl | exact .inr ⟨rfl, rfl⟩ | trivial | exact .inr (oblA rfl) | exact .inr ⟨rfl, oblA rfl⟩ | exact .inr bel_strs | exact .inr ⟨rfl, bel_strs⟩ | exact .inr ⟨by simp, bel_strs⟩ | (simp; done) | exact .inr ⟨rfl, by simp⟩ | exact .inr ⟨by simp, by simp⟩)); done
        · exact ⟨by omega, by omega, by omega, by omega, hN, rfl⟩
        rintro ⟨i, j, e⟩ ⟨g1, g2, g3, g4, g5, g6⟩
        simp only [go_sem, hset, List.set_set, List.length_set])
    | (
        refine ⟨(i - j, j, Go.Stb.swpR (mi - i) mi j 0 e), ?_, ?_, ?_⟩
        · (try simp only [go_sem]); (try rw [wrap64_id (by omega) (by omega)]); (try simp only [List.set_set, List.length_set]); (repeat' (first | assumption | exact OwnBel.wk (hob _) | exact wkK_self | exact .inr ⟨rfl, decide_eq_true hid⟩ | exact .inr (decide_eq_true hid) | refine And.intro ?_ ?_ | exact .inl rfl | exact .inr rfl | exact .inr ⟨rfl, rfl⟩ | trivial | exact .inr (oblA rfl) | exact .inr ⟨rfl, oblA rfl⟩ | exact .inr bel_strs | exact .inr ⟨rfl, bel_strs⟩ | exact .inr ⟨by simp, bel_strs⟩ | (simp; done) | exact .inr ⟨rfl, by simp⟩ | exact .inr ⟨by simp, by simp⟩)); done
        · (try dsimp only); exact ⟨by omega, by omega, by omega, by omega, by rw [Go.Stb.swpR_size _ _ _ _ _ _ rfl]; exact g5, by first | exact (rotL_gt (by omega) (by omega)).symm.trans g6 | exact (rotL_lt (by omega) (by omega)).symm.trans g6⟩
        · (try simp only []); omega)
    | (
        refine ⟨(i, j - i, Go.Stb.swpR (mi - i) (mi + j - i) i 0 e), ?_, ?_, ?_⟩
        · (try simp only [go_sem]); (try rw [wrap64_id (by omega) (by omega)]); (try simp only [List.set_set, List.length_set]); (repeat' (first | assumption | exact OwnBel.wk (hob _) | exact wkK_self | exact .inr ⟨rfl, decide_eq_true hid⟩ | exact .inr (decide_eq_true hid) | refine And.intro ?_ ?_ | exact .inl rfl | exact .inr rfl | exact .inr ⟨rfl, rfl⟩ | trivial | exact .inr (oblA rfl) | exact .inr ⟨rfl, oblA rfl⟩ | exact .inr bel_strs | exact .inr ⟨rfl, bel_strs⟩ | exact .inr ⟨by simp, bel_strs⟩ | (simp; done) | exact .inr ⟨rfl, by simp⟩ | exact .inr ⟨by simp, by simp⟩)); done
        · (try dsimp only); exact ⟨by omega, by omega, by omega, by omega, by rw [Go.Stb.swpR_size _ _ _ _ _ _ rfl]; exact g5, by first | exact (rotL_gt (by omega) (by omega)).symm.trans g6 | exact (rotL_lt (by omega) (by omega)).symm.trans g6⟩
        · (try simp only []); omega)
    | (
        refine AWP.ret ?_
        (try simp only [inb_ret, athen_ret])
        (try simp only [List.set_set])
        exact hBr _ _ rfl)
    | (exact hBn _ _ (by rw [← g6, rotL_eq (by omega) (by omega)]))
    | refine AWP.fin (by assumption) ?_
    | fail)

set_option maxRecDepth 100000 in
set_option maxHeartbeats 16000000 in
theorem isr_call {ops : Array Oper} {l0 : List Oper} {Q : Exit → St → Prop} {tmps up : List AV} {gl : Nat → Option (List AV)} {own : List (Option (List AV))} {tk : List Nat} {dst : Option Tmp} {x0 x1 x2 x3 : Operand} {tys : Array TypeId} {ty : TypeId} {pos : String} {after : Array Edge} {id m N : Nat} {d : Array Po} {lo hi : Nat}
    (hx0 : St.ev ⟨tmps, own, tk, gl, none, up⟩ x0 = .mu id 5 0 N (N + m))
    (hx1 : St.ev ⟨tmps, own, tk, gl, none, up⟩ x1 = i64 (lo : Int))
    (hx2 : St.ev ⟨tmps, own, tk, gl, none, up⟩ x2 = i64 (hi : Int))
    (hx3 : St.ev ⟨tmps, own, tk, gl, none, up⟩ x3 = .fn 23 [])
    (ho : own[id]? = some (some (rowP d m)))
    (hbu : (tmps ++ up).all (AV.bel own.length tk.length) = true)
    (hbo : OwnBel own own.length tk.length)
    (hl : N ≤ 1000000)
    (hN : d.size = N)
    (h1 : lo ≤ hi)
    (h2 : hi ≤ N)
    (hend : AWPL E ops l0 Q (St.put ⟨tmps, own.set id (some (rowP (Go.Sort.insertionSort ltP d lo hi) m)), tk, gl, none, up⟩ dst (.tup []))) : AWPL E ops (⟨dst, .call ⟨.value (.func 63), #[x0, x1, x2, x3], tys⟩, ty, pos, after, none⟩ :: l0) Q ⟨tmps, own, tk, gl, none, up⟩ := by
  have hid := lt_of_get ho
  obtain ⟨ow, how⟩ : ∃ ow : List (Option (List AV)), own = ow.set id (some (rowP d m)) := ⟨own, (set_same ho).symm⟩
  subst how
  rw [List.length_set] at hid
  have hob : ∀ d' : Array Po, OwnBel (ow.set id (some (rowP d' m))) ow.length tk.length := fun d' => by
    have := hbo.set (id := id) (bel_rowP d' m); rwa [List.set_set, List.length_set] at this
  have hob2 : ∀ d' : Array Po, OwnBel (ow.set id (some (rowP d' m))) (ow.set id (some (rowP d' m))).length tk.length := fun d' => by rw [List.length_set]; exact hob d'
  rw [List.length_set] at hbu
  simp only [List.set_set] at hend
  refine AWPL.call (caps := []) (rs := []) Try.func63 rfl Try.ntmps63 rfl (by kernel_rfl) rfl rfl ?_
  show AWP E _ _ ⟨([St.ev _ x0, St.ev _ x1, St.ev _ x2, St.ev _ x3] ++ []) ++ List.replicate (53 - 4) (.v undef), _, tk, gl, none, tmps ++ up⟩
  rw [hx0, hx1, hx2, hx3]
  have hBn : ∀ (tm : List AV) (d' : Array Po), d' = Go.Sort.insertionSort ltP d lo hi → AInPost E.P [] ⟨tmps, ow.set id (some (rowP d m)), tk, gl, none, up⟩ (fun s z => AWPL E ops l0 Q (s.put dst z)) .normal ⟨tm, ow.set id (some (rowP d' m)), tk, gl, none, tmps ++ up⟩ := fun tm d' e => by subst e; exact ⟨rfl, hend⟩
  have hBr : ∀ (tm : List AV) (d' : Array Po), d' = Go.Sort.insertionSort ltP d lo hi → AInPost E.P [] ⟨tmps, ow.set id (some (rowP d m)), tk, gl, none, up⟩ (fun s z => AWPL E ops l0 Q (s.put dst z)) .ret ⟨tm, ow.set id (some (rowP d' m)), tk, gl, none, tmps ++ up⟩ := fun tm d' e => by subst e; exact ⟨rfl, hend⟩
  generalize AInPost E.P [] ⟨tmps, ow.set id (some (rowP d m)), tk, gl, none, up⟩ (fun s z => AWPL E ops l0 Q (s.put dst z)) = Q1 at hBn hBr ⊢
  generalize tmps ++ up = up' at hbu hBn hBr ⊢
  clear hend ho hbo hx0 hx1 hx2 hx3
  have hset : ∀ x, (ow.set id x)[id]? = some x := fun x => List.getElem?_set_self hid
  repeat' (first
    | refine AWP.seqk fun K hK => ?_
    | (
        refine AWP.here 0 10 3 rfl ?_
        have w0 : IntKind.i64.wrap ((lo : Int) + 1) = ((lo + 1 : Nat) : Int) := by rw [wrap64_id (by omega) (by omega)]; omega
        refine AWP.region ?_; simp only [go_sem, hset, List.set_set, List.length_set, w0])
    | (
        refine AWP.here 6 37 18 rfl ?_
        have w0 : IntKind.i64.wrap ((j : Int) - 1) = ((j - 1 : Nat) : Int) := by rw [wrap64_id (by omega) (by omega)]; omega
        have g1 : (rowP e2 m)[j]? = some (poV e2[j]!) := row_get (by omega)
        have g2 : (rowP e2 m)[j - 1]? = some (poV e2[j - 1]!) := row_get (by omega)
        have g3 : ((rowP e2 m).set (j) (poV e2[j - 1]!))[j - 1]? = some (poV (e2.setIfInBounds (j) e2[j - 1]!)[j - 1]!) := by rw [row_set (by omega)]; exact row_get (by rw [Array.size_setIfInBounds]; omega)
        have g4 : ((rowP e2 m).set (j) (poV e2[j - 1]!)).set (j - 1) (poV e2[j]!) = rowP (Go.Sort.swp e2 (j) (j - 1)) m := row_swp (by omega) (by omega)
        refine AWP.regionO [0, 1, 2, 3, 4, 5, 6, 7, 8, 9, 10, 11, 12, 13, 14, 15, 16, 17] [] (by kernel_rfl) (by kernel_rfl) rfl ?_; simp only [go_sem, hset, List.set_set, List.length_set, w0, g1, g2, g3, g4, Int.toNat_natCast, hset, List.set_set])
    | (
        refine AWP.here 5 35 3 rfl ?_
        have w0 : IntKind.i64.wrap ((j : Int) - 1) = ((j - 1 : Nat) : Int) := by rw [wrap64_id (by omega) (by omega)]; omega
        refine AWP.region ?_; simp only [go_sem, hset, List.set_set, List.length_set, w0])
    | (
        refine AWP.here 4 18 17 rfl ?_
        rcases Nat.lt_or_ge lo j with hlj | hlj
        rotate_left
        refine AWP.regionO [0, 1, 2, 3, 4, 5, 6, 7, 8, 9, 10, 11, 12, 13, 14, 15, 16] [] (by kernel_rfl) (by kernel_rfl) rfl ?_; simp only [go_sem, hset, List.set_set, List.length_set]
        rotate_left
        have w0 : IntKind.i64.wrap ((j : Int) - 1) = ((j - 1 : Nat) : Int) := by rw [wrap64_id (by omega) (by omega)]; omega
        have g1 : (rowP e2 m)[j]? = some (poV e2[j]!) := row_get (by omega)
        have g2 : (rowP e2 m)[(IntKind.i64.wrap ((j : Int) - 1)).toNat]? = some (poV e2[j - 1]!) := by rw [w0, Int.toNat_natCast]; exact row_get (by omega)
        refine AWP.regionO [0, 1, 2, 3, 4, 5, 6, 7, 8, 9, 10, 11, 12, 13, 14, 15, 16] [] (by kernel_rfl) (by kernel_rfl) rfl ?_; simp only [go_sem, hset, List.set_set, List.length_set])
    | (refine AWP.region ?_; simp only [go_sem, hset, List.set_set, List.length_set])
    | (refine AWP.here 4 18 17 rfl ?_; refine AWP.regionO [0, 1, 2, 3, 4, 5, 6, 7, 8, 9, 10, 11, 12, 13, 14, 15, 16] [] (by kernel_rfl) (by kernel_rfl) rfl ?_; simp only [go_sem, hset, List.set_set, List.length_set])
    | (refine AWP.here 6 37 18 rfl ?_; refine AWP.regionO [0, 1, 2, 3, 4, 5, 6, 7, 8, 9, 10, 11, 12, 13, 14, 15, 16, 17] [] (by kernel_rfl) (by kernel_rfl) rfl ?_; simp only [go_sem, hset, List.set_set, List.length_set])
    | (refine hK _ ?_; clear hK K)
    | refine AWP.block ?_
    | refine AWP.cond rfl (fun c => ?_) (fun c => ?_) <;> first | exact Bool.noConfusion c | (try simp only [dD] at c)
    | refine AWP.skip ?_
    | (refine AWP.exit ?_; simp only [go_sem, hset, List.set_set, List.length_set])
    | (refine ACall.one (byn_c _ _) (by kernel_rfl) rfl ?_; simp only [go_sem, hset, List.set_set, List.length_set])
    | (refine AGuard.splitN (fun h => ?_) (fun h => ?_) <;> simp only [h, go_sem, hset, List.set_set, List.length_set] <;> (try simp only [dD] at h))
    | (refine AGuard.split (fun h => ?_) (fun h => ?_) <;> simp only [h, go_sem, hset, List.set_set, List.length_set] <;> (try simp only [dD] at h))
    | (refine AGet.haveM (by assumption) ?_; (try simp only [go_sem, hset, List.set_set, List.length_set]))
    | (refine AGet.have' (by assumption) ?_; (try simp only [go_sem, hset, List.set_set, List.length_set]))
    | ((first | refine AGet.nth ?_ (fun b hb => ?_) | refine AGet.nth1 ?_ (fun b hb => ?_) | with_reducible refine And.intro ?_ ?_); (focus (first | omega | assumption | exact List.length_pos_iff.2 (by assumption) | (simp only [List.length_append, List.length_cons, List.length_nil, List.length_map, List.length_take, List.length_drop] at *; omega) | (rw [wrap64_id (by omega) (by omega)]; omega) | (simp; done) | (simp [spare_len]; done) | (exact ⟨by omega, by omega⟩))); (try simp only [hb, go_sem, hset, List.set_set, List.length_set]))
    | (
        refine AWP.here 1 12 3 rfl ?_
        refine AWP.loopM (ι := Nat × Array Po) [9, 12, 13, 14, 15, 16, 17, 18, 19, 20, 21, 22, 23, 24, 25, 26, 27, 28, 29, 30, 31, 32, 33, 34, 35, 36, 37, 38, 39, 40, 41, 42, 43, 44, 45, 46, 47, 48, 49, 50, 51, 52] (fun ⟨i, e⟩ => [(8, i64 i)]) (fun ⟨i, e⟩ => ow.set id (some (rowP e m))) (fun ⟨i, e⟩ => tk) (fun ⟨i, e⟩ => lo + 1 ≤ i ∧ i ≤ hi + 1 ∧ e.size = N ∧ Go.Sort.insOuter ltP lo hi i e = Go.Sort.insertionSort ltP d lo hi) (fun ⟨i, e⟩ => hi - i) ((lo + 1, d)) ?_ ?_ ?_
        · (try simp only [go_sem]); (try simp only [List.set_set, List.length_set]); (repeat' (first | assumption | exact OwnBel.wk (hob _) | exact wkK_self | exact .inr ⟨rfl, decide_eq_true hid⟩ | exact .inr (decide_eq_true hid) | refine And.intro ?_ ?_ | exact .inl rfl | exact .inr rfl | exact .inr ⟨rfl, rfl⟩ | trivial | exact .inr (oblA rfl) | exact .inr ⟨rfl, oblA rfl⟩ | exact .inr bel_strs | exact .inr ⟨rfl, bel_strs⟩ | exact .inr ⟨by simp, bel_strs⟩ | (simp; done) | exact .inr ⟨rfl, by simp⟩ | exact .inr ⟨by simp, by simp⟩)); done
        · exact ⟨by omega, by omega, hN, rfl⟩
        rintro ⟨i, e⟩ ⟨g1, g2, g3, g4⟩
        simp only [go_sem, hset, List.set_set, List.length_set])
    | (
        refine AWP.here 4 18 17 rfl ?_
        refine AWP.loopM (ι := Nat × Array Po) [18, 19, 20, 21, 22, 23, 24, 25, 26, 27, 28, 29, 30, 31, 32, 33, 34, 35, 36, 37, 38, 39, 40, 41, 42, 43, 44, 45, 46, 47, 48, 49, 50, 51, 52] (fun ⟨j, e2⟩ => [(9, i64 j)]) (fun ⟨j, e2⟩ => ow.set id (some (rowP e2 m))) (fun ⟨j, e2⟩ => tk) (fun ⟨j, e2⟩ => lo ≤ j ∧ j ≤ i ∧ e2.size = N ∧ Go.Sort.insInner ltP lo j e2 = Go.Sort.insInner ltP lo i e) (fun ⟨j, e2⟩ => j) ((i, e)) ?_ ?_ ?_
        · (try simp only [go_sem]); (try simp only [List.set_set, List.length_set]); (repeat' (first | assumption | exact OwnBel.wk (hob _) | exact wkK_self | exact .inr ⟨rfl, decide_eq_true hid⟩ | exact .inr (decide_eq_true hid) | refine And.intro ?_ ?_ | exact .inl rfl | exact .inr rfl | exact .inr ⟨rfl, rfl⟩ | trivial | exact .inr (oblA rfl) | exact .inr ⟨rfl, oblA rfl⟩ | exact .inr bel_strs | exact .inr ⟨rfl, bel_strs⟩ | exact .inr ⟨by simp, bel_strs⟩ | (simp; done) | exact .inr ⟨rfl, by simp⟩ | exact .inr ⟨by simp, by simp⟩)); done
        · exact ⟨by omega, by omega, g3, rfl⟩
        rintro ⟨j, e2⟩ ⟨k1, k2, k3, k4⟩
        simp only [go_sem, hset, List.set_set, List.length_set])
    | (
        refine ⟨(i + 1, e2), ?_, ?_, ?_⟩
        · (try simp only [go_sem]); (try rw [wrap64_id (by omega) (by omega)]); (try simp only [List.set_set, List.length_set]); (repeat' (first | assumption | exact OwnBel.wk (hob _) | exact wkK_self | exact .inr ⟨rfl, decide_eq_true hid⟩ | exact .inr (decide_eq_true hid) | refine And.intro ?_ ?_ | exact .inl rfl | exact .inr rfl | exact .inr ⟨rfl, rfl⟩ | trivial | exact .inr (oblA rfl) | exact .inr ⟨rfl, oblA rfl⟩ | exact .inr bel_strs | exact .inr ⟨rfl, bel_strs⟩ | exact .inr ⟨by simp, bel_strs⟩ | (simp; done) | exact .inr ⟨rfl, by simp⟩ | exact .inr ⟨by simp, by simp⟩)); done
        · (try dsimp only); exact ⟨by omega, by omega, k3, by rw [insO_step (by omega), ← k4] at g4; first | (rw [ins_stop1 (by omega)] at g4; exact g4) | (rw [ins_stop2 (by assumption)] at g4; exact g4)⟩
        · (try simp only []); omega)
    | (
        refine ⟨(j - 1, Go.Sort.swp e2 j (j - 1)), ?_, ?_, ?_⟩
        · (try simp only [go_sem]); (try rw [wrap64_id (by omega) (by omega)]); (try simp only [List.set_set, List.length_set]); (repeat' (first | assumption | exact OwnBel.wk (hob _) | exact wkK_self | exact .inr ⟨rfl, decide_eq_true hid⟩ | exact .inr (decide_eq_true hid) | refine And.intro ?_ ?_ | exact .inl rfl | exact .inr rfl | exact .inr ⟨rfl, rfl⟩ | trivial | exact .inr (oblA rfl) | exact .inr ⟨rfl, oblA rfl⟩ | exact .inr bel_strs | exact .inr ⟨rfl, bel_strs⟩ | exact .inr ⟨by simp, bel_strs⟩ | (simp; done) | exact .inr ⟨rfl, by simp⟩ | exact .inr ⟨by simp, by simp⟩)); done
        · (try dsimp only); exact ⟨by omega, by omega, by rw [Go.Sort.swp_size]; exact k3, (ins_step (by omega) (by assumption)).symm.trans k4⟩
        · (try simp only []); omega)
    | (
        refine AWP.ret ?_
        (try simp only [inb_ret, athen_ret])
        (try simp only [List.set_set])
        exact hBr _ _ rfl)
    | (exact hBn _ _ (by rw [← g4, insO_stop (by omega)]))
    | (exfalso; omega)
    | refine AWP.fin (by assumption) ?_
    | fail)


end Go.Proofs.Ytajeeghgiilhiaa
