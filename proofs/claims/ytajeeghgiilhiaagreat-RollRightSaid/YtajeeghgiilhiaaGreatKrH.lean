/- Texts of one chain, put together (T1, T2, T3, Lx, T4, Q13, Q14, Q15, Q16). -/
import Derived.Test.YtajeeghgiilhiaaGreatKrG
import Derived.Test.YtajeeghgiilhiaaGreatKrE
import Derived.Test.YtajeeghgiilhiaaGreatKrF
import Derived.Test.YtajeeghgiilhiaaGreatKrD
section
set_option linter.unusedVariables false
set_option linter.unusedSimpArgs false
namespace Go.Proofs.YtajeeghgiilhiaaGreat
open Go Go.Abs Go.RowKit Go.Bk
theorem set_same {α : Type} {l : List α} {i : Nat} {x : α} (h : l[i]? = some x) : l.set i x = l := by
  obtain ⟨hi, rfl⟩ := List.getElem?_eq_some_iff.1 h
  exact List.set_getElem_self hi
def rowP (d : Array Po) (m : Nat) : List AV := d.toList.map poV ++ spare 5 m
theorem row_get {d : Array Po} {m i : Nat} (h : i < d.size) : (rowP d m)[i]? = some (poV d[i]!) := by
  unfold rowP
  rw [List.getElem?_append_left (by simpa using h), List.getElem?_map, Array.getElem?_toList, Array.getElem?_eq_getElem h, getElem!_pos d i h]; rfl
theorem row_set {d : Array Po} {m i : Nat} {x : Po} (h : i < d.size) : (rowP d m).set i (poV x) = rowP (d.setIfInBounds i x) m := by
  unfold rowP
  rw [List.set_append_left _ _ (by simpa using h), Array.toList_setIfInBounds, List.map_set]
theorem row_swp {d : Array Po} {m i j : Nat} (hi : i < d.size) (hj : j < d.size) : ((rowP d m).set i (poV d[j]!)).set j (poV d[i]!) = rowP (Go.Sort.swp d i j) m := by
  rw [row_set hi, row_set (by rw [Array.size_setIfInBounds]; exact hj)]; rfl
theorem bel_rowP {no nt : Nat} (d : Array Po) (m : Nat) : ∀ e ∈ rowP d m, ∀ z ∈ e.leaves, z.bel no nt = true := by
  unfold rowP
  exact bel_row (f := poV) (l := d.toList) (fun x z hz => by
    simp only [AV.leaves, List.mem_cons, List.not_mem_nil, or_false] at hz
    rcases hz with rfl | rfl | rfl | rfl | rfl <;> rfl) _ rfl
section
variable {u v n i j lo hi mi : Nat} {d : Array Po}
theorem swpR_step (h : i < n) : Go.Stb.swpR u v n i d = Go.Stb.swpR u v n (i + 1) (Go.Sort.swp d (u + i) (v + i)) := by
  rw [Go.Stb.swpR, if_pos h]
theorem swpR_stop (h : n ≤ i) : Go.Stb.swpR u v n i d = d := by
  rw [Go.Stb.swpR, if_neg (by omega)]
theorem rotL_gt (h1 : 0 < j) (h : j < i) : Go.Stb.rotL mi i j d = Go.Stb.rotL mi (i - j) j (Go.Stb.swpR (mi - i) mi j 0 d) := by
  rw [Go.Stb.rotL, dif_neg (by omega), if_neg (by omega), if_pos h]
theorem rotL_lt (h1 : 0 < i) (h : i < j) : Go.Stb.rotL mi i j d = Go.Stb.rotL mi i (j - i) (Go.Stb.swpR (mi - i) (mi + j - i) i 0 d) := by
  rw [Go.Stb.rotL, dif_neg (by omega), if_neg (by omega), if_neg (by omega)]
theorem rotL_eq (h1 : 0 < i) (h : i = j) : Go.Stb.rotL mi i j d = Go.Stb.swpR (mi - i) mi i 0 d := by
  rw [Go.Stb.rotL, dif_neg (by omega), if_pos h]
theorem insO_step (h : i < hi) : Go.Sort.insOuter ltP lo hi i d = Go.Sort.insOuter ltP lo hi (i + 1) (Go.Sort.insInner ltP lo i d) := by
  rw [Go.Sort.insOuter, if_pos h]
theorem insO_stop (h : hi ≤ i) : Go.Sort.insOuter ltP lo hi i d = d := by
  rw [Go.Sort.insOuter, if_neg (by omega)]
theorem ins_stop1 (h : j ≤ lo) : Go.Sort.insInner ltP lo j d = d := by
  cases j with
  | zero => rfl
  | succ j => rw [Go.Sort.insInner, if_neg (by simp; omega)]
theorem ltP_iff {p q : Po} : ltP p q = true ↔ cmpN (nmP p) (nmP q) < 0 := by unfold ltP ltN; exact decide_eq_true_iff
theorem ins_stop2 (h : ¬ cmpN (nmP d[j]!) (nmP d[j - 1]!) < 0) : Go.Sort.insInner ltP lo j d = d := by
  cases j with
  | zero => rfl
  | succ j =>
    rw [Go.Sort.insInner, if_neg]
    rw [← ltP_iff] at h
    simp only [Nat.add_sub_cancel] at h
    simp [h]
theorem ins_step (h : lo < j) (hl : cmpN (nmP d[j]!) (nmP d[j - 1]!) < 0) : Go.Sort.insInner ltP lo j d = Go.Sort.insInner ltP lo (j - 1) (Go.Sort.swp d j (j - 1)) := by
  cases j with
  | zero => omega
  | succ j =>
    rw [← ltP_iff] at hl
    simp only [Nat.add_sub_cancel] at hl ⊢
    rw [Go.Sort.insInner, if_pos (by simp [hl]; omega)]
end

set_option maxHeartbeats 4000000 in
set_option maxRecDepth 8000 in
theorem cor2_c (x y : Int) : ACalls E 131 [.sl none 1 [i64 x, i64 y]] (fun r t => r = i64 (if x ≠ 0 then x else y) ∧ t = []) := by -- cmp.Or[int]
  refine ACalls.of_awp (n := 18) (rs := [.tmp 2]) Tryz.func131 rfl Tryz.ntmps131 rfl ?_
  repeat' (first
    | refine AWP.seqk fun K hK => ?_
    | (
        refine AWP.here 4 10 3 rfl ?_
        obtain ⟨z, hz2, hzz⟩ : ∃ z, ([i64 x, i64 y] : List AV)[i]? = some (i64 z) ∧ (i = 0 ∧ z = x ∨ i = 1 ∧ z = y) := by
          rcases i with _ | _ | i
          · exact ⟨x, rfl, .inl ⟨rfl, rfl⟩⟩
          · exact ⟨y, rfl, .inr ⟨rfl, rfl⟩⟩
          · exfalso; omega
        refine AWP.region ?_; simp only [go_sem, hz2])
    | (refine AWP.region ?_; simp only [go_sem])
    | (refine hK _ ?_; clear hK K)
    | refine AWP.block ?_
    | refine AWP.cond rfl (fun c => ?_) (fun c => ?_) <;> first | exact Bool.noConfusion c | (try simp only [dD] at c)
    | refine AWP.skip ?_
    | (refine AWP.exit ?_; simp only [go_sem])
    | (refine AGet.haveM (by assumption) ?_; (try simp only [go_sem]))
    | (refine AGet.have' (by assumption) ?_; (try simp only [go_sem]))
    | ((first | refine AGet.nth ?_ (fun b hb => ?_) | refine AGet.nth1 ?_ (fun b hb => ?_) | with_reducible refine And.intro ?_ ?_); (focus (first | omega | assumption | exact List.length_pos_iff.2 (by assumption) | (simp only [List.length_append, List.length_cons, List.length_nil, List.length_map, List.length_take, List.length_drop] at *; omega) | (rw [wrap64_id (by omega) (by omega)]; omega) | (simp; done) | (simp [spare_len]; done) | (exact ⟨by omega, by omega⟩))); (try simp only [hb, go_sem]))
    | (
        refine AWP.here 3 9 1 rfl ?_
        refine AWP.loopN (ι := Nat) [2, 5, 9, 10, 11, 12, 13, 14, 15, 16] (fun (i : Nat) => [(8, i64 i)]) (fun (i : Nat) => i ≤ 2 ∧ (0 < i → x = 0) ∧ (1 < i → y = 0)) (fun (i : Nat) => 2 - i) (0) ?_ ?_ ?_
        · (try simp only [go_sem]); (repeat' (first | refine And.intro ?_ ?_ | exact .inl rfl | exact .inr rfl | exact .inr ⟨rfl, rfl⟩ | trivial | exact .inr (oblA rfl) | exact .inr ⟨rfl, oblA rfl⟩ | exact .inr bel_strs | exact .inr ⟨rfl, bel_strs⟩ | exact .inr ⟨by simp, bel_strs⟩ | (simp; done) | exact .inr ⟨rfl, by simp⟩ | exact .inr ⟨by simp, by simp⟩)); done
        · exact ⟨by omega, by omega, by omega⟩
        rintro i ⟨h1, h2, h3⟩
        simp only [go_sem])
    | (
        refine ⟨i + 1, ?_, ?_, ?_⟩
        · (try simp only [go_sem]); (try rw [wrap64_id (by omega) (by omega)]); (repeat' (first | refine And.intro ?_ ?_ | exact .inl rfl | exact .inr rfl | exact .inr ⟨rfl, rfl⟩ | trivial | exact .inr (oblA rfl) | exact .inr ⟨rfl, oblA rfl⟩ | exact .inr bel_strs | exact .inr ⟨rfl, bel_strs⟩ | exact .inr ⟨by simp, bel_strs⟩ | (simp; done) | exact .inr ⟨rfl, by simp⟩ | exact .inr ⟨by simp, by simp⟩)); done
        · (rcases hzz with ⟨rfl, rfl⟩ | ⟨rfl, rfl⟩ <;> exact ⟨by omega, by intros; first | assumption | omega, by intros; first | assumption | omega⟩)
        · (try simp only []); omega)
    | (
        refine AWP.ret ?_
        refine AEnd.is ?_; simp only [go_sem, out_v, out_s, out_n, v_int, v_bool, v_str] <;> (first | rfl | (rcases hzz with ⟨rfl, rfl⟩ | ⟨rfl, rfl⟩ <;> simp_all; done) | (have e1 := h2 (by omega); have e2 := h3 (by omega); subst e1; subst e2; rfl) | skip))
    | refine AWP.fin (by assumption) ?_
    | fail)

set_option maxHeartbeats 4000000 in
set_option maxRecDepth 8000 in
theorem byn_c (p q : Po) : ACalls E 104 [poV p, poV q] (fun r t => r = i64 (cmpN (nmP p) (nmP q)) ∧ t = []) := by -- checkroll/merge.byName
  refine ACalls.of_awp (n := 17) (rs := [.tmp 4]) Tryz.func104 rfl Tryz.ntmps104 rfl ?_
  repeat' (first
    | refine AWP.seqk fun K hK => ?_
    | (refine AWP.region ?_; simp only [go_sem])
    | (refine AWP.here 1 5 13 rfl ?_; refine AWP.regionO [0, 1, 2, 3, 5, 6, 7, 8, 4, 9, 10, 11, 12] [] (by kernel_rfl) (by kernel_rfl) rfl ?_; simp only [go_sem])
    | (refine hK _ ?_; clear hK K)
    | refine AWP.block ?_
    | refine AWP.cond rfl (fun c => ?_) (fun c => ?_) <;> first | exact Bool.noConfusion c | (try simp only [dD] at c)
    | refine AWP.skip ?_
    | (refine AWP.exit ?_; simp only [go_sem])
    | (refine ACall.one (ccmpg_c p.acc q.acc) (by kernel_rfl) rfl ?_; simp only [go_sem])
    | (refine ACall.one (ccmpg_c p.sym q.sym) (by kernel_rfl) rfl ?_; simp only [go_sem])
    | (refine ACall.one (cor2_c (cmpS p.acc q.acc) (cmpS p.sym q.sym)) (by kernel_rfl) rfl ?_; simp only [go_sem])
    | (refine AGet.haveM (by assumption) ?_; (try simp only [go_sem]))
    | (refine AGet.have' (by assumption) ?_; (try simp only [go_sem]))
    | ((first | refine AGet.nth ?_ (fun b hb => ?_) | refine AGet.nth1 ?_ (fun b hb => ?_) | with_reducible refine And.intro ?_ ?_); (focus (first | omega | assumption | exact List.length_pos_iff.2 (by assumption) | (simp only [List.length_append, List.length_cons, List.length_nil, List.length_map, List.length_take, List.length_drop] at *; omega) | (rw [wrap64_id (by omega) (by omega)]; omega) | (simp; done) | (simp [spare_len]; done) | (exact ⟨by omega, by omega⟩))); (try simp only [hb, go_sem]))
    | (
        refine AWP.ret ?_
        refine AEnd.is ?_; simp only [go_sem, out_v, out_s, out_n, v_int, v_bool, v_str] <;> (first | rfl | (simp [cmpN, nmP]; done) | skip))
    | refine AWP.fin (by assumption) ?_
    | fail)

set_option maxRecDepth 100000 in
set_option maxHeartbeats 16000000 in
theorem swr_call {ops : Array Oper} {l0 : List Oper} {Q : Exit → St → Prop} {tmps up : List AV} {gl : Nat → Option (List AV)} {own : List (Option (List AV))} {tk : List Nat} {dst : Option Tmp} {x0 x1 x2 x3 x4 : Operand} {tys : Array TypeId} {ty : TypeId} {pos : String} {after : Array Edge} {id m N : Nat} {d : Array Po} {u v n : Nat}
    (hx0 : St.ev ⟨tmps, own, tk, gl, none, up⟩ x0 = .mu id 5 0 N (N + m))
    (hx1 : St.ev ⟨tmps, own, tk, gl, none, up⟩ x1 = i64 (u : Int))
    (hx2 : St.ev ⟨tmps, own, tk, gl, none, up⟩ x2 = i64 (v : Int))
    (hx3 : St.ev ⟨tmps, own, tk, gl, none, up⟩ x3 = i64 (n : Int))
    (hx4 : St.ev ⟨tmps, own, tk, gl, none, up⟩ x4 = .fn 104 [])
    (ho : own[id]? = some (some (rowP d m)))
    (hbu : (tmps ++ up).all (AV.bel own.length tk.length) = true)
    (hbo : OwnBel own own.length tk.length)
    (hl : N ≤ 1000000)
    (hN : d.size = N)
    (hu : u + n ≤ N)
    (hv : v + n ≤ N)
    (hend : AWPL E ops l0 Q (St.put ⟨tmps, own.set id (some (rowP (Go.Stb.swpR u v n 0 d) m)), tk, gl, none, up⟩ dst (.tup []))) : AWPL E ops (⟨dst, .call ⟨.value (.func 259), #[x0, x1, x2, x3, x4], tys⟩, ty, pos, after, none⟩ :: l0) Q ⟨tmps, own, tk, gl, none, up⟩ := by
  have hid := lt_of_get ho
  obtain ⟨ow, how⟩ : ∃ ow : List (Option (List AV)), own = ow.set id (some (rowP d m)) := ⟨own, (set_same ho).symm⟩
  subst how
  rw [List.length_set] at hid
  have hob : ∀ d' : Array Po, OwnBel (ow.set id (some (rowP d' m))) ow.length tk.length := fun d' => by
    have := hbo.set (id := id) (bel_rowP d' m); rwa [List.set_set, List.length_set] at this
  have hob2 : ∀ d' : Array Po, OwnBel (ow.set id (some (rowP d' m))) (ow.set id (some (rowP d' m))).length tk.length := fun d' => by rw [List.length_set]; exact hob d'
  rw [List.length_set] at hbu
  simp only [List.set_set] at hend
  refine AWPL.call (caps := []) (rs := []) Tryz.func259 rfl Tryz.ntmps259 rfl (by kernel_rfl) rfl rfl ?_
  show AWP E _ _ ⟨([St.ev _ x0, St.ev _ x1, St.ev _ x2, St.ev _ x3, St.ev _ x4] ++ []) ++ List.replicate (38 - 5) (.v undef), _, tk, gl, none, tmps ++ up⟩
  rw [hx0, hx1, hx2, hx3, hx4]
  have hBn : ∀ (tm : List AV) (d' : Array Po), d' = Go.Stb.swpR u v n 0 d → AInPost E.P [] ⟨tmps, ow.set id (some (rowP d m)), tk, gl, none, up⟩ (fun s z => AWPL E ops l0 Q (s.put dst z)) .normal ⟨tm, ow.set id (some (rowP d' m)), tk, gl, none, tmps ++ up⟩ := fun tm d' e => by subst e; exact ⟨rfl, hend⟩
  have hBr : ∀ (tm : List AV) (d' : Array Po), d' = Go.Stb.swpR u v n 0 d → AInPost E.P [] ⟨tmps, ow.set id (some (rowP d m)), tk, gl, none, up⟩ (fun s z => AWPL E ops l0 Q (s.put dst z)) .ret ⟨tm, ow.set id (some (rowP d' m)), tk, gl, none, tmps ++ up⟩ := fun tm d' e => by subst e; exact ⟨rfl, hend⟩
  generalize AInPost E.P [] ⟨tmps, ow.set id (some (rowP d m)), tk, gl, none, up⟩ (fun s z => AWPL E ops l0 Q (s.put dst z)) = Q1 at hBn hBr ⊢
  generalize tmps ++ up = up' at hbu hBn hBr ⊢
  clear hend ho hbo hx0 hx1 hx2 hx3 hx4
  have hset : ∀ x, (ow.set id x)[id]? = some x := fun x => List.getElem?_set_self hid
  repeat' (first
    | refine AWP.seqk fun K hK => ?_
    | (
        refine AWP.here 3 16 24 rfl ?_
        have w1 : IntKind.i64.wrap ((u : Int) + i) = ((u + i : Nat) : Int) := by rw [wrap64_id (by omega) (by omega)]; omega
        have w2 : IntKind.i64.wrap ((v : Int) + i) = ((v + i : Nat) : Int) := by rw [wrap64_id (by omega) (by omega)]; omega
        have g1 : (rowP e m)[u + i]? = some (poV e[u + i]!) := row_get (by omega)
        have g2 : (rowP e m)[v + i]? = some (poV e[v + i]!) := row_get (by omega)
        have g3 : ((rowP e m).set (u + i) (poV e[v + i]!))[v + i]? = some (poV (e.setIfInBounds (u + i) e[v + i]!)[v + i]!) := by rw [row_set (by omega)]; exact row_get (by rw [Array.size_setIfInBounds]; omega)
        have g4 : ((rowP e m).set (u + i) (poV e[v + i]!)).set (v + i) (poV e[u + i]!) = rowP (Go.Sort.swp e (u + i) (v + i)) m := row_swp (by omega) (by omega)
        refine AWP.regionAs [0, 1, 2, 3, 4, 5, 6, 7, 8, 9, 10, 11, 12, 13, 14, 15, 16, 17, 18, 19, 20, 21, 22, 23] [[], [], [], [1, 2], [], [], [], [5, 6], [], [], [], [9, 10], [8, 9, 10, 11], [8, 9, 10, 11, 12], [], [], [], [15, 16], [14, 15, 16, 17], [14, 15, 16, 17, 18], [0, 1, 2, 3, 8, 9, 10, 11, 12, 13, 14, 15, 16, 17, 18, 19], [0, 1, 2, 3, 8, 9, 10, 11, 12, 13, 14, 15, 16, 17, 18, 19, 20], [0, 1, 2, 3, 4, 5, 6, 7, 8, 9, 10, 11, 12, 13, 14, 15, 16, 17, 18, 19, 20, 21], [0, 1, 2, 3, 4, 5, 6, 7, 8, 9, 10, 11, 12, 13, 14, 15, 16, 17, 18, 19, 20, 21, 22]] [] (by kernel_rfl) (by kernel_rfl) (by decide) rfl ?_; simp only [go_sem, hset, List.set_set, List.length_set, w1, w2, g1, g2, g3, g4, Int.toNat_natCast, hset, List.set_set])
    | (refine AWP.region ?_; simp only [go_sem, hset, List.set_set, List.length_set])
    | (refine AWP.here 3 16 24 rfl ?_; refine AWP.regionAs [0, 1, 2, 3, 4, 5, 6, 7, 8, 9, 10, 11, 12, 13, 14, 15, 16, 17, 18, 19, 20, 21, 22, 23] [[], [], [], [1, 2], [], [], [], [5, 6], [], [], [], [9, 10], [8, 9, 10, 11], [8, 9, 10, 11, 12], [], [], [], [15, 16], [14, 15, 16, 17], [14, 15, 16, 17, 18], [0, 1, 2, 3, 8, 9, 10, 11, 12, 13, 14, 15, 16, 17, 18, 19], [0, 1, 2, 3, 8, 9, 10, 11, 12, 13, 14, 15, 16, 17, 18, 19, 20], [0, 1, 2, 3, 4, 5, 6, 7, 8, 9, 10, 11, 12, 13, 14, 15, 16, 17, 18, 19, 20, 21], [0, 1, 2, 3, 4, 5, 6, 7, 8, 9, 10, 11, 12, 13, 14, 15, 16, 17, 18, 19, 20, 21, 22]] [] (by kernel_rfl) (by kernel_rfl) (by decide) rfl ?_; simp only [go_sem, hset, List.set_set, List.length_set])
    | (refine hK _ ?_; clear hK K)
    | refine AWP.block ?_
    | refine AWP.cond rfl (fun c => ?_) (fun c => ?_) <;> first | exact Bool.noConfusion c | (try simp only [dD] at c)
    | refine AWP.skip ?_
    | (refine AWP.exit ?_; simp only [go_sem, hset, List.set_set, List.length_set])
    | (refine AGet.haveM (by assumption) ?_; (try simp only [go_sem, hset, List.set_set, List.length_set]))
    | (refine AGet.have' (by assumption) ?_; (try simp only [go_sem, hset, List.set_set, List.length_set]))
    | ((first | refine AGet.nth ?_ (fun b hb => ?_) | refine AGet.nth1 ?_ (fun b hb => ?_) | with_reducible refine And.intro ?_ ?_); (focus (first | omega | assumption | exact List.length_pos_iff.2 (by assumption) | (simp only [List.length_append, List.length_cons, List.length_nil, List.length_map, List.length_take, List.length_drop] at *; omega) | (rw [wrap64_id (by omega) (by omega)]; omega) | (simp; done) | (simp [spare_len]; done) | (exact ⟨by omega, by omega⟩))); (try simp only [hb, go_sem, hset, List.set_set, List.length_set]))
    | (
        refine AWP.here 1 11 3 rfl ?_
        refine AWP.loopM (ι := Nat × Array Po) [11, 12, 13, 14, 15, 16, 17, 18, 19, 20, 21, 22, 23, 24, 25, 26, 27, 28, 29, 30, 31, 32, 33, 34, 35, 36, 37] (fun ⟨i, e⟩ => [(10, i64 i)]) (fun ⟨i, e⟩ => ow.set id (some (rowP e m))) (fun ⟨i, e⟩ => tk) (fun ⟨i, e⟩ => i ≤ n ∧ e.size = N ∧ Go.Stb.swpR u v n i e = Go.Stb.swpR u v n 0 d) (fun ⟨i, e⟩ => n - i) ((0, d)) ?_ ?_ ?_
        · (try simp only [go_sem]); (try simp only [List.set_set, List.length_set]); (repeat' (first | assumption | exact OwnBel.wk (hob _) | exact wkK_self | exact .inr ⟨rfl, decide_eq_true hid⟩ | exact .inr (decide_eq_true hid) | refine And.intro ?_ ?_ | exact .inl rfl | exact .inr rfl | exact .inr ⟨rfl, rfl⟩ | trivial | exact .inr (oblA rfl) | exact .inr ⟨rfl, oblA rfl⟩ | exact .inr bel_strs | exact .inr ⟨rfl, bel_strs⟩ | exact .inr ⟨by simp, bel_strs⟩ | (simp; done) | exact .inr ⟨rfl, by simp⟩ | exact .inr ⟨by simp, by simp⟩)); done
        · exact ⟨by omega, hN, rfl⟩
        rintro ⟨i, e⟩ ⟨h1, h2, h3⟩
        simp only [go_sem, hset, List.set_set, List.length_set])
    | (
        refine ⟨(i + 1, Go.Sort.swp e (u + i) (v + i)), ?_, ?_, ?_⟩
        · (try simp only [go_sem]); (try rw [wrap64_id (by omega) (by omega)]); (try simp only [List.set_set, List.length_set]); (repeat' (first | assumption | exact OwnBel.wk (hob _) | exact wkK_self | exact .inr ⟨rfl, decide_eq_true hid⟩ | exact .inr (decide_eq_true hid) | refine And.intro ?_ ?_ | exact .inl rfl | exact .inr rfl | exact .inr ⟨rfl, rfl⟩ | trivial | exact .inr (oblA rfl) | exact .inr ⟨rfl, oblA rfl⟩ | exact .inr bel_strs | exact .inr ⟨rfl, bel_strs⟩ | exact .inr ⟨by simp, bel_strs⟩ | (simp; done) | exact .inr ⟨rfl, by simp⟩ | exact .inr ⟨by simp, by simp⟩)); done
        · (try dsimp only); exact ⟨by omega, by rw [Go.Sort.swp_size]; exact h2, (swpR_step (by omega)).symm.trans h3⟩
        · (try simp only []); omega)
    | (
        refine AWP.ret ?_
        (try simp only [inb_ret, athen_ret])
        (try simp only [List.set_set])
        exact hBr _ _ rfl)
    | (exact hBn _ _ (by rw [← h3, swpR_stop (by omega)]))
    | refine AWP.fin (by assumption) ?_
    | fail)

set_option maxRecDepth 100000 in
set_option maxHeartbeats 16000000 in
theorem rot_call {ops : Array Oper} {l0 : List Oper} {Q : Exit → St → Prop} {tmps up : List AV} {gl : Nat → Option (List AV)} {own : List (Option (List AV))} {tk : List Nat} {dst : Option Tmp} {x0 x1 x2 x3 x4 : Operand} {tys : Array TypeId} {ty : TypeId} {pos : String} {after : Array Edge} {id m N : Nat} {d : Array Po} {lo mi hi : Nat}
    (hx0 : St.ev ⟨tmps, own, tk, gl, none, up⟩ x0 = .mu id 5 0 N (N + m))
    (hx1 : St.ev ⟨tmps, own, tk, gl, none, up⟩ x1 = i64 (lo : Int))
    (hx2 : St.ev ⟨tmps, own, tk, gl, none, up⟩ x2 = i64 (mi : Int))
    (hx3 : St.ev ⟨tmps, own, tk, gl, none, up⟩ x3 = i64 (hi : Int))
    (hx4 : St.ev ⟨tmps, own, tk, gl, none, up⟩ x4 = .fn 104 [])
    (ho : own[id]? = some (some (rowP d m)))
    (hbu : (tmps ++ up).all (AV.bel own.length tk.length) = true)
    (hbo : OwnBel own own.length tk.length)
    (hl : N ≤ 1000000)
    (hN : d.size = N)
    (h1 : lo < mi)
    (h2 : mi < hi)
    (h3 : hi ≤ N)
    (hend : AWPL E ops l0 Q (St.put ⟨tmps, own.set id (some (rowP (Go.Stb.rotL mi (mi - lo) (hi - mi) d) m)), tk, gl, none, up⟩ dst (.tup []))) : AWPL E ops (⟨dst, .call ⟨.value (.func 252), #[x0, x1, x2, x3, x4], tys⟩, ty, pos, after, none⟩ :: l0) Q ⟨tmps, own, tk, gl, none, up⟩ := by
  have hid := lt_of_get ho
  obtain ⟨ow, how⟩ : ∃ ow : List (Option (List AV)), own = ow.set id (some (rowP d m)) := ⟨own, (set_same ho).symm⟩
  subst how
  rw [List.length_set] at hid
  have hob : ∀ d' : Array Po, OwnBel (ow.set id (some (rowP d' m))) ow.length tk.length := fun d' => by
    have := hbo.set (id := id) (bel_rowP d' m); rwa [List.set_set, List.length_set] at this
  have hob2 : ∀ d' : Array Po, OwnBel (ow.set id (some (rowP d' m))) (ow.set id (some (rowP d' m))).length tk.length := fun d' => by rw [List.length_set]; exact hob d'
  rw [List.length_set] at hbu
  simp only [List.set_set] at hend
  refine AWPL.call (caps := []) (rs := []) Tryz.func252 rfl Tryz.ntmps252 rfl (by kernel_rfl) rfl rfl ?_
  show AWP E _ _ ⟨([St.ev _ x0, St.ev _ x1, St.ev _ x2, St.ev _ x3, St.ev _ x4] ++ []) ++ List.replicate (58 - 5) (.v undef), _, tk, gl, none, tmps ++ up⟩
  rw [hx0, hx1, hx2, hx3, hx4]
  have hBn : ∀ (tm : List AV) (d' : Array Po), d' = Go.Stb.rotL mi (mi - lo) (hi - mi) d → AInPost E.P [] ⟨tmps, ow.set id (some (rowP d m)), tk, gl, none, up⟩ (fun s z => AWPL E ops l0 Q (s.put dst z)) .normal ⟨tm, ow.set id (some (rowP d' m)), tk, gl, none, tmps ++ up⟩ := fun tm d' e => by subst e; exact ⟨rfl, hend⟩
  have hBr : ∀ (tm : List AV) (d' : Array Po), d' = Go.Stb.rotL mi (mi - lo) (hi - mi) d → AInPost E.P [] ⟨tmps, ow.set id (some (rowP d m)), tk, gl, none, up⟩ (fun s z => AWPL E ops l0 Q (s.put dst z)) .ret ⟨tm, ow.set id (some (rowP d' m)), tk, gl, none, tmps ++ up⟩ := fun tm d' e => by subst e; exact ⟨rfl, hend⟩
  generalize AInPost E.P [] ⟨tmps, ow.set id (some (rowP d m)), tk, gl, none, up⟩ (fun s z => AWPL E ops l0 Q (s.put dst z)) = Q1 at hBn hBr ⊢
  generalize tmps ++ up = up' at hbu hBn hBr ⊢
  clear hend ho hbo hx0 hx1 hx2 hx3 hx4
  have hset : ∀ x, (ow.set id x)[id]? = some x := fun x => List.getElem?_set_self hid
  repeat' (first
    | refine AWP.seqk fun K hK => ?_
    | (
        refine AWP.here 0 12 4 rfl ?_
        have w0 : IntKind.i64.wrap ((mi : Int) - lo) = ((mi - lo : Nat) : Int) := by rw [wrap64_id (by omega) (by omega)]; omega
        refine AWP.region ?_; simp only [go_sem, hset, List.set_set, List.length_set, w0])
    | (
        refine AWP.here 1 15 4 rfl ?_
        have w0 : IntKind.i64.wrap ((hi : Int) - mi) = ((hi - mi : Nat) : Int) := by rw [wrap64_id (by omega) (by omega)]; omega
        refine AWP.region ?_; simp only [go_sem, hset, List.set_set, List.length_set, w0])
    | (
        refine AWP.here 5 32 4 rfl ?_
        have w0 : IntKind.i64.wrap ((i : Int) - j) = ((i - j : Nat) : Int) := by rw [wrap64_id (by omega) (by omega)]; omega
        refine AWP.region ?_; simp only [go_sem, hset, List.set_set, List.length_set, w0])
    | (
        refine AWP.here 7 47 4 rfl ?_
        have w0 : IntKind.i64.wrap ((j : Int) - i) = ((j - i : Nat) : Int) := by rw [wrap64_id (by omega) (by omega)]; omega
        refine AWP.region ?_; simp only [go_sem, hset, List.set_set, List.length_set, w0])
    | (
        refine AWP.here 4 24 8 rfl ?_
        have w0 : IntKind.i64.wrap ((mi : Int) - i) = ((mi - i : Nat) : Int) := by rw [wrap64_id (by omega) (by omega)]; omega
        refine AWP.regionL ?_
        refine AWPL.at 8 7 rfl ?_
        simp only [go_sem, hset, List.set_set, List.length_set, w0]
        refine swr_call (id := id) (m := m) (N := N) (d := e) (u := mi - i) (v := mi) (n := j) (by rfl) (by rfl) (by rfl) (by rfl) (by rfl) (hset _) (by simp only [List.length_set, List.all_append, hbu, List.all_cons, List.all_nil, List.cons_append, List.nil_append, AV.bel, AV.bel2, AV.bel1, decide_eq_true hid, Bool.and_true, Bool.true_and, List.all_replicate]) (hob2 _) hl (by first | assumption | omega) (by omega) (by omega) ?_
        simp only [go_sem, hset, List.set_set, List.length_set, w0]
        refine AWPL.of ?_
        (try simp only [go_sem, hset, List.set_set, List.length_set, w0]))
    | (
        refine AWP.here 6 35 12 rfl ?_
        have w0 : IntKind.i64.wrap ((mi : Int) - i) = ((mi - i : Nat) : Int) := by rw [wrap64_id (by omega) (by omega)]; omega
        have w1 : IntKind.i64.wrap ((mi : Int) + j) = ((mi + j : Nat) : Int) := by rw [wrap64_id (by omega) (by omega)]; omega
        have w2 : IntKind.i64.wrap (((mi + j : Nat) : Int) - i) = ((mi + j - i : Nat) : Int) := by rw [wrap64_id (by omega) (by omega)]; omega
        refine AWP.regionL ?_
        refine AWPL.at 12 11 rfl ?_
        simp only [go_sem, hset, List.set_set, List.length_set, w0, w1, w2]
        refine swr_call (id := id) (m := m) (N := N) (d := e) (u := mi - i) (v := mi + j - i) (n := i) (by rfl) (by rfl) (by rfl) (by rfl) (by rfl) (hset _) (by simp only [List.length_set, List.all_append, hbu, List.all_cons, List.all_nil, List.cons_append, List.nil_append, AV.bel, AV.bel2, AV.bel1, decide_eq_true hid, Bool.and_true, Bool.true_and, List.all_replicate]) (hob2 _) hl (by first | assumption | omega) (by omega) (by omega) ?_
        simp only [go_sem, hset, List.set_set, List.length_set, w0, w1, w2]
        refine AWPL.of ?_
        (try simp only [go_sem, hset, List.set_set, List.length_set, w0, w1, w2]))
    | (
        refine AWP.here 8 50 8 rfl ?_
        have w0 : IntKind.i64.wrap ((mi : Int) - i) = ((mi - i : Nat) : Int) := by rw [wrap64_id (by omega) (by omega)]; omega
        refine AWP.regionL ?_
        refine AWPL.at 8 7 rfl ?_
        simp only [go_sem, hset, List.set_set, List.length_set, w0]
        refine swr_call (id := id) (m := m) (N := N) (d := e) (u := mi - i) (v := mi) (n := i) (by rfl) (by rfl) (by rfl) (by rfl) (by rfl) (hset _) (by simp only [List.length_set, List.all_append, hbu, List.all_cons, List.all_nil, List.cons_append, List.nil_append, AV.bel, AV.bel2, AV.bel1, decide_eq_true hid, Bool.and_true, Bool.true_and, List.all_replicate]) (hob2 _) hl (by first | assumption | omega) (by omega) (by omega) ?_
        simp only [go_sem, hset, List.set_set, List.length_set, w0]
        refine AWPL.of ?_
        (try simp only [go_sem, hset, List.set_set, List.length_set, w0]))
    | (refine AWP.region ?_; simp only [go_sem, hset, List.set_set, List.length_set])
    | (refine hK _ ?_; clear hK K)
    | refine AWP.block ?_
    | refine AWP.cond rfl (fun c => ?_) (fun c => ?_) <;> first | exact Bool.noConfusion c | (try simp only [dD] at c)
    | refine AWP.skip ?_
    | (refine AWP.exit ?_; simp only [go_sem, hset, List.set_set, List.length_set])
    | (refine ACall.one (swr_call ) (by kernel_rfl) rfl ?_; simp only [go_sem, hset, List.set_set, List.length_set])
    | (refine AGet.haveM (by assumption) ?_; (try simp only [go_sem, hset, List.set_set, List.length_set]))
    | (refine AGet.have' (by assumption) ?_; (try simp only [go_sem, hset, List.set_set, List.length_set]))
    | ((first | refine AGet.nth ?_ (fun b hb => ?_) | refine AGet.nth1 ?_ (fun b hb => ?_) | with_reducible refine And.intro ?_ ?_); (focus (first | omega | assumption | exact List.length_pos_iff.2 (by assumption) | (simp only [List.length_append, List.length_cons, List.length_nil, List.length_map, List.length_take, List.length_drop] at *; omega) | (rw [wrap64_id (by omega) (by omega)]; omega) | (simp; done) | (simp [spare_len]; done) | (exact ⟨by omega, by omega⟩))); (try simp only [hb, go_sem, hset, List.set_set, List.length_set]))
    | (
        refine AWP.here 2 18 3 rfl ?_
        refine AWP.loopM (ι := Nat × Nat × Array Po) [18, 19, 20, 21, 22, 23, 24, 25, 26, 27, 28, 29, 30, 31, 32, 33, 34, 35, 36, 37, 38, 39, 40, 41, 42, 43, 44, 45, 46, 47, 48, 49] (fun ⟨i, j, e⟩ => [(10, i64 i), (11, i64 j)]) (fun ⟨i, j, e⟩ => ow.set id (some (rowP e m))) (fun ⟨i, j, e⟩ => tk) (fun ⟨i, j, e⟩ => 0 < i ∧ 0 < j ∧ i ≤ mi ∧ mi + j ≤ N ∧ e.size = N ∧ Go.Stb.rotL mi i j e = Go.Stb.rotL mi (mi - lo) (hi - mi) d) (fun ⟨i, j, e⟩ => i + j) ((mi - lo, hi - mi, d)) ?_ ?_ ?_
        · (try simp only [go_sem]); (try simp only [List.set_set, List.length_set]); (repeat' (first | assumption | exact OwnBel.wk (hob _) | exact wkK_self | exact .inr ⟨rfl, decide_eq_true hid⟩ | exact .inr (decide_eq_true hid) | refine And.intro ?_ ?_ | exact .inl rfl | exact .inr rfl | exact .inr ⟨rfl, rfl⟩ | trivial | exact .inr (oblA rfl) | exact .inr ⟨rfl, oblA rfl⟩ | exact .inr bel_strs | exact .inr ⟨rfl, bel_strs⟩ | exact .inr ⟨by simp, bel_strs⟩ | (simp; done) | exact .inr ⟨rfl, by simp⟩ | exact .inr ⟨by simp, by simp⟩)); done
        · exact ⟨by omega, by omega, by omega, by omega, hN, rfl⟩
        rintro ⟨i, j, e⟩ ⟨g1, g2, g3, g4, g5, g6⟩
        simp only [go_sem, hset, List.set_set, List.length_set])
    | (
        refine ⟨(i - j, j, Go.Stb.swpR (mi - i) mi j 0 e), ?_, ?_, ?_⟩
        · (try simp only [go_sem]); (try rw [wrap64_id (by omega) (by omega)]); (try simp only [List.set_set, List.length_set]); (repeat' (first | assumption | exact OwnBel.wk (hob _) | exact wkK_self | exact .inr ⟨rfl, decide_eq_true hid⟩ | exact .inr (decide_eq_true hid) | refine And.intro ?_ ?_ | exact .inl rfl | exact .inr rfl | exact .inr ⟨rfl, rfl⟩ | trivial | exact .inr (oblA rfl) | exact .inr ⟨rfl, oblA rfl⟩ | exact .inr bel_strs | exact .inr ⟨rfl, bel_strs⟩ | exact .inr ⟨by simp, bel_strs⟩ | (simp; done) | exact .inr ⟨rfl, by simp⟩ | exact .inr ⟨by simp, by simp⟩)); done
        · (try dsimp only); exact ⟨by omega, by omega, by omega, by omega, by rw [Go.Stb.swpR_size _ _ _ _ _ _ rfl]; exact g5, by first | exact (rotL_gt (by omega) (by omega)).symm.trans g6 | exact (rotL_lt (by omega) (by omega)).symm.trans g6⟩
        · (try simp only []); omega)
    | (
        refine ⟨(i, j - i, Go.Stb.swpR (mi - i) (mi + j - i) i 0 e), ?_, ?_, ?_⟩
        · (try simp only [go_sem]); (try rw [wrap64_id (by omega) (by omega)]); (try simp only [List.set_set, List.length_set]); (repeat' (first | assumption | exact OwnBel.wk (hob _) | exact wkK_self | exact .inr ⟨rfl, decide_eq_true hid⟩ | exact .inr (decide_eq_true hid) | refine And.intro ?_ ?_ | exact .inl rfl | exact .inr rfl | exact .inr ⟨rfl, rfl⟩ | trivial | exact .inr (oblA rfl) | exact .inr ⟨rfl, oblA rfl⟩ | exact .inr bel_strs | exact .inr ⟨rfl, bel_strs⟩ | exact .inr ⟨by simp, bel_strs⟩ | (simp; done) | exact .inr ⟨rfl, by simp⟩ | exact .inr ⟨by simp, by simp⟩)); done
        · (try dsimp only); exact ⟨by omega, by omega, by omega, by omega, by rw [Go.Stb.swpR_size _ _ _ _ _ _ rfl]; exact g5, by first | exact (rotL_gt (by omega) (by omega)).symm.trans g6 | exact (rotL_lt (by omega) (by omega)).symm.trans g6⟩
        · (try simp only []); omega)
    | (
        refine AWP.ret ?_
        (try simp only [inb_ret, athen_ret])
        (try simp only [List.set_set])
        exact hBr _ _ rfl)
    | (exact hBn _ _ (by rw [← g6, rotL_eq (by omega) (by omega)]))
    | refine AWP.fin (by assumption) ?_
    | fail)

set_option maxRecDepth 100000 in
set_option maxHeartbeats 16000000 in
theorem isr_call {ops : Array Oper} {l0 : List Oper} {Q : Exit → St → Prop} {tmps up : List AV} {gl : Nat → Option (List AV)} {own : List (Option (List AV))} {tk : List Nat} {dst : Option Tmp} {x0 x1 x2 x3 : Operand} {tys : Array TypeId} {ty : TypeId} {pos : String} {after : Array Edge} {id m N : Nat} {d : Array Po} {lo hi : Nat}
    (hx0 : St.ev ⟨tmps, own, tk, gl, none, up⟩ x0 = .mu id 5 0 N (N + m))
    (hx1 : St.ev ⟨tmps, own, tk, gl, none, up⟩ x1 = i64 (lo : Int))
    (hx2 : St.ev ⟨tmps, own, tk, gl, none, up⟩ x2 = i64 (hi : Int))
    (hx3 : St.ev ⟨tmps, own, tk, gl, none, up⟩ x3 = .fn 104 [])
    (ho : own[id]? = some (some (rowP d m)))
    (hbu : (tmps ++ up).all (AV.bel own.length tk.length) = true)
    (hbo : OwnBel own own.length tk.length)
    (hl : N ≤ 1000000)
    (hN : d.size = N)
    (h1 : lo ≤ hi)
    (h2 : hi ≤ N)
    (hend : AWPL E ops l0 Q (St.put ⟨tmps, own.set id (some (rowP (Go.Sort.insertionSort ltP d lo hi) m)), tk, gl, none, up⟩ dst (.tup []))) : AWPL E ops (⟨dst, .call ⟨.value (.func 225), #[x0, x1, x2, x3], tys⟩, ty, pos, after, none⟩ :: l0) Q ⟨tmps, own, tk, gl, none, up⟩ := by
  have hid := lt_of_get ho
  obtain ⟨ow, how⟩ : ∃ ow : List (Option (List AV)), own = ow.set id (some (rowP d m)) := ⟨own, (set_same ho).symm⟩
  subst how
  rw [List.length_set] at hid
  have hob : ∀ d' : Array Po, OwnBel (ow.set id (some (rowP d' m))) ow.length tk.length := fun d' => by
    have := hbo.set (id := id) (bel_rowP d' m); rwa [List.set_set, List.length_set] at this
  have hob2 : ∀ d' : Array Po, OwnBel (ow.set id (some (rowP d' m))) (ow.set id (some (rowP d' m))).length tk.length := fun d' => by rw [List.length_set]; exact hob d'
  rw [List.length_set] at hbu
  simp only [List.set_set] at hend
  refine AWPL.call (caps := []) (rs := []) Tryz.func225 rfl Tryz.ntmps225 rfl (by kernel_rfl) rfl rfl ?_
  show AWP E _ _ ⟨([St.ev _ x0, St.ev _ x1, St.ev _ x2, St.ev _ x3] ++ []) ++ List.replicate (53 - 4) (.v undef), _, tk, gl, none, tmps ++ up⟩
  rw [hx0, hx1, hx2, hx3]
  have hBn : ∀ (tm : List AV) (d' : Array Po), d' = Go.Sort.insertionSort ltP d lo hi → AInPost E.P [] ⟨tmps, ow.set id (some (rowP d m)), tk, gl, none, up⟩ (fun s z => AWPL E ops l0 Q (s.put dst z)) .normal ⟨tm, ow.set id (some (rowP d' m)), tk, gl, none, tmps ++ up⟩ := fun tm d' e => by subst e; exact ⟨rfl, hend⟩
  have hBr : ∀ (tm : List AV) (d' : Array Po), d' = Go.Sort.insertionSort ltP d lo hi → AInPost E.P [] ⟨tmps, ow.set id (some (rowP d m)), tk, gl, none, up⟩ (fun s z => AWPL E ops l0 Q (s.put dst z)) .ret ⟨tm, ow.set id (some (rowP d' m)), tk, gl, none, tmps ++ up⟩ := fun tm d' e => by subst e; exact ⟨rfl, hend⟩
  generalize AInPost E.P [] ⟨tmps, ow.set id (some (rowP d m)), tk, gl, none, up⟩ (fun s z => AWPL E ops l0 Q (s.put dst z)) = Q1 at hBn hBr ⊢
  generalize tmps ++ up = up' at hbu hBn hBr ⊢
  clear hend ho hbo hx0 hx1 hx2 hx3
  have hset : ∀ x, (ow.set id x)[id]? = some x := fun x => List.getElem?_set_self hid
  repeat' (first
    | refine AWP.seqk fun K hK => ?_
    | (
        refine AWP.here 0 10 3 rfl ?_
        have w0 : IntKind.i64.wrap ((lo : Int) + 1) = ((lo + 1 : Nat) : Int) := by rw [wrap64_id (by omega) (by omega)]; omega
        refine AWP.region ?_; simp only [go_sem, hset, List.set_set, List.length_set, w0])
    | (
        refine AWP.here 6 37 18 rfl ?_
        have w0 : IntKind.i64.wrap ((j : Int) - 1) = ((j - 1 : Nat) : Int) := by rw [wrap64_id (by omega) (by omega)]; omega
        have g1 : (rowP e2 m)[j]? = some (poV e2[j]!) := row_get (by omega)
        have g2 : (rowP e2 m)[j - 1]? = some (poV e2[j - 1]!) := row_get (by omega)
        have g3 : ((rowP e2 m).set (j) (poV e2[j - 1]!))[j - 1]? = some (poV (e2.setIfInBounds (j) e2[j - 1]!)[j - 1]!) := by rw [row_set (by omega)]; exact row_get (by rw [Array.size_setIfInBounds]; omega)
        have g4 : ((rowP e2 m).set (j) (poV e2[j - 1]!)).set (j - 1) (poV e2[j]!) = rowP (Go.Sort.swp e2 (j) (j - 1)) m := row_swp (by omega) (by omega)
        refine AWP.regionO [0, 1, 2, 3, 4, 5, 6, 7, 8, 9, 10, 11, 12, 13, 14, 15, 16, 17] [] (by kernel_rfl) (by kernel_rfl) rfl ?_; simp only [go_sem, hset, List.set_set, List.length_set, w0, g1, g2, g3, g4, Int.toNat_natCast, hset, List.set_set])
    | (
        refine AWP.here 5 35 3 rfl ?_
        have w0 : IntKind.i64.wrap ((j : Int) - 1) = ((j - 1 : Nat) : Int) := by rw [wrap64_id (by omega) (by omega)]; omega
        refine AWP.region ?_; simp only [go_sem, hset, List.set_set, List.length_set, w0])
    | (
        refine AWP.here 4 18 17 rfl ?_
        rcases Nat.lt_or_ge lo j with hlj | hlj
        rotate_left
        refine AWP.regionO [0, 1, 2, 3, 4, 5, 6, 7, 8, 9, 10, 11, 12, 13, 14, 15, 16] [] (by kernel_rfl) (by kernel_rfl) rfl ?_; simp only [go_sem, hset, List.set_set, List.length_set]
        rotate_left
        have w0 : IntKind.i64.wrap ((j : Int) - 1) = ((j - 1 : Nat) : Int) := by rw [wrap64_id (by omega) (by omega)]; omega
        have g1 : (rowP e2 m)[j]? = some (poV e2[j]!) := row_get (by omega)
        have g2 : (rowP e2 m)[(IntKind.i64.wrap ((j : Int) - 1)).toNat]? = some (poV e2[j - 1]!) := by rw [w0, Int.toNat_natCast]; exact row_get (by omega)
        refine AWP.regionO [0, 1, 2, 3, 4, 5, 6, 7, 8, 9, 10, 11, 12, 13, 14, 15, 16] [] (by kernel_rfl) (by kernel_rfl) rfl ?_; simp only [go_sem, hset, List.set_set, List.length_set])
    | (refine AWP.region ?_; simp only [go_sem, hset, List.set_set, List.length_set])
    | (refine AWP.here 4 18 17 rfl ?_; refine AWP.regionO [0, 1, 2, 3, 4, 5, 6, 7, 8, 9, 10, 11, 12, 13, 14, 15, 16] [] (by kernel_rfl) (by kernel_rfl) rfl ?_; simp only [go_sem, hset, List.set_set, List.length_set])
    | (refine AWP.here 6 37 18 rfl ?_; refine AWP.regionO [0, 1, 2, 3, 4, 5, 6, 7, 8, 9, 10, 11, 12, 13, 14, 15, 16, 17] [] (by kernel_rfl) (by kernel_rfl) rfl ?_; simp only [go_sem, hset, List.set_set, List.length_set])
    | (refine hK _ ?_; clear hK K)
    | refine AWP.block ?_
    | refine AWP.cond rfl (fun c => ?_) (fun c => ?_) <;> first | exact Bool.noConfusion c | (try simp only [dD] at c)
    | refine AWP.skip ?_
    | (refine AWP.exit ?_; simp only [go_sem, hset, List.set_set, List.length_set])
    | (refine ACall.one (byn_c _ _) (by kernel_rfl) rfl ?_; simp only [go_sem, hset, List.set_set, List.length_set])
    | (refine AGuard.splitN (fun h => ?_) (fun h => ?_) <;> simp only [h, go_sem, hset, List.set_set, List.length_set] <;> (try simp only [dD] at h))
    | (refine AGuard.split (fun h => ?_) (fun h => ?_) <;> simp only [h, go_sem, hset, List.set_set, List.length_set] <;> (try simp only [dD] at h))
    | (refine AGet.haveM (by assumption) ?_; (try simp only [go_sem, hset, List.set_set, List.length_set]))
    | (refine AGet.have' (by assumption) ?_; (try simp only [go_sem, hset, List.set_set, List.length_set]))
    | ((first | refine AGet.nth ?_ (fun b hb => ?_) | refine AGet.nth1 ?_ (fun b hb => ?_) | with_reducible refine And.intro ?_ ?_); (focus (first | omega | assumption | exact List.length_pos_iff.2 (by assumption) | (simp only [List.length_append, List.length_cons, List.length_nil, List.length_map, List.length_take, List.length_drop] at *; omega) | (rw [wrap64_id (by omega) (by omega)]; omega) | (simp; done) | (simp [spare_len]; done) | (exact ⟨by omega, by omega⟩))); (try simp only [hb, go_sem, hset, List.set_set, List.length_set]))
    | (
        refine AWP.here 1 12 3 rfl ?_
        refine AWP.loopM (ι := Nat × Array Po) [9, 12, 13, 14, 15, 16, 17, 18, 19, 20, 21, 22, 23, 24, 25, 26, 27, 28, 29, 30, 31, 32, 33, 34, 35, 36, 37, 38, 39, 40, 41, 42, 43, 44, 45, 46, 47, 48, 49, 50, 51, 52] (fun ⟨i, e⟩ => [(8, i64 i)]) (fun ⟨i, e⟩ => ow.set id (some (rowP e m))) (fun ⟨i, e⟩ => tk) (fun ⟨i, e⟩ => lo + 1 ≤ i ∧ i ≤ hi + 1 ∧ e.size = N ∧ Go.Sort.insOuter ltP lo hi i e = Go.Sort.insertionSort ltP d lo hi) (fun ⟨i, e⟩ => hi - i) ((lo + 1, d)) ?_ ?_ ?_
        · (try simp only [go_sem]); (try simp only [List.set_set, List.length_set]); (repeat' (first | assumption | exact OwnBel.wk (hob _) | exact wkK_self | exact .inr ⟨rfl, decide_eq_true hid⟩ | exact .inr (decide_eq_true hid) | refine And.intro ?_ ?_ | exact .inl rfl | exact .inr rfl | exact .inr ⟨rfl, rfl⟩ | trivial | exact .inr (oblA rfl) | exact .inr ⟨rfl, oblA rfl⟩ | exact .inr bel_strs | exact .inr ⟨rfl, bel_strs⟩ | exact .inr ⟨by simp, bel_strs⟩ | (simp; done) | exact .inr ⟨rfl, by simp⟩ | exact .inr ⟨by simp, by simp⟩)); done
        · exact ⟨by omega, by omega, hN, rfl⟩
        rintro ⟨i, e⟩ ⟨g1, g2, g3, g4⟩
        simp only [go_sem, hset, List.set_set, List.length_set])
    | (
        refine AWP.here 4 18 17 rfl ?_
        refine AWP.loopM (ι := Nat × Array Po) [18, 19, 20, 21, 22, 23, 24, 25, 26, 27, 28, 29, 30, 31, 32, 33, 34, 35, 36, 37, 38, 39, 40, 41, 42, 43, 44, 45, 46, 47, 48, 49, 50, 51, 52] (fun ⟨j, e2⟩ => [(9, i64 j)]) (fun ⟨j, e2⟩ => ow.set id (some (rowP e2 m))) (fun ⟨j, e2⟩ => tk) (fun ⟨j, e2⟩ => lo ≤ j ∧ j ≤ i ∧ e2.size = N ∧ Go.Sort.insInner ltP lo j e2 = Go.Sort.insInner ltP lo i e) (fun ⟨j, e2⟩ => j) ((i, e)) ?_ ?_ ?_
        · (try simp only [go_sem]); (try simp only [List.set_set, List.length_set]); (repeat' (first | assumption | exact OwnBel.wk (hob _) | exact wkK_self | exact .inr ⟨rfl, decide_eq_true hid⟩ | exact .inr (decide_eq_true hid) | refine And.intro ?_ ?_ | exact .inl rfl | exact .inr rfl | exact .inr ⟨rfl, rfl⟩ | trivial | exact .inr (oblA rfl) | exact .inr ⟨rfl, oblA rfl⟩ | exact .inr bel_strs | exact .inr ⟨rfl, bel_strs⟩ | exact .inr ⟨by simp, bel_strs⟩ | (simp; done) | exact .inr ⟨rfl, by simp⟩ | exact .inr ⟨by simp, by simp⟩)); done
        · exact ⟨by omega, by omega, g3, rfl⟩
        rintro ⟨j, e2⟩ ⟨k1, k2, k3, k4⟩
        simp only [go_sem, hset, List.set_set, List.length_set])
    | (
        refine ⟨(i + 1, e2), ?_, ?_, ?_⟩
        · (try simp only [go_sem]); (try rw [wrap64_id (by omega) (by omega)]); (try simp only [List.set_set, List.length_set]); (repeat' (first | assumption | exact OwnBel.wk (hob _) | exact wkK_self | exact .inr ⟨rfl, decide_eq_true hid⟩ | exact .inr (decide_eq_true hid) | refine And.intro ?_ ?_ | exact .inl rfl | exact .inr rfl | exact .inr ⟨rfl, rfl⟩ | trivial | exact .inr (oblA rfl) | exact .inr ⟨rfl, oblA rfl⟩ | exact .inr bel_strs | exact .inr ⟨rfl, bel_strs⟩ | exact .inr ⟨by simp, bel_strs⟩ | (simp; done) | exact .inr ⟨rfl, by simp⟩ | exact .inr ⟨by simp, by simp⟩)); done
        · (try dsimp only); exact ⟨by omega, by omega, k3, by rw [insO_step (by omega), ← k4] at g4; first | (rw [ins_stop1 (by omega)] at g4; exact g4) | (rw [ins_stop2 (by assumption)] at g4; exact g4)⟩
        · (try simp only []); omega)
    | (
        refine ⟨(j - 1, Go.Sort.swp e2 j (j - 1)), ?_, ?_, ?_⟩
        · (try simp only [go_sem]); (try rw [wrap64_id (by omega) (by omega)]); (try simp only [List.set_set, List.length_set]); (repeat' (first | assumption | exact OwnBel.wk (hob _) | exact wkK_self | exact .inr ⟨rfl, decide_eq_true hid⟩ | exact .inr (decide_eq_true hid) | refine And.intro ?_ ?_ | exact .inl rfl | exact .inr rfl | exact .inr ⟨rfl, rfl⟩ | trivial | exact .inr (oblA rfl) | exact .inr ⟨rfl, oblA rfl⟩ | exact .inr bel_strs | exact .inr ⟨rfl, bel_strs⟩ | exact .inr ⟨by simp, bel_strs⟩ | (simp; done) | exact .inr ⟨rfl, by simp⟩ | exact .inr ⟨by simp, by simp⟩)); done
        · (try dsimp only); exact ⟨by omega, by omega, by rw [Go.Sort.swp_size]; exact k3, (ins_step (by omega) (by assumption)).symm.trans k4⟩
        · (try simp only []); omega)
    | (
        refine AWP.ret ?_
        (try simp only [inb_ret, athen_ret])
        (try simp only [List.set_set])
        exact hBr _ _ rfl)
    | (exact hBn _ _ (by rw [← g4, insO_stop (by omega)]))
    | (exfalso; omega)
    | refine AWP.fin (by assumption) ?_
    | fail)


end Go.Proofs.YtajeeghgiilhiaaGreat
end
section
set_option linter.unusedVariables false
set_option linter.unusedSimpArgs false
namespace Go.Proofs.YtajeeghgiilhiaaGreat
open Go Go.Abs Go.RowKit Go.Bk
theorem lt_t {d : Array Po} {i j : Nat} (h : cmpN (nmP d[i]!) (nmP d[j]!) < 0) : ltP d[i]! d[j]! = true := ltP_iff.2 h
theorem lt_f {d : Array Po} {i j : Nat} (h : ¬ cmpN (nmP d[i]!) (nmP d[j]!) < 0) : ltP d[i]! d[j]! = false := by
  cases e : ltP d[i]! d[j]! with
  | false => rfl
  | true => exact absurd (ltP_iff.1 e) h
theorem nlt_t {d : Array Po} {i j : Nat} (h : ¬ cmpN (nmP d[i]!) (nmP d[j]!) < 0) : (!ltP d[i]! d[j]!) = true := by rw [lt_f h]; rfl
theorem nlt_f {d : Array Po} {i j : Nat} (h : cmpN (nmP d[i]!) (nmP d[j]!) < 0) : (!ltP d[i]! d[j]!) = false := by rw [lt_t h]; rfl
theorem bs_lt {q : Nat → Bool} {i j : Nat} (h : i < j) (hq : q ((i + j) / 2) = true) : Go.Stb.bsG q i j = Go.Stb.bsG q ((i + j) / 2 + 1) j := by
  rw [Go.Stb.bsG, if_pos h, if_pos hq]
theorem bs_ge {q : Nat → Bool} {i j : Nat} (h : i < j) (hq : q ((i + j) / 2) = false) : Go.Stb.bsG q i j = Go.Stb.bsG q i ((i + j) / 2) := by
  rw [Go.Stb.bsG, if_pos h, if_neg (by rw [hq]; simp)]
theorem bs_end {q : Nat → Bool} {i j : Nat} (h : ¬ i < j) : Go.Stb.bsG q i j = i := by
  rw [Go.Stb.bsG, if_neg h]
section
variable {i k s x lo hi mi N : Nat} {d e1 e2 : Array Po}
theorem upS_step (h : k + 1 < i) : Go.Stb.upS k i d = Go.Stb.upS (k + 1) i (Go.Sort.swp d k (k + 1)) := by rw [Go.Stb.upS, if_pos h]
theorem upS_end (h : ¬ k + 1 < i) : Go.Stb.upS k i d = d := by rw [Go.Stb.upS, if_neg h]
theorem dnS_step (h : i < k) : Go.Stb.dnS i k d = Go.Stb.dnS i (k - 1) (Go.Sort.swp d k (k - 1)) := by
  cases k with
  | zero => omega
  | succ k => rw [Go.Stb.dnS, if_pos h]; rfl
theorem dnS_end (h : ¬ i < k) : Go.Stb.dnS i k d = d := by
  cases k with
  | zero => rfl
  | succ k => rw [Go.Stb.dnS, if_neg h]
theorem upS_size : ∀ (r k : Nat) (d : Array Po), i - k ≤ r → (Go.Stb.upS k i d).size = d.size
  | 0, k, d, h => by rw [upS_end (by omega)]
  | r + 1, k, d, h => by
    rcases Nat.lt_or_ge (k + 1) i with h2 | h2
    · rw [upS_step h2, upS_size r (k + 1) _ (by omega), Go.Sort.swp_size]
    · rw [upS_end (by omega)]
theorem dnS_size : ∀ (k : Nat) (d : Array Po), (Go.Stb.dnS i k d).size = d.size
  | 0, d => rfl
  | k + 1, d => by
    rcases Nat.lt_or_ge i (k + 1) with h2 | h2
    · rw [dnS_step h2]; show (Go.Stb.dnS i k _).size = _; rw [dnS_size k, Go.Sort.swp_size]
    · rw [dnS_end (by omega)]
theorem rotL_size0 : ∀ (r i j : Nat) (d : Array Po), i + j ≤ r → (Go.Stb.rotL mi i j d).size = d.size
  | r, i, j, d, h => by
    rw [Go.Stb.rotL]
    split
    · rfl
    · split
      · exact Go.Stb.swpR_size _ _ _ _ _ _ rfl
      · split
        · cases r with
          | zero => omega
          | succ r => rw [rotL_size0 r _ _ _ (by omega), Go.Stb.swpR_size _ _ _ _ _ _ rfl]
        · cases r with
          | zero => omega
          | succ r => rw [rotL_size0 r _ _ _ (by omega), Go.Stb.swpR_size _ _ _ _ _ _ rfl]
theorem rotIf_size : (Go.Stb.rotIf ltP lo mi hi d).size = d.size := by
  unfold Go.Stb.rotIf; split
  · exact rotL_size0 _ _ _ _ (Nat.le_refl _)
  · rfl
theorem symM_size0 : ∀ (r lo mi hi : Nat) (d : Array Po), hi - lo ≤ r → (Go.Stb.symM ltP lo mi hi d).size = d.size
  | r, lo, mi, hi, d, hr => by
    rw [Go.Stb.symM]
    split
    · exact upS_size _ _ _ (Nat.le_refl _)
    · split
      · exact dnS_size _ _
      · split
        · rename_i h2
          cases r with
          | zero => omega
          | succ r =>
            rw [symM_size0 r _ _ _ _ (by omega)]
            split
            · rw [symM_size0 r _ _ _ _ (by omega)]; exact rotIf_size
            · exact rotIf_size
        · split
          · cases r with
            | zero => omega
            | succ r => rw [symM_size0 r _ _ _ _ (by omega)]; exact rotIf_size
          · exact rotIf_size
theorem symM_size : (Go.Stb.symM ltP lo mi hi d).size = d.size := symM_size0 _ _ _ _ _ (Nat.le_refl _)
theorem rotIf_yes (hs : Go.Stb.sCut ltP lo mi hi d = s) (h1 : s < mi) (h2 : mi < (lo + hi) / 2 + mi - s) : Go.Stb.rotIf ltP lo mi hi d = Go.Stb.rotL mi (mi - s) ((lo + hi) / 2 + mi - s - mi) d := by
  unfold Go.Stb.rotIf; rw [hs, if_pos ⟨h1, h2⟩]
theorem rotIf_no (hs : Go.Stb.sCut ltP lo mi hi d = s) (h : ¬ (s < mi ∧ mi < (lo + hi) / 2 + mi - s)) : Go.Stb.rotIf ltP lo mi hi d = d := by
  unfold Go.Stb.rotIf; rw [hs, if_neg h]
theorem sym_1 (h : mi - lo = 1) : Go.Stb.symM ltP lo mi hi d = Go.Stb.upS lo (Go.Stb.bsG (fun x => ltP d[x]! d[lo]!) mi hi) d := by
  rw [Go.Stb.symM, if_pos h]
theorem sym_2 (h : ¬ mi - lo = 1) (h2 : hi - mi = 1) : Go.Stb.symM ltP lo mi hi d = Go.Stb.dnS (Go.Stb.bsG (fun x => !ltP d[mi]! d[x]!) lo mi) mi d := by
  rw [Go.Stb.symM, if_neg h, if_pos h2]
theorem sym_3 (h : ¬ mi - lo = 1) (h2 : ¬ hi - mi = 1) (hs : Go.Stb.sCut ltP lo mi hi d = s) (he1 : Go.Stb.rotIf ltP lo mi hi d = e1) (he2 : (if lo < s ∧ s < (lo + hi) / 2 then Go.Stb.symM ltP lo s ((lo + hi) / 2) e1 else e1) = e2) :
    Go.Stb.symM ltP lo mi hi d = if (lo + hi) / 2 < (lo + hi) / 2 + mi - s ∧ (lo + hi) / 2 + mi - s < hi then Go.Stb.symM ltP ((lo + hi) / 2) ((lo + hi) / 2 + mi - s) hi e2 else e2 := by
  rw [Go.Stb.symM, if_neg h, if_neg h2, hs, he1]
  simp only [dite_eq_ite]
  rw [he2]
theorem isort_size (h1 : lo ≤ hi) (h2 : hi ≤ d.size) : (Go.Sort.insertionSort ltP d lo hi).size = d.size := (Go.Sort.insertionSort_holds swo_P d lo hi h1 h2).1.1
theorem insB_step (h : x + 20 ≤ N) : Go.Stb.insB ltP N x (x + 20) d = Go.Stb.insB ltP N (x + 20) (x + 20 + 20) (Go.Sort.insertionSort ltP d x (x + 20)) := by rw [Go.Stb.insB, if_pos h]
theorem insB_stop (h : ¬ x + 20 ≤ N) : Go.Stb.insB ltP N x (x + 20) d = Go.Sort.insertionSort ltP d x N := by rw [Go.Stb.insB, if_neg h]
theorem mrgP_step (h0 : 0 < s) (h : x + 2 * s ≤ N) : Go.Stb.mrgP ltP N s x (x + 2 * s) d = Go.Stb.mrgP ltP N s (x + 2 * s) (x + 2 * s + 2 * s) (Go.Stb.symM ltP x (x + s) (x + 2 * s) d) := by rw [Go.Stb.mrgP, if_neg (by omega), if_pos h]
theorem mrgP_end1 (h0 : 0 < s) (h : ¬ x + 2 * s ≤ N) (h2 : x + s < N) : Go.Stb.mrgP ltP N s x (x + 2 * s) d = Go.Stb.symM ltP x (x + s) N d := by rw [Go.Stb.mrgP, if_neg (by omega), if_neg h, if_pos h2]
theorem mrgP_end2 (h0 : 0 < s) (h : ¬ x + 2 * s ≤ N) (h2 : ¬ x + s < N) : Go.Stb.mrgP ltP N s x (x + 2 * s) d = d := by rw [Go.Stb.mrgP, if_neg (by omega), if_neg h, if_neg h2]
theorem mrgL_step (h0 : 0 < s) (h : s < N) : Go.Stb.mrgL ltP N s d = Go.Stb.mrgL ltP N (s * 2) (Go.Stb.mrgP ltP N s 0 (2 * s) d) := by rw [Go.Stb.mrgL, dif_pos ⟨h0, h⟩]
theorem mrgL_stop (h : ¬ s < N) : Go.Stb.mrgL ltP N s d = d := by rw [Go.Stb.mrgL, dif_neg (by omega)]
end

set_option maxRecDepth 100000 in
set_option maxHeartbeats 16000000 in
theorem sym_call (rr : Nat) : ∀ {ops : Array Oper} {l0 : List Oper} {Q : Exit → St → Prop} {tmps up : List AV} {gl : Nat → Option (List AV)} {own : List (Option (List AV))} {tk : List Nat} {dst : Option Tmp} {x0 x1 x2 x3 x4 : Operand} {tys : Array TypeId} {ty : TypeId} {pos : String} {after : Array Edge} {id m N : Nat} {d : Array Po} {lo mi hi : Nat}
    (hx0 : St.ev ⟨tmps, own, tk, gl, none, up⟩ x0 = .mu id 5 0 N (N + m))
    (hx1 : St.ev ⟨tmps, own, tk, gl, none, up⟩ x1 = i64 (lo : Int))
    (hx2 : St.ev ⟨tmps, own, tk, gl, none, up⟩ x2 = i64 (mi : Int))
    (hx3 : St.ev ⟨tmps, own, tk, gl, none, up⟩ x3 = i64 (hi : Int))
    (hx4 : St.ev ⟨tmps, own, tk, gl, none, up⟩ x4 = .fn 104 [])
    (ho : own[id]? = some (some (rowP d m)))
    (hbu : (tmps ++ up).all (AV.bel own.length tk.length) = true)
    (hbo : OwnBel own own.length tk.length)
    (hl : N ≤ 1000000)
    (hN : d.size = N)
    (h1 : lo < mi)
    (h2 : mi < hi)
    (h3 : hi ≤ N)
    (hend : AWPL E ops l0 Q (St.put ⟨tmps, own.set id (some (rowP (Go.Stb.symM ltP lo mi hi d) m)), tk, gl, none, up⟩ dst (.tup []))) (hr : hi - lo ≤ rr), AWPL E ops (⟨dst, .call ⟨.value (.func 226), #[x0, x1, x2, x3, x4], tys⟩, ty, pos, after, none⟩ :: l0) Q ⟨tmps, own, tk, gl, none, up⟩ := by
  induction rr with
  | zero => intros; exfalso; omega
  | succ rr ih =>
  intro ops l0 Q tmps up gl own tk dst x0 x1 x2 x3 x4 tys ty pos after id m N d lo mi hi hx0 hx1 hx2 hx3 hx4 ho hbu hbo hl hN h1 h2 h3 hend hr
  have hid := lt_of_get ho
  obtain ⟨ow, how⟩ : ∃ ow : List (Option (List AV)), own = ow.set id (some (rowP d m)) := ⟨own, (set_same ho).symm⟩
  subst how
  rw [List.length_set] at hid
  have hob : ∀ d' : Array Po, OwnBel (ow.set id (some (rowP d' m))) ow.length tk.length := fun d' => by
    have := hbo.set (id := id) (bel_rowP d' m); rwa [List.set_set, List.length_set] at this
  have hob2 : ∀ d' : Array Po, OwnBel (ow.set id (some (rowP d' m))) (ow.set id (some (rowP d' m))).length tk.length := fun d' => by rw [List.length_set]; exact hob d'
  rw [List.length_set] at hbu
  simp only [List.set_set] at hend
  refine AWPL.call (caps := []) (rs := []) Tryz.func226 rfl Tryz.ntmps226 rfl (by kernel_rfl) rfl rfl ?_
  show AWP E _ _ ⟨([St.ev _ x0, St.ev _ x1, St.ev _ x2, St.ev _ x3, St.ev _ x4] ++ []) ++ List.replicate (220 - 5) (.v undef), _, tk, gl, none, tmps ++ up⟩
  rw [hx0, hx1, hx2, hx3, hx4]
  have hBn : ∀ (tm : List AV) (d' : Array Po), d' = Go.Stb.symM ltP lo mi hi d → AInPost E.P [] ⟨tmps, ow.set id (some (rowP d m)), tk, gl, none, up⟩ (fun s z => AWPL E ops l0 Q (s.put dst z)) .normal ⟨tm, ow.set id (some (rowP d' m)), tk, gl, none, tmps ++ up⟩ := fun tm d' e => by subst e; exact ⟨rfl, hend⟩
  have hBr : ∀ (tm : List AV) (d' : Array Po), d' = Go.Stb.symM ltP lo mi hi d → AInPost E.P [] ⟨tmps, ow.set id (some (rowP d m)), tk, gl, none, up⟩ (fun s z => AWPL E ops l0 Q (s.put dst z)) .ret ⟨tm, ow.set id (some (rowP d' m)), tk, gl, none, tmps ++ up⟩ := fun tm d' e => by subst e; exact ⟨rfl, hend⟩
  generalize AInPost E.P [] ⟨tmps, ow.set id (some (rowP d m)), tk, gl, none, up⟩ (fun s z => AWPL E ops l0 Q (s.put dst z)) = Q1 at hBn hBr ⊢
  generalize tmps ++ up = up' at hbu hBn hBr ⊢
  clear hend ho hbo hx0 hx1 hx2 hx3 hx4
  have hset : ∀ x, (ow.set id x)[id]? = some x := fun x => List.getElem?_set_self hid
  repeat' (first
    | refine AWP.seqk fun K hK => ?_
    | (
        refine AWP.here 0 25 4 rfl ?_
        have w0 : IntKind.i64.wrap ((mi : Int) - lo) = ((mi - lo : Nat) : Int) := by rw [wrap64_id (by omega) (by omega)]; omega
        refine AWP.region ?_; simp only [go_sem, hset, List.set_set, List.length_set, w0])
    | (
        refine AWP.here 4 34 7 rfl ?_
        have hh := half_eq (i := i) (j := j) (by omega) (by omega)
        refine AWP.region ?_; simp only [go_sem, hset, List.set_set, List.length_set, hh])
    | (
        refine AWP.here 5 40 11 rfl ?_
        have f1 : (rowP d m)[(i + j) / 2]? = some (poV d[(i + j) / 2]!) := row_get (by omega)
        have f2 : (rowP d m)[lo]? = some (poV d[lo]!) := row_get (by omega)
        refine AWP.regionO [0, 1, 2, 3, 4, 5, 6, 7, 8, 9, 10] [] (by kernel_rfl) (by kernel_rfl) rfl ?_; simp only [go_sem, hset, List.set_set, List.length_set, f1, f2, Int.toNat_natCast])
    | (
        refine AWP.here 8 54 2 rfl ?_
        obtain rfl : i = j := by omega
        have gi : Go.Stb.bsG (fun x => ltP d[x]! d[lo]!) mi hi = i := by rw [← g4, bs_end (by omega)]
        refine AWP.region ?_; simp only [go_sem, hset, List.set_set, List.length_set])
    | (
        refine AWP.here 9 55 4 rfl ?_
        have w0 : IntKind.i64.wrap ((i : Int) - 1) = ((i - 1 : Nat) : Int) := by rw [wrap64_id (by omega) (by omega)]; omega
        refine AWP.region ?_; simp only [go_sem, hset, List.set_set, List.length_set, w0])
    | (
        refine AWP.here 11 61 18 rfl ?_
        have w0 : IntKind.i64.wrap ((k : Int) + 1) = ((k + 1 : Nat) : Int) := by rw [wrap64_id (by omega) (by omega)]; omega
        have g1 : (rowP e m)[k]? = some (poV e[k]!) := row_get (by omega)
        have g2 : (rowP e m)[k + 1]? = some (poV e[k + 1]!) := row_get (by omega)
        have g3 : ((rowP e m).set (k) (poV e[k + 1]!))[k + 1]? = some (poV (e.setIfInBounds (k) e[k + 1]!)[k + 1]!) := by rw [row_set (by omega)]; exact row_get (by rw [Array.size_setIfInBounds]; omega)
        have g4 : ((rowP e m).set (k) (poV e[k + 1]!)).set (k + 1) (poV e[k]!) = rowP (Go.Sort.swp e (k) (k + 1)) m := row_swp (by omega) (by omega)
        refine AWP.regionO [0, 1, 2, 3, 4, 5, 6, 7, 8, 9, 10, 11, 12, 13, 14, 15, 16, 17] [] (by kernel_rfl) (by kernel_rfl) rfl ?_; simp only [go_sem, hset, List.set_set, List.length_set, w0, g1, g2, g3, g4, Int.toNat_natCast, hset, List.set_set])
    | (
        refine AWP.here 10 59 3 rfl ?_
        have w0 : IntKind.i64.wrap ((k : Int) + 1) = ((k + 1 : Nat) : Int) := by rw [wrap64_id (by omega) (by omega)]; omega
        refine AWP.region ?_; simp only [go_sem, hset, List.set_set, List.length_set, w0])
    | (
        refine AWP.here 12 77 4 rfl ?_
        have w0 : IntKind.i64.wrap ((hi : Int) - mi) = ((hi - mi : Nat) : Int) := by rw [wrap64_id (by omega) (by omega)]; omega
        refine AWP.region ?_; simp only [go_sem, hset, List.set_set, List.length_set, w0])
    | (
        refine AWP.here 16 86 7 rfl ?_
        have hh := half_eq (i := i) (j := j) (by omega) (by omega)
        refine AWP.region ?_; simp only [go_sem, hset, List.set_set, List.length_set, hh])
    | (
        refine AWP.here 17 92 12 rfl ?_
        have f1 : (rowP d m)[(i + j) / 2]? = some (poV d[(i + j) / 2]!) := row_get (by omega)
        have f2 : (rowP d m)[mi]? = some (poV d[mi]!) := row_get (by omega)
        refine AWP.regionO [0, 1, 2, 3, 4, 5, 6, 7, 8, 9, 10, 11] [] (by kernel_rfl) (by kernel_rfl) rfl ?_; simp only [go_sem, hset, List.set_set, List.length_set, f1, f2, Int.toNat_natCast])
    | (
        refine AWP.here 20 107 2 rfl ?_
        obtain rfl : i = j := by omega
        have gi : Go.Stb.bsG (fun x => !ltP d[mi]! d[x]!) lo mi = i := by rw [← g4, bs_end (by omega)]
        refine AWP.region ?_; simp only [go_sem, hset, List.set_set, List.length_set])
    | (
        refine AWP.here 23 113 18 rfl ?_
        have w0 : IntKind.i64.wrap ((k : Int) - 1) = ((k - 1 : Nat) : Int) := by rw [wrap64_id (by omega) (by omega)]; omega
        have g1 : (rowP e m)[k]? = some (poV e[k]!) := row_get (by omega)
        have g2 : (rowP e m)[k - 1]? = some (poV e[k - 1]!) := row_get (by omega)
        have g3 : ((rowP e m).set (k) (poV e[k - 1]!))[k - 1]? = some (poV (e.setIfInBounds (k) e[k - 1]!)[k - 1]!) := by rw [row_set (by omega)]; exact row_get (by rw [Array.size_setIfInBounds]; omega)
        have g4 : ((rowP e m).set (k) (poV e[k - 1]!)).set (k - 1) (poV e[k]!) = rowP (Go.Sort.swp e (k) (k - 1)) m := row_swp (by omega) (by omega)
        refine AWP.regionO [0, 1, 2, 3, 4, 5, 6, 7, 8, 9, 10, 11, 12, 13, 14, 15, 16, 17] [] (by kernel_rfl) (by kernel_rfl) rfl ?_; simp only [go_sem, hset, List.set_set, List.length_set, w0, g1, g2, g3, g4, Int.toNat_natCast, hset, List.set_set])
    | (
        refine AWP.here 22 111 3 rfl ?_
        have w0 : IntKind.i64.wrap ((k : Int) - 1) = ((k - 1 : Nat) : Int) := by rw [wrap64_id (by omega) (by omega)]; omega
        refine AWP.region ?_; simp only [go_sem, hset, List.set_set, List.length_set, w0])
    | (
        refine AWP.here 24 129 7 rfl ?_
        have hh := half_eq (i := lo) (j := hi) (by omega) (by omega)
        refine AWP.region ?_; simp only [go_sem, hset, List.set_set, List.length_set, hh])
    | (
        refine AWP.here 25 135 4 rfl ?_
        have w0 : IntKind.i64.wrap ((((lo + hi) / 2 : Nat) : Int) + mi) = (((lo + hi) / 2 + mi : Nat) : Int) := by rw [wrap64_id (by omega) (by omega)]; omega
        refine AWP.region ?_; simp only [go_sem, hset, List.set_set, List.length_set, w0])
    | (
        refine AWP.here 28 141 4 rfl ?_
        have w0 : IntKind.i64.wrap ((((lo + hi) / 2 + mi : Nat) : Int) - hi) = (((lo + hi) / 2 + mi - hi : Nat) : Int) := by rw [wrap64_id (by omega) (by omega)]; omega
        refine AWP.region ?_; simp only [go_sem, hset, List.set_set, List.length_set, w0])
    | (
        refine AWP.here 32 147 3 rfl ?_
        have w0 : IntKind.i64.wrap ((((lo + hi) / 2 + mi : Nat) : Int) - 1) = (((lo + hi) / 2 + mi - 1 : Nat) : Int) := by rw [wrap64_id (by omega) (by omega)]; omega
        refine AWP.region ?_; simp only [go_sem, hset, List.set_set, List.length_set, w0])
    | (
        refine AWP.here 34 152 7 rfl ?_
        have hh := half_eq (i := s) (j := r) (by omega) (by omega)
        refine AWP.region ?_; simp only [go_sem, hset, List.set_set, List.length_set, hh])
    | (
        refine AWP.here 35 158 14 rfl ?_
        have w0 : IntKind.i64.wrap ((((lo + hi) / 2 + mi - 1 : Nat) : Int) - (((s + r) / 2 : Nat) : Int)) = (((lo + hi) / 2 + mi - 1 - (s + r) / 2 : Nat) : Int) := by rw [wrap64_id (by omega) (by omega)]; omega
        have f1 : (rowP d m)[(lo + hi) / 2 + mi - 1 - (s + r) / 2]? = some (poV d[(lo + hi) / 2 + mi - 1 - (s + r) / 2]!) := row_get (by omega)
        have f2 : (rowP d m)[(s + r) / 2]? = some (poV d[(s + r) / 2]!) := row_get (by omega)
        refine AWP.regionO [0, 1, 2, 3, 4, 5, 6, 7, 8, 9, 10, 11, 12, 13] [] (by kernel_rfl) (by kernel_rfl) rfl ?_; simp only [go_sem, hset, List.set_set, List.length_set, w0, f1, f2, Int.toNat_natCast])
    | (
        refine AWP.here 38 175 4 rfl ?_
        obtain rfl : s = r := by omega
        have gs : Go.Stb.sCut ltP lo mi hi d = s := by rw [← g6, bs_end (by omega)]
        have w0 : IntKind.i64.wrap ((((lo + hi) / 2 + mi : Nat) : Int) - s) = (((lo + hi) / 2 + mi - s : Nat) : Int) := by rw [wrap64_id (by omega) (by omega)]; omega
        refine AWP.region ?_; simp only [go_sem, hset, List.set_set, List.length_set, w0])
    | (
        refine AWP.here 41 192 8 rfl ?_
        first
        | rw [show rowP (Go.Stb.rotL mi (mi - s) ((lo + hi) / 2 + mi - s - mi) d) m = rowP (Go.Stb.rotIf ltP lo mi hi d) m by rw [rotIf_yes gs (by omega) (by omega)]]
        | rw [show rowP d m = rowP (Go.Stb.rotIf ltP lo mi hi d) m by rw [rotIf_no gs (by omega)]]
        have z1 : (Go.Stb.rotIf ltP lo mi hi d).size = N := by rw [rotIf_size]; exact hN
        generalize he1 : Go.Stb.rotIf ltP lo mi hi d = e1 at z1 ⊢
        refine AWP.region ?_; simp only [go_sem, hset, List.set_set, List.length_set])
    | (
        refine AWP.here 43 206 8 rfl ?_
        first
        | rw [show rowP (Go.Stb.symM ltP lo s ((lo + hi) / 2) e1) m = rowP (if lo < s ∧ s < (lo + hi) / 2 then Go.Stb.symM ltP lo s ((lo + hi) / 2) e1 else e1) m by rw [if_pos (by omega)]]
        | rw [show rowP e1 m = rowP (if lo < s ∧ s < (lo + hi) / 2 then Go.Stb.symM ltP lo s ((lo + hi) / 2) e1 else e1) m by rw [if_neg (by omega)]]
        have z2 : (if lo < s ∧ s < (lo + hi) / 2 then Go.Stb.symM ltP lo s ((lo + hi) / 2) e1 else e1).size = N := by split <;> first | (rw [symM_size]; exact z1) | exact z1
        generalize he2 : (if lo < s ∧ s < (lo + hi) / 2 then Go.Stb.symM ltP lo s ((lo + hi) / 2) e1 else e1) = e2 at z2 ⊢
        refine AWP.region ?_; simp only [go_sem, hset, List.set_set, List.length_set])
    | (
        refine AWP.here 40 186 6 rfl ?_
        refine AWP.regionL ?_
        refine AWPL.at 6 5 rfl ?_
        simp only [go_sem, hset, List.set_set, List.length_set]
        refine rot_call (id := id) (m := m) (N := N) (d := d) (lo := s) (mi := mi) (hi := (lo + hi) / 2 + mi - s) (by rfl) (by rfl) (by rfl) (by rfl) (by rfl) (hset _) (by simp only [List.length_set, List.all_append, hbu, List.all_cons, List.all_nil, List.cons_append, List.nil_append, AV.bel, AV.bel2, AV.bel1, decide_eq_true hid, Bool.and_true, Bool.true_and, List.all_replicate]) (hob2 _) hl (by first | assumption | omega) (by omega) (by omega) (by omega) ?_
        simp only [go_sem, hset, List.set_set, List.length_set]
        refine AWPL.of ?_
        (try simp only [go_sem, hset, List.set_set, List.length_set]))
    | (
        refine AWP.here 42 200 6 rfl ?_
        refine AWP.regionL ?_
        refine AWPL.at 6 5 rfl ?_
        simp only [go_sem, hset, List.set_set, List.length_set]
        refine ih (id := id) (m := m) (N := N) (d := e1) (lo := lo) (mi := s) (hi := (lo + hi) / 2) (by rfl) (by rfl) (by rfl) (by rfl) (by rfl) (hset _) (by simp only [List.length_set, List.all_append, hbu, List.all_cons, List.all_nil, List.cons_append, List.nil_append, AV.bel, AV.bel2, AV.bel1, decide_eq_true hid, Bool.and_true, Bool.true_and, List.all_replicate]) (hob2 _) hl (by first | assumption | omega) (by omega) (by omega) (by omega) ?_ (by omega)
        simp only [go_sem, hset, List.set_set, List.length_set]
        refine AWPL.of ?_
        (try simp only [go_sem, hset, List.set_set, List.length_set]))
    | (
        refine AWP.here 44 214 6 rfl ?_
        refine AWP.regionL ?_
        refine AWPL.at 6 5 rfl ?_
        simp only [go_sem, hset, List.set_set, List.length_set]
        refine ih (id := id) (m := m) (N := N) (d := e2) (lo := (lo + hi) / 2) (mi := (lo + hi) / 2 + mi - s) (hi := hi) (by rfl) (by rfl) (by rfl) (by rfl) (by rfl) (hset _) (by simp only [List.length_set, List.all_append, hbu, List.all_cons, List.all_nil, List.cons_append, List.nil_append, AV.bel, AV.bel2, AV.bel1, decide_eq_true hid, Bool.and_true, Bool.true_and, List.all_replicate]) (hob2 _) hl (by first | assumption | omega) (by omega) (by omega) (by omega) ?_ (by omega)
        simp only [go_sem, hset, List.set_set, List.length_set]
        refine AWPL.of ?_
        (try simp only [go_sem, hset, List.set_set, List.length_set]))
    | (refine AWP.region ?_; simp only [go_sem, hset, List.set_set, List.length_set])
    | (refine AWP.here 5 40 11 rfl ?_; refine AWP.regionO [0, 1, 2, 3, 4, 5, 6, 7, 8, 9, 10] [] (by kernel_rfl) (by kernel_rfl) rfl ?_; simp only [go_sem, hset, List.set_set, List.length_set])
    | (refine AWP.here 11 61 18 rfl ?_; refine AWP.regionO [0, 1, 2, 3, 4, 5, 6, 7, 8, 9, 10, 11, 12, 13, 14, 15, 16, 17] [] (by kernel_rfl) (by kernel_rfl) rfl ?_; simp only [go_sem, hset, List.set_set, List.length_set])
    | (refine AWP.here 17 92 12 rfl ?_; refine AWP.regionO [0, 1, 2, 3, 4, 5, 6, 7, 8, 9, 10, 11] [] (by kernel_rfl) (by kernel_rfl) rfl ?_; simp only [go_sem, hset, List.set_set, List.length_set])
    | (refine AWP.here 23 113 18 rfl ?_; refine AWP.regionO [0, 1, 2, 3, 4, 5, 6, 7, 8, 9, 10, 11, 12, 13, 14, 15, 16, 17] [] (by kernel_rfl) (by kernel_rfl) rfl ?_; simp only [go_sem, hset, List.set_set, List.length_set])
    | (refine AWP.here 35 158 14 rfl ?_; refine AWP.regionO [0, 1, 2, 3, 4, 5, 6, 7, 8, 9, 10, 11, 12, 13] [] (by kernel_rfl) (by kernel_rfl) rfl ?_; simp only [go_sem, hset, List.set_set, List.length_set])
    | (refine hK _ ?_; clear hK K)
    | refine AWP.block ?_
    | refine AWP.cond rfl (fun c => ?_) (fun c => ?_) <;> first | exact Bool.noConfusion c | (try simp only [dD] at c)
    | refine AWP.skip ?_
    | (refine AWP.exit ?_; simp only [go_sem, hset, List.set_set, List.length_set])
    | (refine ACall.one (rot_call ) (by kernel_rfl) rfl ?_; simp only [go_sem, hset, List.set_set, List.length_set])
    | (refine ACall.one (byn_c _ _) (by kernel_rfl) rfl ?_; simp only [go_sem, hset, List.set_set, List.length_set])
    | (refine AGuard.splitN (fun h => ?_) (fun h => ?_) <;> simp only [h, go_sem, hset, List.set_set, List.length_set] <;> (try simp only [dD] at h))
    | (refine AGuard.split (fun h => ?_) (fun h => ?_) <;> simp only [h, go_sem, hset, List.set_set, List.length_set] <;> (try simp only [dD] at h))
    | (refine AGet.haveM (by assumption) ?_; (try simp only [go_sem, hset, List.set_set, List.length_set]))
    | (refine AGet.have' (by assumption) ?_; (try simp only [go_sem, hset, List.set_set, List.length_set]))
    | ((first | refine AGet.nth ?_ (fun b hb => ?_) | refine AGet.nth1 ?_ (fun b hb => ?_) | with_reducible refine And.intro ?_ ?_); (focus (first | omega | assumption | exact List.length_pos_iff.2 (by assumption) | (simp only [List.length_append, List.length_cons, List.length_nil, List.length_map, List.length_take, List.length_drop] at *; omega) | (rw [wrap64_id (by omega) (by omega)]; omega) | (simp; done) | (simp [spare_len]; done) | (exact ⟨by omega, by omega⟩))); (try simp only [hb, go_sem, hset, List.set_set, List.length_set]))
    | (
        refine AWP.here 3 31 3 rfl ?_
        refine AWP.loopN (ι := Nat × Nat) [12, 31, 32, 33, 34, 35, 36, 37, 38, 39, 40, 41, 42, 43, 44, 45, 46, 47, 48, 49, 50, 51, 52, 53] (fun ⟨i, j⟩ => [(10, i64 i), (11, i64 j)]) (fun ⟨i, j⟩ => mi ≤ i ∧ i ≤ j ∧ j ≤ hi ∧ Go.Stb.bsG (fun x => ltP d[x]! d[lo]!) i j = Go.Stb.bsG (fun x => ltP d[x]! d[lo]!) mi hi) (fun ⟨i, j⟩ => j - i) ((mi, hi)) ?_ ?_ ?_
        · (try simp only [go_sem]); (try simp only [List.set_set, List.length_set]); (repeat' (first | assumption | exact OwnBel.wk (hob _) | exact wkK_self | exact .inr ⟨rfl, decide_eq_true hid⟩ | exact .inr (decide_eq_true hid) | refine And.intro ?_ ?_ | exact .inl rfl | exact .inr rfl | exact .inr ⟨rfl, rfl⟩ | trivial | exact .inr (oblA rfl) | exact .inr ⟨rfl, oblA rfl⟩ | exact .inr bel_strs | exact .inr ⟨rfl, bel_strs⟩ | exact .inr ⟨by simp, bel_strs⟩ | (simp; done) | exact .inr ⟨rfl, by simp⟩ | exact .inr ⟨by simp, by simp⟩)); done
        · exact ⟨by omega, by omega, by omega, rfl⟩
        rintro ⟨i, j⟩ ⟨g1, g2, g3, g4⟩
        simp only [go_sem, hset, List.set_set, List.length_set])
    | (
        refine AWP.here 9 55 4 rfl ?_
        refine AWP.loopM (ι := Nat × Array Po) [55, 56, 57, 58, 59, 60, 61, 62, 63, 64, 65, 66, 67, 68, 69, 70, 71, 72, 73, 74, 75, 76] (fun ⟨k, e⟩ => [(13, i64 k)]) (fun ⟨k, e⟩ => ow.set id (some (rowP e m))) (fun ⟨k, e⟩ => tk) (fun ⟨k, e⟩ => lo ≤ k ∧ e.size = N ∧ Go.Stb.upS k i e = Go.Stb.upS lo i d) (fun ⟨k, e⟩ => i - k) ((lo, d)) ?_ ?_ ?_
        · (try simp only [go_sem]); (try simp only [List.set_set, List.length_set]); (repeat' (first | assumption | exact OwnBel.wk (hob _) | exact wkK_self | exact .inr ⟨rfl, decide_eq_true hid⟩ | exact .inr (decide_eq_true hid) | refine And.intro ?_ ?_ | exact .inl rfl | exact .inr rfl | exact .inr ⟨rfl, rfl⟩ | trivial | exact .inr (oblA rfl) | exact .inr ⟨rfl, oblA rfl⟩ | exact .inr bel_strs | exact .inr ⟨rfl, bel_strs⟩ | exact .inr ⟨by simp, bel_strs⟩ | (simp; done) | exact .inr ⟨rfl, by simp⟩ | exact .inr ⟨by simp, by simp⟩)); done
        · exact ⟨by omega, hN, rfl⟩
        rintro ⟨k, e⟩ ⟨k1, k2, k3⟩
        simp only [go_sem, hset, List.set_set, List.length_set])
    | (
        refine AWP.here 15 83 3 rfl ?_
        refine AWP.loopN (ι := Nat × Nat) [16, 83, 84, 85, 86, 87, 88, 89, 90, 91, 92, 93, 94, 95, 96, 97, 98, 99, 100, 101, 102, 103, 104, 105, 106] (fun ⟨i, j⟩ => [(14, i64 i), (15, i64 j)]) (fun ⟨i, j⟩ => lo ≤ i ∧ i ≤ j ∧ j ≤ mi ∧ Go.Stb.bsG (fun x => !ltP d[mi]! d[x]!) i j = Go.Stb.bsG (fun x => !ltP d[mi]! d[x]!) lo mi) (fun ⟨i, j⟩ => j - i) ((lo, mi)) ?_ ?_ ?_
        · (try simp only [go_sem]); (try simp only [List.set_set, List.length_set]); (repeat' (first | assumption | exact OwnBel.wk (hob _) | exact wkK_self | exact .inr ⟨rfl, decide_eq_true hid⟩ | exact .inr (decide_eq_true hid) | refine And.intro ?_ ?_ | exact .inl rfl | exact .inr rfl | exact .inr ⟨rfl, rfl⟩ | trivial | exact .inr (oblA rfl) | exact .inr ⟨rfl, oblA rfl⟩ | exact .inr bel_strs | exact .inr ⟨rfl, bel_strs⟩ | exact .inr ⟨by simp, bel_strs⟩ | (simp; done) | exact .inr ⟨rfl, by simp⟩ | exact .inr ⟨by simp, by simp⟩)); done
        · exact ⟨by omega, by omega, by omega, rfl⟩
        rintro ⟨i, j⟩ ⟨g1, g2, g3, g4⟩
        simp only [go_sem, hset, List.set_set, List.length_set])
    | (
        refine AWP.here 21 108 3 rfl ?_
        refine AWP.loopM (ι := Nat × Array Po) [108, 109, 110, 111, 112, 113, 114, 115, 116, 117, 118, 119, 120, 121, 122, 123, 124, 125, 126, 127, 128] (fun ⟨k, e⟩ => [(17, i64 k)]) (fun ⟨k, e⟩ => ow.set id (some (rowP e m))) (fun ⟨k, e⟩ => tk) (fun ⟨k, e⟩ => k ≤ mi ∧ e.size = N ∧ Go.Stb.dnS i k e = Go.Stb.dnS i mi d) (fun ⟨k, e⟩ => k) ((mi, d)) ?_ ?_ ?_
        · (try simp only [go_sem]); (try simp only [List.set_set, List.length_set]); (repeat' (first | assumption | exact OwnBel.wk (hob _) | exact wkK_self | exact .inr ⟨rfl, decide_eq_true hid⟩ | exact .inr (decide_eq_true hid) | refine And.intro ?_ ?_ | exact .inl rfl | exact .inr rfl | exact .inr ⟨rfl, rfl⟩ | trivial | exact .inr (oblA rfl) | exact .inr ⟨rfl, oblA rfl⟩ | exact .inr bel_strs | exact .inr ⟨rfl, bel_strs⟩ | exact .inr ⟨by simp, bel_strs⟩ | (simp; done) | exact .inr ⟨rfl, by simp⟩ | exact .inr ⟨by simp, by simp⟩)); done
        · exact ⟨by omega, hN, rfl⟩
        rintro ⟨k, e⟩ ⟨k1, k2, k3⟩
        simp only [go_sem, hset, List.set_set, List.length_set])
    | (
        refine AWP.here 33 149 3 rfl ?_
        refine AWP.loopN (ι := Nat × Nat) [23, 149, 150, 151, 152, 153, 154, 155, 156, 157, 158, 159, 160, 161, 162, 163, 164, 165, 166, 167, 168, 169, 170, 171, 172, 173, 174] (fun ⟨s, r⟩ => [(20, i64 s), (21, i64 r)]) (fun ⟨s, r⟩ => lo ≤ s ∧ (lo + hi) / 2 + mi ≤ hi + s ∧ s ≤ r ∧ r ≤ (lo + hi) / 2 ∧ r ≤ mi ∧ Go.Stb.bsG (fun x => !ltP d[(lo + hi) / 2 + mi - 1 - x]! d[x]!) s r = Go.Stb.sCut ltP lo mi hi d) (fun ⟨s, r⟩ => r - s) ((if (lo + hi) / 2 < mi then (lo + hi) / 2 + mi - hi else lo, if (lo + hi) / 2 < mi then (lo + hi) / 2 else mi)) ?_ ?_ ?_
        · (try simp only [go_sem]); (first | rw [if_pos (by omega), if_pos (by omega)] | rw [if_neg (by omega), if_neg (by omega)]); (try simp only [List.set_set, List.length_set]); (repeat' (first | assumption | exact OwnBel.wk (hob _) | exact wkK_self | exact .inr ⟨rfl, decide_eq_true hid⟩ | exact .inr (decide_eq_true hid) | refine And.intro ?_ ?_ | exact .inl rfl | exact .inr rfl | exact .inr ⟨rfl, rfl⟩ | trivial | exact .inr (oblA rfl) | exact .inr ⟨rfl, oblA rfl⟩ | exact .inr bel_strs | exact .inr ⟨rfl, bel_strs⟩ | exact .inr ⟨by simp, bel_strs⟩ | (simp; done) | exact .inr ⟨rfl, by simp⟩ | exact .inr ⟨by simp, by simp⟩)); done
        · first | (rw [if_pos (by omega), if_pos (by omega)]; exact ⟨by omega, by omega, by omega, by omega, by omega, by unfold Go.Stb.sCut; rw [if_pos (by omega), if_pos (by omega)]⟩) | (rw [if_neg (by omega), if_neg (by omega)]; exact ⟨by omega, by omega, by omega, by omega, by omega, by unfold Go.Stb.sCut; rw [if_neg (by omega), if_neg (by omega)]⟩)
        rintro ⟨s, r⟩ ⟨g1, g2, g3, g4, g5, g6⟩
        simp only [go_sem, hset, List.set_set, List.length_set])
    | (
        first
        | (refine ⟨((i + j) / 2 + 1, j), ?_, ⟨by show mi ≤ (i + j) / 2 + 1; omega, by show (i + j) / 2 + 1 ≤ j; omega, g3, by rw [← g4]; exact (bs_lt (by omega) (lt_t (by assumption))).symm⟩, by show j - ((i + j) / 2 + 1) < j - i; omega⟩
           (try simp only [go_sem]); (try rw [wrap64_id (by omega) (by omega)]); (try simp only [List.set_set, List.length_set]); (repeat' (first | assumption | exact OwnBel.wk (hob _) | exact wkK_self | exact .inr ⟨rfl, decide_eq_true hid⟩ | exact .inr (decide_eq_true hid) | refine And.intro ?_ ?_ | exact .inl rfl | exact .inr rfl | exact .inr ⟨rfl, rfl⟩ | trivial | exact .inr (oblA rfl) | exact .inr ⟨rfl, oblA rfl⟩ | exact .inr bel_strs | exact .inr ⟨rfl, bel_strs⟩ | exact .inr ⟨by simp, bel_strs⟩ | (simp; done) | exact .inr ⟨rfl, by simp⟩ | exact .inr ⟨by simp, by simp⟩)); done)
        | (refine ⟨(i, (i + j) / 2), ?_, ⟨g1, by show i ≤ (i + j) / 2; omega, by show (i + j) / 2 ≤ hi; omega, by rw [← g4]; exact (bs_ge (by omega) (lt_f (by assumption))).symm⟩, by show (i + j) / 2 - i < j - i; omega⟩
           (try simp only [go_sem]); (try simp only [List.set_set, List.length_set]); (repeat' (first | assumption | exact OwnBel.wk (hob _) | exact wkK_self | exact .inr ⟨rfl, decide_eq_true hid⟩ | exact .inr (decide_eq_true hid) | refine And.intro ?_ ?_ | exact .inl rfl | exact .inr rfl | exact .inr ⟨rfl, rfl⟩ | trivial | exact .inr (oblA rfl) | exact .inr ⟨rfl, oblA rfl⟩ | exact .inr bel_strs | exact .inr ⟨rfl, bel_strs⟩ | exact .inr ⟨by simp, bel_strs⟩ | (simp; done) | exact .inr ⟨rfl, by simp⟩ | exact .inr ⟨by simp, by simp⟩)); done))
    | (
        refine ⟨(k + 1, Go.Sort.swp e k (k + 1)), ?_, ?_, ?_⟩
        · (try simp only [go_sem]); (try rw [wrap64_id (by omega) (by omega)]); (try simp only [List.set_set, List.length_set]); (repeat' (first | assumption | exact OwnBel.wk (hob _) | exact wkK_self | exact .inr ⟨rfl, decide_eq_true hid⟩ | exact .inr (decide_eq_true hid) | refine And.intro ?_ ?_ | exact .inl rfl | exact .inr rfl | exact .inr ⟨rfl, rfl⟩ | trivial | exact .inr (oblA rfl) | exact .inr ⟨rfl, oblA rfl⟩ | exact .inr bel_strs | exact .inr ⟨rfl, bel_strs⟩ | exact .inr ⟨by simp, bel_strs⟩ | (simp; done) | exact .inr ⟨rfl, by simp⟩ | exact .inr ⟨by simp, by simp⟩)); done
        · (try dsimp only); exact ⟨by omega, by rw [Go.Sort.swp_size]; exact k2, (upS_step (by omega)).symm.trans k3⟩
        · (try simp only []); omega)
    | (
        first
        | (refine ⟨((i + j) / 2 + 1, j), ?_, ⟨by show lo ≤ (i + j) / 2 + 1; omega, by show (i + j) / 2 + 1 ≤ j; omega, g3, by rw [← g4]; exact (bs_lt (by omega) (nlt_t (by assumption))).symm⟩, by show j - ((i + j) / 2 + 1) < j - i; omega⟩
           (try simp only [go_sem]); (try rw [wrap64_id (by omega) (by omega)]); (try simp only [List.set_set, List.length_set]); (repeat' (first | assumption | exact OwnBel.wk (hob _) | exact wkK_self | exact .inr ⟨rfl, decide_eq_true hid⟩ | exact .inr (decide_eq_true hid) | refine And.intro ?_ ?_ | exact .inl rfl | exact .inr rfl | exact .inr ⟨rfl, rfl⟩ | trivial | exact .inr (oblA rfl) | exact .inr ⟨rfl, oblA rfl⟩ | exact .inr bel_strs | exact .inr ⟨rfl, bel_strs⟩ | exact .inr ⟨by simp, bel_strs⟩ | (simp; done) | exact .inr ⟨rfl, by simp⟩ | exact .inr ⟨by simp, by simp⟩)); done)
        | (refine ⟨(i, (i + j) / 2), ?_, ⟨g1, by show i ≤ (i + j) / 2; omega, by show (i + j) / 2 ≤ mi; omega, by rw [← g4]; exact (bs_ge (by omega) (nlt_f (by assumption))).symm⟩, by show (i + j) / 2 - i < j - i; omega⟩
           (try simp only [go_sem]); (try simp only [List.set_set, List.length_set]); (repeat' (first | assumption | exact OwnBel.wk (hob _) | exact wkK_self | exact .inr ⟨rfl, decide_eq_true hid⟩ | exact .inr (decide_eq_true hid) | refine And.intro ?_ ?_ | exact .inl rfl | exact .inr rfl | exact .inr ⟨rfl, rfl⟩ | trivial | exact .inr (oblA rfl) | exact .inr ⟨rfl, oblA rfl⟩ | exact .inr bel_strs | exact .inr ⟨rfl, bel_strs⟩ | exact .inr ⟨by simp, bel_strs⟩ | (simp; done) | exact .inr ⟨rfl, by simp⟩ | exact .inr ⟨by simp, by simp⟩)); done))
    | (
        refine ⟨(k - 1, Go.Sort.swp e k (k - 1)), ?_, ?_, ?_⟩
        · (try simp only [go_sem]); (try rw [wrap64_id (by omega) (by omega)]); (try simp only [List.set_set, List.length_set]); (repeat' (first | assumption | exact OwnBel.wk (hob _) | exact wkK_self | exact .inr ⟨rfl, decide_eq_true hid⟩ | exact .inr (decide_eq_true hid) | refine And.intro ?_ ?_ | exact .inl rfl | exact .inr rfl | exact .inr ⟨rfl, rfl⟩ | trivial | exact .inr (oblA rfl) | exact .inr ⟨rfl, oblA rfl⟩ | exact .inr bel_strs | exact .inr ⟨rfl, bel_strs⟩ | exact .inr ⟨by simp, bel_strs⟩ | (simp; done) | exact .inr ⟨rfl, by simp⟩ | exact .inr ⟨by simp, by simp⟩)); done
        · (try dsimp only); exact ⟨by omega, by rw [Go.Sort.swp_size]; exact k2, (dnS_step (by omega)).symm.trans k3⟩
        · (try simp only []); omega)
    | (
        first
        | (refine ⟨((s + r) / 2 + 1, r), ?_, ⟨by show lo ≤ (s + r) / 2 + 1; omega, by show (lo + hi) / 2 + mi ≤ hi + ((s + r) / 2 + 1); omega, by show (s + r) / 2 + 1 ≤ r; omega, g4, g5, by rw [← g6]; exact (bs_lt (by omega) (nlt_t (by assumption))).symm⟩, by show r - ((s + r) / 2 + 1) < r - s; omega⟩
           (try simp only [go_sem]); (try rw [wrap64_id (by omega) (by omega)]); (try simp only [List.set_set, List.length_set]); (repeat' (first | assumption | exact OwnBel.wk (hob _) | exact wkK_self | exact .inr ⟨rfl, decide_eq_true hid⟩ | exact .inr (decide_eq_true hid) | refine And.intro ?_ ?_ | exact .inl rfl | exact .inr rfl | exact .inr ⟨rfl, rfl⟩ | trivial | exact .inr (oblA rfl) | exact .inr ⟨rfl, oblA rfl⟩ | exact .inr bel_strs | exact .inr ⟨rfl, bel_strs⟩ | exact .inr ⟨by simp, bel_strs⟩ | (simp; done) | exact .inr ⟨rfl, by simp⟩ | exact .inr ⟨by simp, by simp⟩)); done)
        | (refine ⟨(s, (s + r) / 2), ?_, ⟨g1, g2, by show s ≤ (s + r) / 2; omega, by show (s + r) / 2 ≤ (lo + hi) / 2; omega, by show (s + r) / 2 ≤ mi; omega, by rw [← g6]; exact (bs_ge (by omega) (nlt_f (by assumption))).symm⟩, by show (s + r) / 2 - s < r - s; omega⟩
           (try simp only [go_sem]); (try simp only [List.set_set, List.length_set]); (repeat' (first | assumption | exact OwnBel.wk (hob _) | exact wkK_self | exact .inr ⟨rfl, decide_eq_true hid⟩ | exact .inr (decide_eq_true hid) | refine And.intro ?_ ?_ | exact .inl rfl | exact .inr rfl | exact .inr ⟨rfl, rfl⟩ | trivial | exact .inr (oblA rfl) | exact .inr ⟨rfl, oblA rfl⟩ | exact .inr bel_strs | exact .inr ⟨rfl, bel_strs⟩ | exact .inr ⟨by simp, bel_strs⟩ | (simp; done) | exact .inr ⟨rfl, by simp⟩ | exact .inr ⟨by simp, by simp⟩)); done))
    | (
        refine AWP.ret ?_
        (try simp only [inb_ret, athen_ret])
        (try simp only [List.set_set])
        first
        | exact hBr _ _ (by rw [sym_1 (by omega), gi, ← k3, upS_end (by omega)])
        | exact hBr _ _ (by rw [sym_2 (by omega) (by omega), gi, ← k3, dnS_end (by omega)]))
    | (exfalso; omega)
    | (refine hBn _ _ ?_; rw [sym_3 (by omega) (by omega) gs he1 he2]; rw [if_pos (by omega)]; done)
    | (refine hBn _ _ ?_; rw [sym_3 (by omega) (by omega) gs he1 he2]; rw [if_neg (by omega)]; done)
    | refine AWP.fin (by assumption) ?_
    | fail)


end Go.Proofs.YtajeeghgiilhiaaGreat
end
section
set_option linter.unusedVariables false
set_option linter.unusedSimpArgs false
namespace Go.Proofs.YtajeeghgiilhiaaGreat
open Go Go.Abs Go.RowKit Go.Bk

set_option maxRecDepth 100000 in
set_option maxHeartbeats 16000000 in
theorem stb_call {ops : Array Oper} {l0 : List Oper} {Q : Exit → St → Prop} {tmps up : List AV} {gl : Nat → Option (List AV)} {own : List (Option (List AV))} {tk : List Nat} {dst : Option Tmp} {x0 x1 x2 : Operand} {tys : Array TypeId} {ty : TypeId} {pos : String} {after : Array Edge} {id m N : Nat} {d : Array Po} 
    (hx0 : St.ev ⟨tmps, own, tk, gl, none, up⟩ x0 = .mu id 5 0 N (N + m))
    (hx1 : St.ev ⟨tmps, own, tk, gl, none, up⟩ x1 = i64 (N : Int))
    (hx2 : St.ev ⟨tmps, own, tk, gl, none, up⟩ x2 = .fn 104 [])
    (ho : own[id]? = some (some (rowP d m)))
    (hbu : (tmps ++ up).all (AV.bel own.length tk.length) = true)
    (hbo : OwnBel own own.length tk.length)
    (hl : N ≤ 1000000)
    (hN : d.size = N)
    (hend : AWPL E ops l0 Q (St.put ⟨tmps, own.set id (some (rowP (Go.Stb.stable ltP d) m)), tk, gl, none, up⟩ dst (.tup []))) : AWPL E ops (⟨dst, .call ⟨.value (.func 185), #[x0, x1, x2], tys⟩, ty, pos, after, none⟩ :: l0) Q ⟨tmps, own, tk, gl, none, up⟩ := by
  have hid := lt_of_get ho
  obtain ⟨ow, how⟩ : ∃ ow : List (Option (List AV)), own = ow.set id (some (rowP d m)) := ⟨own, (set_same ho).symm⟩
  subst how
  rw [List.length_set] at hid
  have hob : ∀ d' : Array Po, OwnBel (ow.set id (some (rowP d' m))) ow.length tk.length := fun d' => by
    have := hbo.set (id := id) (bel_rowP d' m); rwa [List.set_set, List.length_set] at this
  have hob2 : ∀ d' : Array Po, OwnBel (ow.set id (some (rowP d' m))) (ow.set id (some (rowP d' m))).length tk.length := fun d' => by rw [List.length_set]; exact hob d'
  rw [List.length_set] at hbu
  simp only [List.set_set] at hend
  refine AWPL.call (caps := []) (rs := []) Tryz.func185 rfl Tryz.ntmps185 rfl (by kernel_rfl) rfl rfl ?_
  show AWP E _ _ ⟨([St.ev _ x0, St.ev _ x1, St.ev _ x2] ++ []) ++ List.replicate (63 - 3) (.v undef), _, tk, gl, none, tmps ++ up⟩
  rw [hx0, hx1, hx2]
  have hBn : ∀ (tm : List AV) (d' : Array Po), d' = Go.Stb.stable ltP d → AInPost E.P [] ⟨tmps, ow.set id (some (rowP d m)), tk, gl, none, up⟩ (fun s z => AWPL E ops l0 Q (s.put dst z)) .normal ⟨tm, ow.set id (some (rowP d' m)), tk, gl, none, tmps ++ up⟩ := fun tm d' e => by subst e; exact ⟨rfl, hend⟩
  have hBr : ∀ (tm : List AV) (d' : Array Po), d' = Go.Stb.stable ltP d → AInPost E.P [] ⟨tmps, ow.set id (some (rowP d m)), tk, gl, none, up⟩ (fun s z => AWPL E ops l0 Q (s.put dst z)) .ret ⟨tm, ow.set id (some (rowP d' m)), tk, gl, none, tmps ++ up⟩ := fun tm d' e => by subst e; exact ⟨rfl, hend⟩
  generalize AInPost E.P [] ⟨tmps, ow.set id (some (rowP d m)), tk, gl, none, up⟩ (fun s z => AWPL E ops l0 Q (s.put dst z)) = Q1 at hBn hBr ⊢
  generalize tmps ++ up = up' at hbu hBn hBr ⊢
  clear hend ho hbo hx0 hx1 hx2
  have hset : ∀ x, (ow.set id x)[id]? = some x := fun x => List.getElem?_set_self hid
  repeat' (first
    | refine AWP.seqk fun K hK => ?_
    | (
        refine AWP.here 5 20 4 rfl ?_
        have w0 : IntKind.i64.wrap (((x + 20 : Nat) : Int) + 20) = ((x + 20 + 20 : Nat) : Int) := by rw [wrap64_id (by omega) (by omega)]; omega
        refine AWP.region ?_; simp only [go_sem, hset, List.set_set, List.length_set, w0])
    | (
        refine AWP.here 8 31 4 rfl ?_
        have w0 : IntKind.i64.wrap ((2 : Int) * s) = ((2 * s : Nat) : Int) := by rw [wrap64_id (by omega) (by omega)]; omega
        refine AWP.region ?_; simp only [go_sem, hset, List.set_set, List.length_set, w0])
    | (
        refine AWP.here 12 45 5 rfl ?_
        have w0 : IntKind.i64.wrap ((2 : Int) * s) = ((2 * s : Nat) : Int) := by rw [wrap64_id (by omega) (by omega)]; omega
        have w1 : IntKind.i64.wrap (((x + 2 * s : Nat) : Int) + ((2 * s : Nat) : Int)) = ((x + 2 * s + 2 * s : Nat) : Int) := by rw [wrap64_id (by omega) (by omega)]; omega
        refine AWP.region ?_; simp only [go_sem, hset, List.set_set, List.length_set, w0, w1])
    | (
        refine AWP.here 13 49 4 rfl ?_
        have w0 : IntKind.i64.wrap ((x : Int) + s) = ((x + s : Nat) : Int) := by rw [wrap64_id (by omega) (by omega)]; omega
        refine AWP.region ?_; simp only [go_sem, hset, List.set_set, List.length_set, w0])
    | (
        refine AWP.here 16 61 3 rfl ?_
        first
        | rw [show rowP (Go.Stb.symM ltP x (x + s) N e2) m = rowP (Go.Stb.mrgP ltP N s 0 (2 * s) e) m by rw [← k3, mrgP_end1 (by omega) (by omega) (by omega)]]
        | rw [show rowP e2 m = rowP (Go.Stb.mrgP ltP N s 0 (2 * s) e) m by rw [← k3, mrgP_end2 (by omega) (by omega) (by omega)]]
        have z3 : (Go.Stb.mrgP ltP N s 0 (2 * s) e).size = N := by
          rw [← k3]
          rcases Nat.lt_or_ge (x + s) N with q | q
          · rw [mrgP_end1 (by omega) (by omega) (by omega), symM_size]; exact k2
          · rw [mrgP_end2 (by omega) (by omega) (by omega)]; exact k2
        have w0 : IntKind.i64.wrap ((s : Int) * 2) = ((s * 2 : Nat) : Int) := by rw [wrap64_id (by omega) (by omega)]; omega
        refine AWP.region ?_; simp only [go_sem, hset, List.set_set, List.length_set, w0])
    | (
        refine AWP.here 3 14 5 rfl ?_
        refine AWP.regionL ?_
        refine AWPL.at 5 4 rfl ?_
        simp only [go_sem, hset, List.set_set, List.length_set]
        (repeat (refine ⟨⟨_, rfl⟩, ?_⟩))
        refine isr_call (id := id) (m := m) (N := N) (d := e) (lo := x) (hi := x + 20) (by rfl) (by rfl) (by rfl) (by rfl) (hset _) (by simp only [List.length_set, List.all_append, hbu, List.all_cons, List.all_nil, List.cons_append, List.nil_append, AV.bel, AV.bel2, AV.bel1, decide_eq_true hid, Bool.and_true, Bool.true_and, List.all_replicate]) (hob2 _) hl (by first | assumption | omega) (by omega) (by omega) ?_
        simp only [go_sem, hset, List.set_set, List.length_set]
        refine AWPL.of ?_
        (try simp only [go_sem, hset, List.set_set, List.length_set]))
    | (
        refine AWP.here 6 23 5 rfl ?_
        refine AWP.regionL ?_
        refine AWPL.at 5 4 rfl ?_
        simp only [go_sem, hset, List.set_set, List.length_set]
        (repeat (refine ⟨⟨_, rfl⟩, ?_⟩))
        refine isr_call (id := id) (m := m) (N := N) (d := e) (lo := x) (hi := N) (by rfl) (by rfl) (by rfl) (by rfl) (hset _) (by simp only [List.length_set, List.all_append, hbu, List.all_cons, List.all_nil, List.cons_append, List.nil_append, AV.bel, AV.bel2, AV.bel1, decide_eq_true hid, Bool.and_true, Bool.true_and, List.all_replicate]) (hob2 _) hl (by first | assumption | omega) (by omega) (by omega) ?_
        simp only [go_sem, hset, List.set_set, List.length_set]
        refine AWPL.of ?_
        (try simp only [go_sem, hset, List.set_set, List.length_set])
        rw [show Go.Sort.insertionSort ltP e x N = Go.Stb.insB ltP N 0 20 d by rw [← g3, insB_stop (by omega)]]
        have z1 : (Go.Stb.insB ltP N 0 20 d).size = N := by rw [← g3, insB_stop (by omega), isort_size (by omega) (by omega)]; exact g2
        generalize he1 : Go.Stb.insB ltP N 0 20 d = e1 at z1 ⊢)
    | (
        refine AWP.here 10 36 8 rfl ?_
        have w0 : IntKind.i64.wrap ((x : Int) + s) = ((x + s : Nat) : Int) := by rw [wrap64_id (by omega) (by omega)]; omega
        refine AWP.regionL ?_
        refine AWPL.at 8 7 rfl ?_
        simp only [go_sem, hset, List.set_set, List.length_set, w0]
        (repeat (refine ⟨⟨_, rfl⟩, ?_⟩))
        refine sym_call _ (id := id) (m := m) (N := N) (d := e2) (lo := x) (mi := x + s) (hi := x + 2 * s) (by rfl) (by rfl) (by rfl) (by rfl) (by rfl) (hset _) (by simp only [List.length_set, List.all_append, hbu, List.all_cons, List.all_nil, List.cons_append, List.nil_append, AV.bel, AV.bel2, AV.bel1, decide_eq_true hid, Bool.and_true, Bool.true_and, List.all_replicate]) (hob2 _) hl (by first | assumption | omega) (by omega) (by omega) (by omega) ?_ (Nat.le_refl _)
        simp only [go_sem, hset, List.set_set, List.length_set, w0]
        refine AWPL.of ?_
        (try simp only [go_sem, hset, List.set_set, List.length_set, w0]))
    | (
        refine AWP.here 15 55 6 rfl ?_
        refine AWP.regionL ?_
        refine AWPL.at 6 5 rfl ?_
        simp only [go_sem, hset, List.set_set, List.length_set]
        (repeat (refine ⟨⟨_, rfl⟩, ?_⟩))
        refine sym_call _ (id := id) (m := m) (N := N) (d := e2) (lo := x) (mi := x + s) (hi := N) (by rfl) (by rfl) (by rfl) (by rfl) (by rfl) (hset _) (by simp only [List.length_set, List.all_append, hbu, List.all_cons, List.all_nil, List.cons_append, List.nil_append, AV.bel, AV.bel2, AV.bel1, decide_eq_true hid, Bool.and_true, Bool.true_and, List.all_replicate]) (hob2 _) hl (by first | assumption | omega) (by omega) (by omega) (by omega) ?_ (Nat.le_refl _)
        simp only [go_sem, hset, List.set_set, List.length_set]
        refine AWPL.of ?_
        (try simp only [go_sem, hset, List.set_set, List.length_set]))
    | (refine AWP.region ?_; simp only [go_sem, hset, List.set_set, List.length_set])
    | (refine hK _ ?_; clear hK K)
    | refine AWP.block ?_
    | refine AWP.cond rfl (fun c => ?_) (fun c => ?_) <;> first | exact Bool.noConfusion c | (try simp only [dD] at c)
    | refine AWP.skip ?_
    | (refine AWP.exit ?_; simp only [go_sem, hset, List.set_set, List.length_set])
    | (refine ACall.one (isr_call ) (by kernel_rfl) rfl ?_; simp only [go_sem, hset, List.set_set, List.length_set])
    | (refine ACall.one (sym_call ) (by kernel_rfl) rfl ?_; simp only [go_sem, hset, List.set_set, List.length_set])
    | (refine AGet.haveM (by assumption) ?_; (try simp only [go_sem, hset, List.set_set, List.length_set]))
    | (refine AGet.have' (by assumption) ?_; (try simp only [go_sem, hset, List.set_set, List.length_set]))
    | ((first | refine AGet.nth ?_ (fun b hb => ?_) | refine AGet.nth1 ?_ (fun b hb => ?_) | with_reducible refine And.intro ?_ ?_); (focus (first | omega | assumption | exact List.length_pos_iff.2 (by assumption) | (simp only [List.length_append, List.length_cons, List.length_nil, List.length_map, List.length_take, List.length_drop] at *; omega) | (rw [wrap64_id (by omega) (by omega)]; omega) | (simp; done) | (simp [spare_len]; done) | (exact ⟨by omega, by omega⟩))); (try simp only [hb, go_sem, hset, List.set_set, List.length_set]))
    | (
        refine AWP.here 2 11 3 rfl ?_
        refine AWP.loopM (ι := Nat × Array Po) [11, 12, 13, 14, 15, 16, 17, 18, 19, 20, 21, 22] (fun ⟨x, e⟩ => [(7, i64 x), (8, i64 ((x + 20 : Nat) : Int))]) (fun ⟨x, e⟩ => ow.set id (some (rowP e m))) (fun ⟨x, e⟩ => tk) (fun ⟨x, e⟩ => x ≤ N ∧ e.size = N ∧ Go.Stb.insB ltP N x (x + 20) e = Go.Stb.insB ltP N 0 20 d) (fun ⟨x, e⟩ => N - x) ((0, d)) ?_ ?_ ?_
        · (try simp only [go_sem]); (try simp only [List.set_set, List.length_set]); (repeat' (first | assumption | exact OwnBel.wk (hob _) | exact wkK_self | exact .inr ⟨rfl, decide_eq_true hid⟩ | exact .inr (decide_eq_true hid) | refine And.intro ?_ ?_ | exact .inl rfl | exact .inr rfl | exact .inr ⟨rfl, rfl⟩ | trivial | exact .inr (oblA rfl) | exact .inr ⟨rfl, oblA rfl⟩ | exact .inr bel_strs | exact .inr ⟨rfl, bel_strs⟩ | exact .inr ⟨by simp, bel_strs⟩ | (simp; done) | exact .inr ⟨rfl, by simp⟩ | exact .inr ⟨by simp, by simp⟩)); done
        · exact ⟨by omega, hN, rfl⟩
        rintro ⟨x, e⟩ ⟨g1, g2, g3⟩
        simp only [go_sem, hset, List.set_set, List.length_set])
    | (
        refine AWP.here 7 28 3 rfl ?_
        refine AWP.loopM (ι := Nat × Array Po) [7, 8, 9, 28, 29, 30, 31, 32, 33, 34, 35, 36, 37, 38, 39, 40, 41, 42, 43, 44, 45, 46, 47, 48, 49, 50, 51, 52, 53, 54, 55, 56, 57, 58, 59, 60, 61, 62] (fun ⟨s, e⟩ => [(6, i64 s)]) (fun ⟨s, e⟩ => ow.set id (some (rowP e m))) (fun ⟨s, e⟩ => tk) (fun ⟨s, e⟩ => 0 < s ∧ s ≤ 2 * N + 20 ∧ e.size = N ∧ Go.Stb.mrgL ltP N s e = Go.Stb.mrgL ltP N 20 e1) (fun ⟨s, e⟩ => N - s) ((20, e1)) ?_ ?_ ?_
        · (try simp only [go_sem]); (try simp only [List.set_set, List.length_set]); (repeat' (first | assumption | exact OwnBel.wk (hob _) | exact wkK_self | exact .inr ⟨rfl, decide_eq_true hid⟩ | exact .inr (decide_eq_true hid) | refine And.intro ?_ ?_ | exact .inl rfl | exact .inr rfl | exact .inr ⟨rfl, rfl⟩ | trivial | exact .inr (oblA rfl) | exact .inr ⟨rfl, oblA rfl⟩ | exact .inr bel_strs | exact .inr ⟨rfl, bel_strs⟩ | exact .inr ⟨by simp, bel_strs⟩ | (simp; done) | exact .inr ⟨rfl, by simp⟩ | exact .inr ⟨by simp, by simp⟩)); done
        · exact ⟨by omega, by omega, z1, rfl⟩
        rintro ⟨s, e⟩ ⟨j1, j2, j3, j4⟩
        simp only [go_sem, hset, List.set_set, List.length_set])
    | (
        refine AWP.here 9 33 3 rfl ?_
        refine AWP.loopM (ι := Nat × Array Po) [33, 34, 35, 36, 37, 38, 39, 40, 41, 42, 43, 44, 45, 46, 47, 48] (fun ⟨x, e2⟩ => [(7, i64 x), (8, i64 ((x + 2 * s : Nat) : Int))]) (fun ⟨x, e2⟩ => ow.set id (some (rowP e2 m))) (fun ⟨x, e2⟩ => tk) (fun ⟨x, e2⟩ => x ≤ N ∧ e2.size = N ∧ Go.Stb.mrgP ltP N s x (x + 2 * s) e2 = Go.Stb.mrgP ltP N s 0 (2 * s) e) (fun ⟨x, e2⟩ => N - x) ((0, e)) ?_ ?_ ?_
        · (try simp only [go_sem]); (try rw [Nat.zero_add]); (try simp only [List.set_set, List.length_set]); (repeat' (first | assumption | exact OwnBel.wk (hob _) | exact wkK_self | exact .inr ⟨rfl, decide_eq_true hid⟩ | exact .inr (decide_eq_true hid) | refine And.intro ?_ ?_ | exact .inl rfl | exact .inr rfl | exact .inr ⟨rfl, rfl⟩ | trivial | exact .inr (oblA rfl) | exact .inr ⟨rfl, oblA rfl⟩ | exact .inr bel_strs | exact .inr ⟨rfl, bel_strs⟩ | exact .inr ⟨by simp, bel_strs⟩ | (simp; done) | exact .inr ⟨rfl, by simp⟩ | exact .inr ⟨by simp, by simp⟩)); done
        · exact ⟨by omega, j3, by rw [Nat.zero_add]⟩
        rintro ⟨x, e2⟩ ⟨k1, k2, k3⟩
        simp only [go_sem, hset, List.set_set, List.length_set])
    | (
        refine ⟨(x + 20, Go.Sort.insertionSort ltP e x (x + 20)), ?_, ?_, ?_⟩
        · (try simp only [go_sem]); (try rw [wrap64_id (by omega) (by omega)]); (try simp only [List.set_set, List.length_set]); (repeat' (first | assumption | exact OwnBel.wk (hob _) | exact wkK_self | exact .inr ⟨rfl, decide_eq_true hid⟩ | exact .inr (decide_eq_true hid) | refine And.intro ?_ ?_ | exact .inl rfl | exact .inr rfl | exact .inr ⟨rfl, rfl⟩ | trivial | exact .inr (oblA rfl) | exact .inr ⟨rfl, oblA rfl⟩ | exact .inr bel_strs | exact .inr ⟨rfl, bel_strs⟩ | exact .inr ⟨by simp, bel_strs⟩ | (simp; done) | exact .inr ⟨rfl, by simp⟩ | exact .inr ⟨by simp, by simp⟩)); done
        · (try dsimp only); exact ⟨by omega, by rw [isort_size (by omega) (by omega)]; exact g2, (insB_step (by omega)).symm.trans g3⟩
        · (try simp only []); omega)
    | (
        refine ⟨(s * 2, Go.Stb.mrgP ltP N s 0 (2 * s) e), ?_, ?_, ?_⟩
        · (try simp only [go_sem]); (try rw [wrap64_id (by omega) (by omega)]); (try simp only [List.set_set, List.length_set]); (repeat' (first | assumption | exact OwnBel.wk (hob _) | exact wkK_self | exact .inr ⟨rfl, decide_eq_true hid⟩ | exact .inr (decide_eq_true hid) | refine And.intro ?_ ?_ | exact .inl rfl | exact .inr rfl | exact .inr ⟨rfl, rfl⟩ | trivial | exact .inr (oblA rfl) | exact .inr ⟨rfl, oblA rfl⟩ | exact .inr bel_strs | exact .inr ⟨rfl, bel_strs⟩ | exact .inr ⟨by simp, bel_strs⟩ | (simp; done) | exact .inr ⟨rfl, by simp⟩ | exact .inr ⟨by simp, by simp⟩)); done
        · (try dsimp only); exact ⟨by omega, by omega, z3, (mrgL_step (by omega) (by omega)).symm.trans j4⟩
        · (try simp only []); omega)
    | (
        refine ⟨(x + 2 * s, Go.Stb.symM ltP x (x + s) (x + 2 * s) e2), ?_, ?_, ?_⟩
        · (try simp only [go_sem]); (try rw [wrap64_id (by omega) (by omega)]); (try simp only [List.set_set, List.length_set]); (repeat' (first | assumption | exact OwnBel.wk (hob _) | exact wkK_self | exact .inr ⟨rfl, decide_eq_true hid⟩ | exact .inr (decide_eq_true hid) | refine And.intro ?_ ?_ | exact .inl rfl | exact .inr rfl | exact .inr ⟨rfl, rfl⟩ | trivial | exact .inr (oblA rfl) | exact .inr ⟨rfl, oblA rfl⟩ | exact .inr bel_strs | exact .inr ⟨rfl, bel_strs⟩ | exact .inr ⟨by simp, bel_strs⟩ | (simp; done) | exact .inr ⟨rfl, by simp⟩ | exact .inr ⟨by simp, by simp⟩)); done
        · (try dsimp only); exact ⟨by omega, by rw [symM_size]; exact k2, (mrgP_step (by omega) (by omega)).symm.trans k3⟩
        · (try simp only []); omega)
    | (
        refine AWP.ret ?_
        (try simp only [inb_ret, athen_ret])
        (try simp only [List.set_set])
        exact hBr _ _ rfl)
    | (refine hBn _ _ ?_; unfold Go.Stb.stable; rw [hN, he1, ← j4, mrgL_stop (by omega)]; done)
    | (exfalso; omega)
    | refine AWP.fin (by assumption) ?_
    | fail)

set_option maxRecDepth 100000 in
set_option maxHeartbeats 16000000 in
theorem ssf_call {ops : Array Oper} {l0 : List Oper} {Q : Exit → St → Prop} {tmps up : List AV} {gl : Nat → Option (List AV)} {own : List (Option (List AV))} {tk : List Nat} {dst : Option Tmp} {x0 x1 : Operand} {tys : Array TypeId} {ty : TypeId} {pos : String} {after : Array Edge} {id m N : Nat} {d : Array Po} 
    (hx0 : St.ev ⟨tmps, own, tk, gl, none, up⟩ x0 = .mu id 5 0 N (N + m))
    (hx1 : St.ev ⟨tmps, own, tk, gl, none, up⟩ x1 = .fn 104 [])
    (ho : own[id]? = some (some (rowP d m)))
    (hbu : (tmps ++ up).all (AV.bel own.length tk.length) = true)
    (hbo : OwnBel own own.length tk.length)
    (hl : N ≤ 1000000)
    (hN : d.size = N)
    (hend : AWPL E ops l0 Q (St.put ⟨tmps, own.set id (some (rowP (Go.Stb.stable ltP d) m)), tk, gl, none, up⟩ dst (.tup []))) : AWPL E ops (⟨dst, .call ⟨.value (.func 137), #[x0, x1], tys⟩, ty, pos, after, none⟩ :: l0) Q ⟨tmps, own, tk, gl, none, up⟩ := by
  have hid := lt_of_get ho
  obtain ⟨ow, how⟩ : ∃ ow : List (Option (List AV)), own = ow.set id (some (rowP d m)) := ⟨own, (set_same ho).symm⟩
  subst how
  rw [List.length_set] at hid
  have hob : ∀ d' : Array Po, OwnBel (ow.set id (some (rowP d' m))) ow.length tk.length := fun d' => by
    have := hbo.set (id := id) (bel_rowP d' m); rwa [List.set_set, List.length_set] at this
  have hob2 : ∀ d' : Array Po, OwnBel (ow.set id (some (rowP d' m))) (ow.set id (some (rowP d' m))).length tk.length := fun d' => by rw [List.length_set]; exact hob d'
  rw [List.length_set] at hbu
  simp only [List.set_set] at hend
  refine AWPL.call (caps := []) (rs := []) Tryz.func137 rfl Tryz.ntmps137 rfl (by kernel_rfl) rfl rfl ?_
  show AWP E _ _ ⟨([St.ev _ x0, St.ev _ x1] ++ []) ++ List.replicate (9 - 2) (.v undef), _, tk, gl, none, tmps ++ up⟩
  rw [hx0, hx1]
  have hBn : ∀ (tm : List AV) (d' : Array Po), d' = Go.Stb.stable ltP d → AInPost E.P [] ⟨tmps, ow.set id (some (rowP d m)), tk, gl, none, up⟩ (fun s z => AWPL E ops l0 Q (s.put dst z)) .normal ⟨tm, ow.set id (some (rowP d' m)), tk, gl, none, tmps ++ up⟩ := fun tm d' e => by subst e; exact ⟨rfl, hend⟩
  have hBr : ∀ (tm : List AV) (d' : Array Po), d' = Go.Stb.stable ltP d → AInPost E.P [] ⟨tmps, ow.set id (some (rowP d m)), tk, gl, none, up⟩ (fun s z => AWPL E ops l0 Q (s.put dst z)) .ret ⟨tm, ow.set id (some (rowP d' m)), tk, gl, none, tmps ++ up⟩ := fun tm d' e => by subst e; exact ⟨rfl, hend⟩
  generalize AInPost E.P [] ⟨tmps, ow.set id (some (rowP d m)), tk, gl, none, up⟩ (fun s z => AWPL E ops l0 Q (s.put dst z)) = Q1 at hBn hBr ⊢
  generalize tmps ++ up = up' at hbu hBn hBr ⊢
  clear hend ho hbo hx0 hx1
  have hset : ∀ x, (ow.set id x)[id]? = some x := fun x => List.getElem?_set_self hid
  repeat' (first
    | refine AWP.seqk fun K hK => ?_
    | (
        refine AWP.here 0 4 5 rfl ?_
        refine AWP.regionL ?_
        refine AWPL.at 5 4 rfl ?_
        simp only [go_sem, hset, List.set_set, List.length_set]
        (repeat (refine ⟨⟨_, rfl⟩, ?_⟩))
        refine stb_call (id := id) (m := m) (N := N) (d := d) (by rfl) (by rfl) (by rfl) (hset _) (by simp only [List.length_set, List.all_append, hbu, List.all_cons, List.all_nil, List.cons_append, List.nil_append, AV.bel, AV.bel2, AV.bel1, decide_eq_true hid, Bool.and_true, Bool.true_and, List.all_replicate]) (hob2 _) hl (by first | assumption | omega)  ?_
        simp only [go_sem, hset, List.set_set, List.length_set]
        refine AWPL.of ?_
        (try simp only [go_sem, hset, List.set_set, List.length_set]))
    | (refine AWP.region ?_; simp only [go_sem, hset, List.set_set, List.length_set])
    | (refine hK _ ?_; clear hK K)
    | refine AWP.block ?_
    | refine AWP.cond rfl (fun c => ?_) (fun c => ?_) <;> first | exact Bool.noConfusion c | (try simp only [dD] at c)
    | refine AWP.skip ?_
    | (refine AWP.exit ?_; simp only [go_sem, hset, List.set_set, List.length_set])
    | (refine ACall.one (stb_call ) (by kernel_rfl) rfl ?_; simp only [go_sem, hset, List.set_set, List.length_set])
    | (refine AGet.haveM (by assumption) ?_; (try simp only [go_sem, hset, List.set_set, List.length_set]))
    | (refine AGet.have' (by assumption) ?_; (try simp only [go_sem, hset, List.set_set, List.length_set]))
    | ((first | refine AGet.nth ?_ (fun b hb => ?_) | refine AGet.nth1 ?_ (fun b hb => ?_) | with_reducible refine And.intro ?_ ?_); (focus (first | omega | assumption | exact List.length_pos_iff.2 (by assumption) | (simp only [List.length_append, List.length_cons, List.length_nil, List.length_map, List.length_take, List.length_drop] at *; omega) | (rw [wrap64_id (by omega) (by omega)]; omega) | (simp; done) | (simp [spare_len]; done) | (exact ⟨by omega, by omega⟩))); (try simp only [hb, go_sem, hset, List.set_set, List.length_set]))
    | (
        refine AWP.ret ?_
        (try simp only [inb_ret, athen_ret])
        (try simp only [List.set_set])
        exact hBr _ _ rfl)
    | (exact hBn _ _ rfl)
    | refine AWP.fin (by assumption) ?_
    | fail)


end Go.Proofs.YtajeeghgiilhiaaGreat
end
section
/- Appending whatever comes, nothing too, to a row of one's own. -/
set_option linter.unusedVariables false
set_option linter.unusedSimpArgs false
namespace Go.Abs
open Go Go.RowKit
theorem AWPL.appMuG {E : Env} {Q : Exit → St → Prop} {st : St} {ops : Array Oper} {l : List Oper} {dst : Option Tmp} {t tx ty : TypeId} {x y : Operand} {pos : String} {after : Array Edge} {e : TypeId} {k n id m0 : Nat} {es xs : List AV}
    (hx : srcTy E.P tx = true) (hai : appInfo E.P t = some (e, k, n)) (hs : st.ev x = .mu id k 0 es.length (es.length + m0)) (hsrc : ASrc (st.ev y) k = some xs) (ho : st.own[id]? = some (some (es ++ spare k m0))) (h62 : es.length + xs.length ≤ 4611686018427387904) (hbt : (es.length + xs.length) * n ≤ 140737488355328)
    (h : ∀ m, AWPL E ops l Q (St.put { st with own := st.own.set id none ++ [some (es ++ xs ++ spare k m)] } dst (.mu st.own.length k 0 (es.length + xs.length) (es.length + xs.length + m)))) : AWPL E ops (⟨dst, .call ⟨.builtin .append, #[x, y], #[t, tx]⟩, ty, pos, after, none⟩ :: l) Q st := by
  intro w0 im0 cx a w h0 hG r
  refine wpList_step (fun K' hK' => ?_)
  have hw : Region.wanted ⟨dst, .call ⟨.builtin .append, #[x, y], #[t, tx]⟩, ty, pos, after, none⟩ (yielded ops a.tmps) = true := rfl
  rw [if_pos hw]
  have hv := r.ev x
  rw [hs] at hv
  have fin : ∀ (v' : Value) (w' : World) (c' : Ctx) (m : Nat), (Builtin.append_ #[t, tx] ty #[a.eval x, a.eval y]).run E.P w = .ok v' w' → Rel w0 im0 c' { st with own := st.own.set id none ++ [some (es ++ xs ++ spare k m)] } a w' → VR c' (.mu st.own.length k 0 (es.length + xs.length) (es.length + xs.length + m)) v' →
      Oper.wp E.P ⟨dst, .call ⟨.builtin .append, #[x, y], #[t, tx]⟩, ty, pos, after, none⟩ a w K' (fun e a' w' => Hands w0 im0 (Q e) a' w') := fun v' w' c' m h1 h2 h3 => by
    refine wp_value (w' := w') (v := v') ?_ (hK' _ _ (h m w0 im0 _ _ _ h0 hG (h2.put dst h3)))
    simp only [execOp, resolve, Sem.run_bind, Sem.run_pure, Result.andThen_ok, invoke, builtin, List.map_toArray, List.map_cons, List.map_nil, h1]
  by_cases hne : xs = []
  · subst hne
    obtain ⟨hu, hss, hk0, i, zv, hi, hz, hsize, hbytes, hzs⟩ := appInfo_ok hai
    obtain ⟨news, hnl, hnc, hlen, hone, hfirst⟩ := src_ok (P := E.P) r (r.ev y) hk0 hsrc
    have hnews : news = [] := List.eq_nil_of_length_eq_zero (by simpa using hnl)
    subst hnews
    have hrun : ∀ base (N C : Nat), N ≤ C → a.eval x = .slice base N C → (Builtin.append_ #[t, tx] ty #[a.eval x, a.eval y]).run E.P w = .ok (a.eval x) w := fun base N C hNC hb => by
      rw [hb]
      have := run_append_place (P := E.P) (w := w) (ty := ty) (base := base) (n := N) (cap := C) hu hss hx (hlen w) (hfirst w (fun _ _ => rfl)) (by simpa using hNC)
      rw [this]
      cases base <;> simp [storeCells]
    rcases hv.inv_mu with ⟨g, hb, hcap, he⟩ | ⟨hz1, hz2, he⟩
    · obtain ⟨hle, r2⟩ := r.moveOwn hb ho
      refine fin _ w _ m0 (hrun _ _ _ (by omega) he) (by simpa using r2) ?_
      rw [he]
      exact .mu (by show (cx.β ++ [_])[_]? = _; rw [← r.ownlen]; simp) (by simp)
    · have hes : es = [] := List.eq_nil_of_length_eq_zero hz1
      have hm0 : m0 = 0 := by omega
      subst hes; subst hm0
      obtain ⟨hle, r2⟩ := (r.dropOwn id).addNil
      exact fin _ w _ 0 (hrun _ _ _ (Nat.le_refl _) he) (by simpa [spare] using r2) (by rw [he]; exact .muN)
  · obtain ⟨v', w', c', m, hr, hR, hV⟩ := append_mu (P := E.P) (ty := ty) r hx hai (r.ev y) hsrc hne (es := es) (sp := spare k m0) (by rw [spare_len]; exact hv) ho h62 hbt
    exact fin v' w' c' m hr (by simpa using hR) (by simpa using hV)
end Go.Abs
end
section
set_option linter.unusedVariables false
set_option linter.unusedSimpArgs false
namespace Go.Proofs.YtajeeghgiilhiaaGreat
open Go Go.Abs Go.RowKit Go.Bk
theorem po_ren (σ : Nat → Option Nat) (a : List Po) (m : Nat) : (a.map poV ++ spare 5 m).map (AV.ren σ) = a.map poV ++ spare 5 m := ren_row fun _ => rfl
abbrev pssV (l : List (List Po)) : AV := .sl none 1 (l.map fun x => AV.sl none 5 (x.map poV))
theorem togF_n {n : Nm} {l : List Po} {i : Nat} {qs vs : List Int} (hi : l.length ≤ i) (hq : qs = (l.take i).map (·.qty)) (hv : vs = (l.take i).map (·.value)) (ho : (l.take i).any (·.over) = false) (h : (sumF qs).2 = false ∨ (sumF vs).2 = false) : togF n l = ⟨n.1, n.2, 0, 0, true⟩ := by
  rw [togF_end hi hq hv ho, if_neg]
  rcases h with h | h <;> simp [h]
theorem togF_y {n : Nm} {l : List Po} {i : Nat} {qs vs : List Int} (hi : l.length ≤ i) (hq : qs = (l.take i).map (·.qty)) (hv : vs = (l.take i).map (·.value)) (ho : (l.take i).any (·.over) = false) (h : (sumF qs).2 = true) (h2 : (sumF vs).2 = true) : togF n l = ⟨n.1, n.2, (sumF qs).1, (sumF vs).1, false⟩ := by
  rw [togF_end hi hq hv ho, if_pos (by rw [h, h2]; rfl)]
abbrev posV (l : List Po) : AV := .sl none 5 (l.map poV)
theorem bel_pos {no nt m : Nat} {l : List Po} : ∀ es, some (l.map poV ++ spare 5 m) = some es → ∀ e ∈ es, ∀ z ∈ e.leaves, z.bel no nt = true := bel_row fun x z hz => by
  simp only [AV.leaves, List.mem_cons, List.not_mem_nil, or_false] at hz
  rcases hz with rfl | rfl | rfl | rfl | rfl <;> rfl
theorem cl_po (l : List Po) : ∀ e ∈ l.map poV, ∀ x ∈ e.leaves, x.clean1 = some x := by
  intro e he x hx
  obtain ⟨o, _, rfl⟩ := List.mem_map.1 he
  simp only [AV.leaves, List.mem_cons, List.not_mem_nil, or_false] at hx
  rcases hx with rfl | rfl | rfl | rfl | rfl <;> rfl

set_option maxHeartbeats 4000000 in
set_option maxRecDepth 8000 in
theorem mright_c (l : List Po) (hl : l.length ≤ 1000000) : ACalls E 40 [posV l] (fun r t => r = bl (riseP l) ∧ t = []) := by -- checkroll/merge.Right
  refine ACalls.of_awp (n := 47) (rs := [.tmp 2]) Tryz.func40 rfl Tryz.ntmps40 rfl ?_
  repeat' (first
    | refine AWP.seqk fun K hK => ?_
    | (
        refine AWP.here 3 9 6 rfl ?_
        obtain ⟨x, hx⟩ : ∃ x, l[i]? = some x := ⟨_, List.getElem?_eq_getElem (by omega)⟩
        refine AWP.region ?_; simp only [go_sem])
    | (refine AWP.region ?_; simp only [go_sem])
    | (refine AWP.here 4 12 12 rfl ?_; refine AWP.regionO [0, 1, 2, 3, 4, 5, 6, 7, 8, 9, 10, 11] [] (by kernel_rfl) (by kernel_rfl) rfl ?_; simp only [go_sem])
    | (refine hK _ ?_; clear hK K)
    | refine AWP.block ?_
    | refine AWP.cond rfl (fun c => ?_) (fun c => ?_) <;> first | exact Bool.noConfusion c | (try simp only [dD] at c)
    | refine AWP.skip ?_
    | (refine AWP.exit ?_; simp only [go_sem])
    | (refine ACall.one (byn_c b x) (by kernel_rfl) rfl ?_; simp only [go_sem])
    | (refine ACall.one (numr_c x.qty) (by kernel_rfl) rfl ?_; simp only [go_sem])
    | (refine ACall.one (numr_c x.value) (by kernel_rfl) rfl ?_; simp only [go_sem])
    | (refine AGuard.splitN (fun h => ?_) (fun h => ?_) <;> simp only [h, go_sem] <;> (try simp only [dD] at h))
    | (refine AGuard.split (fun h => ?_) (fun h => ?_) <;> simp only [h, go_sem] <;> (try simp only [dD] at h))
    | (refine AGet.haveM (by assumption) ?_; (try simp only [go_sem]))
    | (refine AGet.have' (by assumption) ?_; (try simp only [go_sem]))
    | ((first | refine AGet.nth ?_ (fun b hb => ?_) | refine AGet.nth1 ?_ (fun b hb => ?_) | with_reducible refine And.intro ?_ ?_); (focus (first | omega | assumption | exact List.length_pos_iff.2 (by assumption) | (simp only [List.length_append, List.length_cons, List.length_nil, List.length_map, List.length_take, List.length_drop] at *; omega) | (rw [wrap64_id (by omega) (by omega)]; omega) | (simp; done) | (simp [spare_len]; done) | (exact ⟨by omega, by omega⟩))); (try simp only [hb, go_sem]))
    | (
        refine AWP.here 2 8 1 rfl ?_
        refine AWP.loopN (ι := Nat) [2, 3, 4, 8, 9, 10, 11, 12, 13, 14, 15, 16, 17, 18, 19, 20, 21, 22, 23, 24, 25, 26, 27, 28, 29, 30, 31, 32, 33, 34, 35, 36, 37, 38, 39, 40, 41, 42, 43, 44, 45, 46] (fun (i : Nat) => [(7, i64 i)]) (fun (i : Nat) => i ≤ l.length ∧ ∀ k, k < i → okR l k = true) (fun (i : Nat) => l.length - i) (0) ?_ ?_ ?_
        · (try simp only [go_sem]); (repeat' (first | refine And.intro ?_ ?_ | exact .inl rfl | exact .inr rfl | exact .inr ⟨rfl, rfl⟩ | trivial | exact .inr (oblA rfl) | exact .inr ⟨rfl, oblA rfl⟩ | exact .inr bel_strs | exact .inr ⟨rfl, bel_strs⟩ | exact .inr ⟨by simp, bel_strs⟩ | (simp; done) | exact .inr ⟨rfl, by simp⟩ | exact .inr ⟨by simp, by simp⟩)); done
        · exact ⟨by omega, fun k hk => by omega⟩
        rintro i ⟨h1, h3⟩
        simp only [go_sem])
    | (
        refine ⟨i + 1, ?_, ?_, ?_⟩
        · (try simp only [go_sem]); (try rw [wrap64_id (by omega) (by omega)]); (repeat' (first | refine And.intro ?_ ?_ | exact .inl rfl | exact .inr rfl | exact .inr ⟨rfl, rfl⟩ | trivial | exact .inr (oblA rfl) | exact .inr ⟨rfl, oblA rfl⟩ | exact .inr bel_strs | exact .inr ⟨rfl, bel_strs⟩ | exact .inr ⟨by simp, bel_strs⟩ | (simp; done) | exact .inr ⟨rfl, by simp⟩ | exact .inr ⟨by simp, by simp⟩)); done
        · exact ⟨by omega, upto_next h3 (by first | exact okR_ok0 hx (by omega) (by first | exact okP_n (by assumption) (by assumption) (by assumption) | exact okP_z (by assumption) (by assumption) (by assumption) (by assumption)) | (rw [wrap_pred (by omega) (by omega)] at hb; exact okR_ok hx hb (by first | exact okP_n (by assumption) (by assumption) (by assumption) | exact okP_z (by assumption) (by assumption) (by assumption) (by assumption)) (by omega)))⟩
        · (try simp only []); omega)
    | (
        refine AWP.ret ?_
        refine AEnd.is ?_; simp only [go_sem, out_v, out_s, out_n, v_int, v_bool, v_str] <;> (first | (rw [riseP_no hx (okR_bad1 hx (by first | exact okP_q (by assumption) | exact okP_v (by assumption) | exact okP_o (by assumption) (.inl (by assumption)) | exact okP_o (by assumption) (.inr (by assumption))))]; done) | (rw [wrap_pred (by omega) (by omega)] at hb; rw [riseP_no hx (okR_bad2 hx (by omega) hb (by omega))]; done) | (rw [riseP_yes (by omega) h3]; done) | skip))
    | refine AWP.fin (by assumption) ?_
    | fail)

set_option maxHeartbeats 4000000 in
set_option maxRecDepth 8000 in
theorem mget_c (l : List Po) (a s : Bs) (hl : l.length ≤ 9223372036854775807) : ACalls E 69 [posV l, str a, str s] (fun r t => r = poV (getP l (a, s)) ∧ t = []) := by -- checkroll/merge.Get
  refine ACalls.of_awp (n := 30) (rs := [.cell 6 49]) Tryz.func69 rfl Tryz.ntmps69 rfl ?_
  repeat' (first
    | refine AWP.seqk fun K hK => ?_
    | (
        refine AWP.here 3 13 4 rfl ?_
        obtain ⟨x, hx⟩ : ∃ x, l[i]? = some x := ⟨_, List.getElem?_eq_getElem (by omega)⟩
        refine AWP.region ?_; simp only [go_sem])
    | (refine AWP.region ?_; simp only [go_sem])
    | (refine hK _ ?_; clear hK K)
    | refine AWP.block ?_
    | refine AWP.cond rfl (fun c => ?_) (fun c => ?_) <;> first | exact Bool.noConfusion c | (try simp only [dD] at c)
    | refine AWP.skip ?_
    | (refine AWP.exit ?_; simp only [go_sem])
    | (refine AGuard.splitN (fun h => ?_) (fun h => ?_) <;> simp only [h, go_sem] <;> (try simp only [dD] at h))
    | (refine AGuard.split (fun h => ?_) (fun h => ?_) <;> simp only [h, go_sem] <;> (try simp only [dD] at h))
    | (refine AGet.haveM (by assumption) ?_; (try simp only [go_sem]))
    | (refine AGet.have' (by assumption) ?_; (try simp only [go_sem]))
    | ((first | refine AGet.nth ?_ (fun b hb => ?_) | refine AGet.nth1 ?_ (fun b hb => ?_) | with_reducible refine And.intro ?_ ?_); (focus (first | omega | assumption | exact List.length_pos_iff.2 (by assumption) | (simp only [List.length_append, List.length_cons, List.length_nil, List.length_map, List.length_take, List.length_drop] at *; omega) | (rw [wrap64_id (by omega) (by omega)]; omega) | (simp; done) | (simp [spare_len]; done) | (exact ⟨by omega, by omega⟩))); (try simp only [hb, go_sem]))
    | (
        refine AWP.here 2 12 1 rfl ?_
        refine AWP.loopN (ι := Nat) [8, 12, 13, 14, 15, 16, 17, 18, 19, 20, 21, 22, 23, 24, 25, 26] (fun (i : Nat) => [(11, i64 i)]) (fun (i : Nat) => i ≤ l.length ∧ ∀ k y, k < i → l[k]? = some y → ¬ (y.acc = a ∧ y.sym = s)) (fun (i : Nat) => l.length - i) (0) ?_ ?_ ?_
        · (try simp only [go_sem]); (repeat' (first | refine And.intro ?_ ?_ | exact .inl rfl | exact .inr rfl | exact .inr ⟨rfl, rfl⟩ | trivial | exact .inr (oblA rfl) | exact .inr ⟨rfl, oblA rfl⟩ | exact .inr bel_strs | exact .inr ⟨rfl, bel_strs⟩ | exact .inr ⟨by simp, bel_strs⟩ | (simp; done) | exact .inr ⟨rfl, by simp⟩ | exact .inr ⟨by simp, by simp⟩)); done
        · exact ⟨by omega, fun k y hk => by omega⟩
        rintro i ⟨h1, h3⟩
        simp only [go_sem])
    | (
        refine ⟨i + 1, ?_, ?_, ?_⟩
        · (try simp only [go_sem]); (try rw [wrap64_id (by omega) (by omega)]); (repeat' (first | refine And.intro ?_ ?_ | exact .inl rfl | exact .inr rfl | exact .inr ⟨rfl, rfl⟩ | trivial | exact .inr (oblA rfl) | exact .inr ⟨rfl, oblA rfl⟩ | exact .inr bel_strs | exact .inr ⟨rfl, bel_strs⟩ | exact .inr ⟨by simp, bel_strs⟩ | (simp; done) | exact .inr ⟨rfl, by simp⟩ | exact .inr ⟨by simp, by simp⟩)); done
        · exact ⟨by omega, noneP_next h3 hx (by (try clear hK); simp_all)⟩
        · (try simp only []); omega)
    | (
        refine AWP.ret ?_
        refine AEnd.is ?_; simp only [go_sem, out_v, out_s, out_n, v_int, v_bool, v_str] <;> (first | (rw [getP_no (n := (a, s)) (by omega) h3]; done) | (rw [getP_no (n := (a, s)) (by omega) h3]; simp; done) | (rw [getP_yes (n := (a, s)) hx h3 (by (try clear hK); simp_all)]; done) | (rw [getP_yes (n := (a, s)) hx h3 (by (try clear hK); simp_all)]; simp; done) | skip))
    | refine AWP.fin (by assumption) ?_
    | fail)

set_option maxHeartbeats 8000000 in
set_option maxRecDepth 8000 in
theorem mtog_c (l : List Po) (p0 : Po) (hl : l.length ≤ 1000000) (hp0 : l[0]? = some p0) : ACalls E 138 [posV l] (fun r t => r = poV (togF (nmP p0) l) ∧ t = []) := by -- checkroll/merge.together
  refine ACalls.of_awp (n := 65) (rs := [.cell 2 49]) Tryz.func138 rfl Tryz.ntmps138 rfl ?_
  repeat' (first
    | refine AWP.seqk fun K hK => ?_
    | (
        refine AWP.here 5 25 4 rfl ?_
        obtain ⟨x, hx⟩ : ∃ x, l[i]? = some x := ⟨_, List.getElem?_eq_getElem (by omega)⟩
        refine AWP.region ?_; simp only [go_sem])
    | (refine AWP.region ?_; simp only [go_sem])
    | (refine AWP.here 1 12 11 rfl ?_; refine AWP.regionO [0, 1, 2, 3, 4, 5, 6, 7, 8, 9, 10] [3] (by kernel_rfl) (by kernel_rfl) rfl ?_; simp only [go_sem])
    | (refine hK _ ?_; clear hK K)
    | refine AWP.block ?_
    | refine AWP.cond rfl (fun c => ?_) (fun c => ?_) <;> first | exact Bool.noConfusion c | (try simp only [dD] at c)
    | refine AWP.skip ?_
    | (refine AWP.exit ?_; simp only [go_sem])
    | (refine ACall.one (nsum_c qs (by omega)) (by kernel_rfl) rfl ?_; simp only [go_sem])
    | (refine ACall.one (nsum_c vs (by omega)) (by kernel_rfl) rfl ?_; simp only [go_sem])
    | (refine AGuard.splitN (fun h => ?_) (fun h => ?_) <;> simp only [h, go_sem] <;> (try simp only [dD] at h))
    | (refine AGuard.split (fun h => ?_) (fun h => ?_) <;> simp only [h, go_sem] <;> (try simp only [dD] at h))
    | (refine AGet.haveM (by assumption) ?_; (try simp only [go_sem]))
    | (refine AGet.have' (by assumption) ?_; (try simp only [go_sem]))
    | ((first | refine AGet.nth ?_ (fun b hb => ?_) | refine AGet.nth1 ?_ (fun b hb => ?_) | with_reducible refine And.intro ?_ ?_); (focus (first | omega | assumption | exact List.length_pos_iff.2 (by assumption) | (simp only [List.length_append, List.length_cons, List.length_nil, List.length_map, List.length_take, List.length_drop] at *; omega) | (rw [wrap64_id (by omega) (by omega)]; omega) | (simp; done) | (simp [spare_len]; done) | (exact ⟨by omega, by omega⟩))); (try simp only [hb, go_sem]))
    | (
        refine AWP.here 4 24 1 rfl ?_
        refine AWP.nilTok 4 1 rfl ?_
        refine AWP.nilTok 5 1 rfl ?_
        simp only [go_sem]
        refine AWP.loopM (ι := Nat × List Int × List Int) [7, 24, 25, 26, 27, 28, 29, 30, 31, 32, 33, 34, 35, 36, 37, 38, 39, 40, 41] (fun ⟨i, qs, vs⟩ => [(23, i64 i), (4, .sl (some 0) 1 (qs.map i64)), (5, .sl (some 1) 1 (vs.map i64))]) (fun ⟨i, qs, vs⟩ => [some [.agg [str [], str [], i64 0, i64 0, bl false]], some [.agg [str p0.acc, str p0.sym, i64 0, i64 0, bl false]]]) (fun ⟨i, qs, vs⟩ => [qs.length, vs.length]) (fun ⟨i, qs, vs⟩ => i ≤ l.length ∧ qs = (l.take i).map (·.qty) ∧ vs = (l.take i).map (·.value) ∧ (l.take i).any (·.over) = false) (fun ⟨i, qs, vs⟩ => l.length - i) ((0, [], [])) ?_ ?_ ?_
        · (try simp only [go_sem]); (repeat' (first | refine And.intro ?_ ?_ | exact .inl rfl | exact .inr rfl | exact .inr ⟨rfl, rfl⟩ | trivial | exact .inr (oblA rfl) | exact .inr ⟨rfl, oblA rfl⟩ | exact .inr bel_strs | exact .inr ⟨rfl, bel_strs⟩ | exact .inr ⟨by simp, bel_strs⟩ | (simp; done) | exact .inr ⟨rfl, by simp⟩ | exact .inr ⟨by simp, by simp⟩)); done
        · exact ⟨by omega, rfl, rfl, rfl⟩
        rintro ⟨i, qs, vs⟩ ⟨h1, h2, h3, h4⟩
        simp only [go_sem]
        have hql : qs.length = i := by rw [h2, List.length_map, List.length_take]; omega
        have hvl : vs.length = i := by rw [h3, List.length_map, List.length_take]; omega)
    | (
        first
        | (refine ⟨(i + 1, qs ++ [x.qty], vs ++ [x.value]), ?_, ⟨by show i + 1 ≤ l.length; omega, by show qs ++ [x.qty] = (l.take (i + 1)).map (·.qty); rw [h2, take_next hx]; simp, by show vs ++ [x.value] = (l.take (i + 1)).map (·.value); rw [h3, take_next hx]; simp, any_next hx h4 (by assumption)⟩, by show l.length - (i + 1) < l.length - i; omega⟩
           (try simp only [go_sem]); (try rw [wrap64_id (by omega) (by omega)]); (repeat' (first | refine And.intro ?_ ?_ | exact .inl rfl | exact .inr rfl | exact .inr ⟨rfl, rfl⟩ | trivial | exact .inr (oblA rfl) | exact .inr ⟨rfl, oblA rfl⟩ | exact .inr bel_strs | exact .inr ⟨rfl, bel_strs⟩ | exact .inr ⟨by simp, bel_strs⟩ | (simp; done) | exact .inr ⟨rfl, by simp⟩ | exact .inr ⟨by simp, by simp⟩)); done))
    | (
        refine AWP.ret ?_
        refine AEnd.is ?_; simp only [go_sem, out_v, out_s, out_n, v_int, v_bool, v_str] <;> (first | (rw [togF_over hx (by assumption)]; simp [nmP]; done) | (rw [togF_n (by omega) h2 h3 h4 (.inl (by assumption))]; simp [nmP]; done) | (rw [togF_n (by omega) h2 h3 h4 (.inr (by assumption))]; simp [nmP]; done) | (rw [togF_y (by omega) h2 h3 h4 (by assumption) (by assumption)]; simp [nmP]; done) | skip))
    | refine AWP.fin (by assumption) ?_
    | fail)


end Go.Proofs.YtajeeghgiilhiaaGreat
end
section
set_option linter.unusedVariables false
set_option linter.unusedSimpArgs false
namespace Go.Proofs.YtajeeghgiilhiaaGreat
open Go Go.Abs Go.RowKit Go.Bk
end Go.Proofs.YtajeeghgiilhiaaGreat
end
section
set_option linter.unusedVariables false
set_option linter.unusedSimpArgs false
namespace Go.Proofs.YtajeeghgiilhiaaGreat
open Go Go.Abs Go.RowKit Go.Bk
theorem nl {v : Bool} {p : Prop} (h : v = true) (h2 : ¬ p) : ¬ (v = false ∨ p) := by simp [h, h2]

end Go.Proofs.YtajeeghgiilhiaaGreat
end
section
set_option linter.unusedVariables false
set_option linter.unusedSimpArgs false
namespace Go.Proofs.YtajeeghgiilhiaaGreat
open Go Go.Abs Go.RowKit Go.Bk
end Go.Proofs.YtajeeghgiilhiaaGreat
end
section
set_option linter.unusedVariables false
set_option linter.unusedSimpArgs false
namespace Go.Proofs.YtajeeghgiilhiaaGreat
open Go Go.Abs Go.RowKit Go.Bk
theorem fillB_yes {b : Bk} {f : Dn} (h0 : ¬ idI b.ids f.id < 0) (h1 : smallB f.qty = true) (h2 : smallB f.price = true) (h3 : ¬ f.time < 0) (h4 : ¬ b.clock < f.time) : fillB b f = true := by
  rw [idI_mem, Classical.not_not] at h0
  simp [fillB, h0, h1, h2]; omega
theorem fillB_no1 {b : Bk} {f : Dn} (h0 : idI b.ids f.id < 0) : fillB b f = false := by
  rw [idI_mem] at h0; simp [fillB, h0]
theorem fillB_no2 {b : Bk} {f : Dn} (h : smallB f.qty = false) : fillB b f = false := by simp [fillB, h]
theorem fillB_no3 {b : Bk} {f : Dn} (h : smallB f.price = false) : fillB b f = false := by simp [fillB, h]
theorem fillB_no4 {b : Bk} {f : Dn} (h : f.time < 0) : fillB b f = false := by
  unfold fillB; rw [show decide (0 ≤ f.time) = false from decide_eq_false (by omega)]; simp
theorem fillB_no5 {b : Bk} {f : Dn} (h : b.clock < f.time) : fillB b f = false := by
  unfold fillB; rw [show decide (f.time ≤ b.clock) = false from decide_eq_false (by omega)]; simp

set_option maxHeartbeats 8000000 in
set_option maxRecDepth 8000 in
theorem r12right_c (bk : Bk) (ho : bk.orders.length ≤ 9223372036854775807) (hf : bk.fills.length ≤ 9223372036854775807) (hi : bk.ids.length ≤ 9223372036854775807) : ACalls E 20 [bkV bk] (fun r t => r = bl (rightBk bk) ∧ t = []) := by -- checkroll/checkrollref12.Right
  refine ACalls.of_awp (n := 110) (rs := [.tmp 2]) Tryz.func20 rfl Tryz.ntmps20 rfl ?_
  repeat' (first
    | refine AWP.seqk fun K hK => ?_
    | (refine AWP.region ?_; simp only [go_sem])
    | (refine AWP.here 6 49 10 rfl ?_; refine AWP.regionO [0, 1, 2, 3, 4, 5, 6, 8, 7, 9] [] (by kernel_rfl) (by kernel_rfl) rfl ?_; simp only [go_sem])
    | (refine hK _ ?_; clear hK K)
    | refine AWP.block ?_
    | refine AWP.cond rfl (fun c => ?_) (fun c => ?_) <;> first | exact Bool.noConfusion c | (try simp only [dD] at c)
    | refine AWP.skip ?_
    | (refine AWP.exit ?_; simp only [go_sem])
    | (refine ACall.one (r11right_c bk.orders (by omega)) (by kernel_rfl) rfl ?_; simp only [go_sem])
    | (refine ACall.one (seen_c bk.ids _ (by omega)) (by kernel_rfl) rfl ?_; simp only [go_sem])
    | (refine ACall.one (r12at_c bk.fills _ (by omega)) (by kernel_rfl) rfl ?_; simp only [go_sem])
    | (refine ACall.one (r12small_c _) (by kernel_rfl) rfl ?_; simp only [go_sem])
    | (refine AGuard.splitN (fun h => ?_) (fun h => ?_) <;> simp only [h, go_sem] <;> (try simp only [dD] at h))
    | (refine AGuard.split (fun h => ?_) (fun h => ?_) <;> simp only [h, go_sem] <;> (try simp only [dD] at h))
    | (refine AGet.haveM (by assumption) ?_; (try simp only [go_sem]))
    | (refine AGet.have' (by assumption) ?_; (try simp only [go_sem]))
    | ((first | refine AGet.nth ?_ (fun b hb => ?_) | refine AGet.nth1 ?_ (fun b hb => ?_) | with_reducible refine And.intro ?_ ?_); (focus (first | omega | assumption | exact List.length_pos_iff.2 (by assumption) | (simp only [List.length_append, List.length_cons, List.length_nil, List.length_map, List.length_take, List.length_drop] at *; omega) | (rw [wrap64_id (by omega) (by omega)]; omega) | (simp; done) | (simp [spare_len]; done) | (exact ⟨by omega, by omega⟩))); (try simp only [hb, go_sem]))
    | (
        refine AWP.here 4 42 5 rfl ?_
        refine AWP.loopM (ι := Nat) [2, 42, 43, 44, 45, 46, 47, 48, 49, 50, 51, 52, 53, 54, 55, 56, 57, 58] (fun (i : Nat) => [(3, i64 i)]) (fun (i : Nat) => [some [.agg [odsV bk.orders, dnsV bk.fills, .sl none 1 (bk.ids.map str), i64 bk.clock, i64 bk.bad]]]) (fun (i : Nat) => []) (fun (i : Nat) => i ≤ bk.ids.length ∧ (bk.ids.take i).Nodup) (fun (i : Nat) => bk.ids.length - i) (0) ?_ ?_ ?_
        · (try simp only [go_sem]); (repeat' (first | refine And.intro ?_ ?_ | exact .inl rfl | exact .inr rfl | exact .inr ⟨rfl, rfl⟩ | trivial | exact .inr (oblA rfl) | exact .inr ⟨rfl, oblA rfl⟩ | exact .inr bel_strs | exact .inr ⟨rfl, bel_strs⟩ | exact .inr ⟨by simp, bel_strs⟩ | (simp; done) | exact .inr ⟨rfl, by simp⟩ | exact .inr ⟨by simp, by simp⟩)); done
        · exact ⟨Nat.zero_le _, by simp⟩
        rintro i ⟨h1, h2⟩
        simp only [go_sem])
    | (
        refine AWP.here 9 59 5 rfl ?_
        refine AWP.loopM (ι := Nat) [2, 5, 59, 60, 61, 62, 63, 64, 65, 66, 67, 68, 69, 70, 71, 72, 73, 74, 75, 76, 77, 78, 79, 80, 81, 82, 83, 84, 85, 86, 87, 88, 89, 90, 91, 92, 93, 94, 95, 96, 97, 98, 99, 100, 101, 102, 103, 104, 105, 106, 107, 108, 109] (fun (i : Nat) => [(4, i64 i)]) (fun (i : Nat) => [some [.agg [odsV bk.orders, dnsV bk.fills, .sl none 1 (bk.ids.map str), i64 bk.clock, i64 bk.bad]]]) (fun (i : Nat) => []) (fun (i : Nat) => i ≤ bk.fills.length ∧ (bk.fills.take i).all (fillB bk) = true ∧ ((bk.fills.take i).map (·.id)).Nodup) (fun (i : Nat) => bk.fills.length - i) (0) ?_ ?_ ?_
        · (try simp only [go_sem]); (repeat' (first | refine And.intro ?_ ?_ | exact .inl rfl | exact .inr rfl | exact .inr ⟨rfl, rfl⟩ | trivial | exact .inr (oblA rfl) | exact .inr ⟨rfl, oblA rfl⟩ | exact .inr bel_strs | exact .inr ⟨rfl, bel_strs⟩ | exact .inr ⟨by simp, bel_strs⟩ | (simp; done) | exact .inr ⟨rfl, by simp⟩ | exact .inr ⟨by simp, by simp⟩)); done
        · exact ⟨Nat.zero_le _, by simp, by simp⟩
        rintro i ⟨g1, g2, g3⟩
        simp only [go_sem])
    | (
        refine ⟨i + 1, ?_, ?_, ?_⟩
        · (try simp only [go_sem]); (try rw [wrap64_id (by omega) (by omega)]); (repeat' (first | refine And.intro ?_ ?_ | exact .inl rfl | exact .inr rfl | exact .inr ⟨rfl, rfl⟩ | trivial | exact .inr (oblA rfl) | exact .inr ⟨rfl, oblA rfl⟩ | exact .inr bel_strs | exact .inr ⟨rfl, bel_strs⟩ | exact .inr ⟨by simp, bel_strs⟩ | (simp; done) | exact .inr ⟨rfl, by simp⟩ | exact .inr ⟨by simp, by simp⟩)); done
        · exact ⟨by omega, once_next hb h2 (by assumption)⟩
        · (try simp only []); omega)
    | (
        refine ⟨i + 1, ?_, ?_, ?_⟩
        · (try simp only [go_sem]); (try rw [wrap64_id (by omega) (by omega)]); (repeat' (first | refine And.intro ?_ ?_ | exact .inl rfl | exact .inr rfl | exact .inr ⟨rfl, rfl⟩ | trivial | exact .inr (oblA rfl) | exact .inr ⟨rfl, oblA rfl⟩ | exact .inr bel_strs | exact .inr ⟨rfl, bel_strs⟩ | exact .inr ⟨by simp, bel_strs⟩ | (simp; done) | exact .inr ⟨rfl, by simp⟩ | exact .inr ⟨by simp, by simp⟩)); done
        · exact ⟨by omega, all_take hb g2 (fillB_yes (by assumption) (by assumption) (by assumption) (by assumption) (by assumption)), fonce_next hb g3 (by assumption)⟩
        · (try simp only []); omega)
    | (
        refine AWP.ret ?_
        refine AEnd.is ?_; simp only [go_sem, out_v, out_s, out_n, v_int, v_bool, v_str] <;> (first
        | (rw [right_n1 (by first | (simp [headB, *]; done) | (simp [headB]; intros; omega))]; done)
        | (rw [right_n2 (once_not hb (by assumption))]; done)
        | (rw [right_n4 (fonce_not hb (by assumption))]; done)
        | (rw [right_n3 hb (fillB_no1 (by assumption))]; done)
        | (rw [right_n3 hb (fillB_no2 (by assumption))]; done)
        | (rw [right_n3 hb (fillB_no3 (by assumption))]; done)
        | (rw [right_n3 hb (fillB_no4 (by assumption))]; done)
        | (rw [right_n3 hb (fillB_no5 (by assumption))]; done)
        | (rw [List.take_of_length_le (by omega)] at h2; rw [List.take_of_length_le (by omega)] at g2 g3; rw [right_y (by simp [headB, *] <;> omega) h2 g2 g3]; done)
        | skip))
    | refine AWP.fin (by assumption) ?_)

set_option maxHeartbeats 4000000 in
set_option maxRecDepth 8000 in
theorem r11same_c (p q : List Od) (hl : p.length ≤ 9223372036854775807) : ACalls E 60 [odsV p, odsV q] (fun r t => r = bl (decide (p = q)) ∧ t = []) := by -- checkroll/checkrollref11.Same
  refine ACalls.of_awp (n := 26) (rs := [.tmp 4]) Tryz.func60 rfl Tryz.ntmps60 rfl ?_
  repeat' (first
    | refine AWP.seqk fun K hK => ?_
    | (refine AWP.region ?_; simp only [go_sem])
    | (refine AWP.here 6 17 9 rfl ?_; refine AWP.regionO [0, 1, 2, 3, 4, 5, 6, 7, 8] [] (by kernel_rfl) (by kernel_rfl) rfl ?_; simp only [go_sem])
    | (refine hK _ ?_; clear hK K)
    | refine AWP.block ?_
    | refine AWP.cond rfl (fun c => ?_) (fun c => ?_) <;> first | exact Bool.noConfusion c | (try simp only [dD] at c)
    | refine AWP.skip ?_
    | (refine AWP.exit ?_; simp only [go_sem])
    | (refine AGet.haveM (by assumption) ?_; (try simp only [go_sem]))
    | (refine AGet.have' (by assumption) ?_; (try simp only [go_sem]))
    | ((first | refine AGet.nth ?_ (fun b hb => ?_) | refine AGet.nth1 ?_ (fun b hb => ?_) | with_reducible refine And.intro ?_ ?_); (focus (first | omega | assumption | exact List.length_pos_iff.2 (by assumption) | (simp only [List.length_append, List.length_cons, List.length_nil, List.length_map, List.length_take, List.length_drop] at *; omega) | (rw [wrap64_id (by omega) (by omega)]; omega) | (simp; done) | (simp [spare_len]; done) | (exact ⟨by omega, by omega⟩))); (try simp only [hb, go_sem]))
    | (
        refine AWP.here 4 11 4 rfl ?_
        refine AWP.loopN (ι := Nat) [4, 11, 12, 13, 14, 15, 16, 17, 18, 19, 20, 21, 22, 23, 24, 25] (fun (i : Nat) => [(5, i64 i)]) (fun (i : Nat) => i ≤ p.length ∧ p.length = q.length ∧ p.take i = q.take i) (fun (i : Nat) => p.length - i) (0) ?_ ?_ ?_
        · (try simp only [go_sem]); (repeat' (first | refine And.intro ?_ ?_ | exact .inl rfl | exact .inr rfl | exact .inr ⟨rfl, rfl⟩ | trivial | exact .inr (oblA rfl) | exact .inr ⟨rfl, oblA rfl⟩ | exact .inr bel_strs | exact .inr ⟨rfl, bel_strs⟩ | exact .inr ⟨by simp, bel_strs⟩ | (simp; done) | exact .inr ⟨rfl, by simp⟩ | exact .inr ⟨by simp, by simp⟩)); done
        · exact ⟨by omega, by omega, by simp⟩
        rintro i ⟨h1, h2, h3⟩
        simp only [go_sem])
    | (
        refine ⟨i + 1, ?_, ?_, ?_⟩
        · (try simp only [go_sem]); (try rw [wrap64_id (by omega) (by omega)]); (repeat' (first | refine And.intro ?_ ?_ | exact .inl rfl | exact .inr rfl | exact .inr ⟨rfl, rfl⟩ | trivial | exact .inr (oblA rfl) | exact .inr ⟨rfl, oblA rfl⟩ | exact .inr bel_strs | exact .inr ⟨rfl, bel_strs⟩ | exact .inr ⟨by simp, bel_strs⟩ | (simp; done) | exact .inr ⟨rfl, by simp⟩ | exact .inr ⟨by simp, by simp⟩)); done
        · exact ⟨by omega, by omega, eq_next (a := p) (b := q) (by assumption) (by assumption) (by exact od_eq (by assumption)) h3⟩
        · (try simp only []); omega)
    | (
        refine AWP.ret ?_
        refine AEnd.is ?_; simp only [go_sem, out_v, out_s, out_n, v_int, v_bool, v_str] <;> (first
        | (rw [eq_no1 (by omega)]; done)
        | (rw [eq_no2 (a := p) (b := q) (by assumption) (by assumption) (by exact od_ne (by assumption))]; done)
        | (rw [eq_yes h2 (by omega) h3]; done)))
    | refine AWP.fin (by assumption) ?_)

set_option maxHeartbeats 8000000 in
set_option maxRecDepth 8000 in
theorem r12same_c (p q : Bk) (ho : p.orders.length ≤ 9223372036854775807) (hf : p.fills.length ≤ 9223372036854775807) (hi : p.ids.length ≤ 9223372036854775807) : ACalls E 15 [bkV p, bkV q] (fun r t => r = bl (decide (p = q)) ∧ t = []) := by -- checkroll/checkrollref12.Same
  refine ACalls.of_awp (n := 81) (rs := [.tmp 4]) Tryz.func15 rfl Tryz.ntmps15 rfl ?_
  repeat' (first
    | refine AWP.seqk fun K hK => ?_
    | (refine AWP.region ?_; simp only [go_sem])
    | (refine AWP.here 6 52 11 rfl ?_; refine AWP.regionO [0, 1, 2, 3, 4, 5, 6, 7, 8, 9, 10] [] (by kernel_rfl) (by kernel_rfl) rfl ?_; simp only [go_sem])
    | (refine AWP.here 11 70 11 rfl ?_; refine AWP.regionO [0, 1, 2, 3, 4, 5, 6, 7, 8, 9, 10] [] (by kernel_rfl) (by kernel_rfl) rfl ?_; simp only [go_sem])
    | (refine hK _ ?_; clear hK K)
    | refine AWP.block ?_
    | refine AWP.cond rfl (fun c => ?_) (fun c => ?_) <;> first | exact Bool.noConfusion c | (try simp only [dD] at c)
    | refine AWP.skip ?_
    | (refine AWP.exit ?_; simp only [go_sem])
    | (refine ACall.one (r11same_c p.orders q.orders ho) (by kernel_rfl) rfl ?_; simp only [go_sem])
    | (refine AGuard.splitN (fun h => ?_) (fun h => ?_) <;> simp only [h, go_sem] <;> (try simp only [dD] at h))
    | (refine AGuard.split (fun h => ?_) (fun h => ?_) <;> simp only [h, go_sem] <;> (try simp only [dD] at h))
    | (refine AGet.haveM (by assumption) ?_; (try simp only [go_sem]))
    | (refine AGet.have' (by assumption) ?_; (try simp only [go_sem]))
    | ((first | refine AGet.nth ?_ (fun b hb => ?_) | refine AGet.nth1 ?_ (fun b hb => ?_) | with_reducible refine And.intro ?_ ?_); (focus (first | omega | assumption | exact List.length_pos_iff.2 (by assumption) | (simp only [List.length_append, List.length_cons, List.length_nil, List.length_map, List.length_take, List.length_drop] at *; omega) | (rw [wrap64_id (by omega) (by omega)]; omega) | (simp; done) | (simp [spare_len]; done) | (exact ⟨by omega, by omega⟩))); (try simp only [hb, go_sem]))
    | (
        refine AWP.here 4 45 5 rfl ?_
        refine AWP.loopM (ι := Nat) [4, 45, 46, 47, 48, 49, 50, 51, 52, 53, 54, 55, 56, 57, 58, 59, 60, 61, 62] (fun (i : Nat) => [(5, i64 i)]) (fun (i : Nat) => [some [.agg [odsV p.orders, dnsV p.fills, .sl none 1 (p.ids.map str), i64 p.clock, i64 p.bad]], some [.agg [odsV q.orders, dnsV q.fills, .sl none 1 (q.ids.map str), i64 q.clock, i64 q.bad]]]) (fun (i : Nat) => []) (fun (i : Nat) => i ≤ p.fills.length ∧ p.fills.length = q.fills.length ∧ p.fills.take i = q.fills.take i) (fun (i : Nat) => p.fills.length - i) (0) ?_ ?_ ?_
        · (try simp only [go_sem]); (repeat' (first | refine And.intro ?_ ?_ | exact .inl rfl | exact .inr rfl | exact .inr ⟨rfl, rfl⟩ | trivial | exact .inr (oblA rfl) | exact .inr ⟨rfl, oblA rfl⟩ | exact .inr bel_strs | exact .inr ⟨rfl, bel_strs⟩ | exact .inr ⟨by simp, bel_strs⟩ | (simp; done) | exact .inr ⟨rfl, by simp⟩ | exact .inr ⟨by simp, by simp⟩)); done
        · exact ⟨by omega, by omega, by simp⟩
        rintro i ⟨h1, h2, h3⟩
        simp only [go_sem])
    | (
        refine AWP.here 9 63 5 rfl ?_
        refine AWP.loopM (ι := Nat) [4, 63, 64, 65, 66, 67, 68, 69, 70, 71, 72, 73, 74, 75, 76, 77, 78, 79, 80] (fun (i : Nat) => [(6, i64 i)]) (fun (i : Nat) => [some [.agg [odsV p.orders, dnsV p.fills, .sl none 1 (p.ids.map str), i64 p.clock, i64 p.bad]], some [.agg [odsV q.orders, dnsV q.fills, .sl none 1 (q.ids.map str), i64 q.clock, i64 q.bad]]]) (fun (i : Nat) => []) (fun (i : Nat) => i ≤ p.ids.length ∧ p.ids.length = q.ids.length ∧ p.ids.take i = q.ids.take i) (fun (i : Nat) => p.ids.length - i) (0) ?_ ?_ ?_
        · (try simp only [go_sem]); (repeat' (first | refine And.intro ?_ ?_ | exact .inl rfl | exact .inr rfl | exact .inr ⟨rfl, rfl⟩ | trivial | exact .inr (oblA rfl) | exact .inr ⟨rfl, oblA rfl⟩ | exact .inr bel_strs | exact .inr ⟨rfl, bel_strs⟩ | exact .inr ⟨by simp, bel_strs⟩ | (simp; done) | exact .inr ⟨rfl, by simp⟩ | exact .inr ⟨by simp, by simp⟩)); done
        · exact ⟨by omega, by omega, by simp⟩
        rintro i ⟨g1, g2, g3⟩
        simp only [go_sem])
    | (
        refine ⟨i + 1, ?_, ?_, ?_⟩
        · (try simp only [go_sem]); (try rw [wrap64_id (by omega) (by omega)]); (repeat' (first | refine And.intro ?_ ?_ | exact .inl rfl | exact .inr rfl | exact .inr ⟨rfl, rfl⟩ | trivial | exact .inr (oblA rfl) | exact .inr ⟨rfl, oblA rfl⟩ | exact .inr bel_strs | exact .inr ⟨rfl, bel_strs⟩ | exact .inr ⟨by simp, bel_strs⟩ | (simp; done) | exact .inr ⟨rfl, by simp⟩ | exact .inr ⟨by simp, by simp⟩)); done
        · exact ⟨by omega, by omega, eq_next (a := p.fills) (b := q.fills) (by assumption) (by assumption) (by exact dn_eq (by assumption)) h3⟩
        · (try simp only []); omega)
    | (
        refine ⟨i + 1, ?_, ?_, ?_⟩
        · (try simp only [go_sem]); (try rw [wrap64_id (by omega) (by omega)]); (repeat' (first | refine And.intro ?_ ?_ | exact .inl rfl | exact .inr rfl | exact .inr ⟨rfl, rfl⟩ | trivial | exact .inr (oblA rfl) | exact .inr ⟨rfl, oblA rfl⟩ | exact .inr bel_strs | exact .inr ⟨rfl, bel_strs⟩ | exact .inr ⟨by simp, bel_strs⟩ | (simp; done) | exact .inr ⟨rfl, by simp⟩ | exact .inr ⟨by simp, by simp⟩)); done
        · exact ⟨by omega, by omega, eq_next (a := p.ids) (b := q.ids) (by assumption) (by assumption) (by assumption) g3⟩
        · (try simp only []); omega)
    | (
        refine AWP.ret ?_
        refine AEnd.is ?_; simp only [go_sem, out_v, out_s, out_n, v_int, v_bool, v_str] <;> (first
        | (rw [same_b]; simp [*]; done)
        | (rw [same_b, eq_no1 (a := p.fills) (by omega)]; simp; done)
        | (rw [same_b, eq_no1 (a := p.ids) (by omega)]; simp; done)
        | (rw [same_b, eq_no2 (a := p.fills) (b := q.fills) (by assumption) (by assumption) (by exact dn_ne (by assumption))]; simp; done)
        | (rw [same_b, eq_no2 (a := p.ids) (b := q.ids) (by assumption) (by assumption) (by assumption)]; simp; done)
        | (rw [same_b, eq_yes h2 (by omega) h3, eq_yes g2 (by omega) g3]; simp [*]; done)
        | skip))
    | refine AWP.fin (by assumption) ?_)


end Go.Proofs.YtajeeghgiilhiaaGreat
end
