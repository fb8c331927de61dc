import Derived.Test.YtajeeghgiilhiaaT1
set_option linter.unusedVariables false
set_option linter.unusedSimpArgs false
namespace Go.Proofs.Ytajeeghgiilhiaa
open Go Go.Abs Go.RowKit Go.Bk
theorem lt_t {d : Array Po} {i j : Nat} (h : cmpN (nmP d[i]!) (nmP d[j]!) < 0) : ltP d[i]! d[j]! = true := ltP_iff.2 h
theorem lt_f {d : Array Po} {i j : Nat} (h : ¬ cmpN (nmP d[i]!) (nmP d[j]!) < 0) : ltP d[i]! d[j]! = false := by
  cases e : ltP d[i]! d[j]! with
  | false => rfl
  | true => exact absurd (ltP_iff.1 e) h
theorem nlt_t {d : Array Po} {i j : Nat} (h : ¬ cmpN (nmP d[i]!) (nmP d[j]!) < 0) : (!ltP d[i]! d[j]!) = true := by rw [lt_f h]; rfl
theorem nlt_f {d : Array Po} {i j : Nat} (h : cmpN (nmP d[i]!) (nmP d[j]!) < 0) : (!ltP d[i]! d[j]!) = false := by rw [lt_t h]; rfl
theorem bs_lt {q : Nat → Bool} {i j : Nat} (h : i < j) (hq : q ((i + j) / 2) = true) : Go.Stb.bsG q i j = Go.Stb.bsG q ((i + j) / 2 + 1) j := by
  rw [Go.Stb.bsG, if_pos h, if_pos hq]
theorem bs_ge {q : Nat → Bool} {i j : Nat} (h : i < j) (hq : q ((i + j) / 2) = false) : Go.Stb.bsG q i j = Go.Stb.bsG q i ((i + j) / 2) := by
  rw [Go.Stb.bsG, if_pos h, if_neg (by rw [hq]; simp)]
theorem bs_end {q : Nat → Bool} {i j : Nat} (h : ¬ i < j) : Go.Stb.bsG q i j = i := by
  rw [Go.Stb.bsG, if_neg h]
section
variable {i k s x lo hi mi N : Nat} {d e1 e2 : Array Po}
theorem upS_step (h : k + 1 < i) : Go.Stb.upS k i d = Go.Stb.upS (k + 1) i (Go.Sort.swp d k (k + 1)) := by rw [Go.Stb.upS, if_pos h]
theorem upS_end (h : ¬ k + 1 < i) : Go.Stb.upS k i d = d := by rw [Go.Stb.upS, if_neg h]
theorem dnS_step (h : i < k) : Go.Stb.dnS i k d = Go.Stb.dnS i (k - 1) (Go.Sort.swp d k (k - 1)) := by
  cases k with
  | zero => omega
  | succ k => rw [Go.Stb.dnS, if_pos h]; rfl
theorem dnS_end (h : ¬ i < k) : Go.Stb.dnS i k d = d := by
  cases k with
  | zero => rfl
  | succ k => rw [Go.Stb.dnS, if_neg h]
theorem upS_size : ∀ (r k : Nat) (d : Array Po), i - k ≤ r → (Go.Stb.upS k i d).size = d.size
  | 0, k, d, h => by rw [upS_end (by omega)]
  | r + 1, k, d, h => by
    rcases Nat.lt_or_ge (k + 1) i with h2 | h2
    · rw [upS_step h2, upS_size r (k + 1) _ (by omega), Go.Sort.swp_size]
    · rw [upS_end (by omega)]
theorem dnS_size : ∀ (k : Nat) (d : Array Po), (Go.Stb.dnS i k d).size = d.size
  | 0, d => rfl
  | k + 1, d => by
    rcases Nat.lt_or_ge i (k + 1) with h2 | h2
    · rw [dnS_step h2]; show (Go.Stb.dnS i k _).size = _; rw [dnS_size k, Go.Sort.swp_size]
    · rw [dnS_end (by omega)]
theorem rotL_size0 : ∀ (r i j : Nat) (d : Array Po), i + j ≤ r → (Go.Stb.rotL mi i j d).size = d.size
  | r, i, j, d, h => by
    rw [Go.Stb.rotL]
    split
    · rfl
    · split
      · exact Go.Stb.swpR_size _ _ _ _ _ _ rfl
      · split
        · cases r with
          | zero => omega
          | succ r => rw [rotL_size0 r _ _ _ (by omega), Go.Stb.swpR_size _ _ _ _ _ _ rfl]
        · cases r with
          | zero => omega
          | succ r => rw [rotL_size0 r _ _ _ (by omega), Go.Stb.swpR_size _ _ _ _ _ _ rfl]
theorem rotIf_size : (Go.Stb.rotIf ltP lo mi hi d).size = d.size := by
  unfold Go.Stb.rotIf; split
  · exact rotL_size0 _ _ _ _ (Nat.le_refl _)
  · rfl
theorem symM_size0 : ∀ (r lo mi hi : Nat) (d : Array Po), hi - lo ≤ r → (Go.Stb.symM ltP lo mi hi d).size = d.size
  | r, lo, mi, hi, d, hr => by
    rw [Go.Stb.symM]
    split
    · exact upS_size _ _ _ (Nat.le_refl _)
    · split
      · exact dnS_size _ _
      · split
        · rename_i h2
          cases r with
          | zero => omega
          | succ r =>
            rw [symM_size0 r _ _ _ _ (by omega)]
            split
            · rw [symM_size0 r _ _ _ _ (by omega)]; exact rotIf_size
            · exact rotIf_size
        · split
          · cases r with
            | zero => omega
            | succ r => rw [symM_size0 r _ _ _ _ (by omega)]; exact rotIf_size
          · exact rotIf_size
theorem symM_size : (Go.Stb.symM ltP lo mi hi d).size = d.size := symM_size0 _ _ _ _ _ (Nat.le_refl _)
theorem rotIf_yes (hs : Go.Stb.sCut ltP lo mi hi d = s) (h1 : s < mi) (h2 : mi < (lo + hi) / 2 + mi - s) : Go.Stb.rotIf ltP lo mi hi d = Go.Stb.rotL mi (mi - s) ((lo + hi) / 2 + mi - s - mi) d := by
  unfold Go.Stb.rotIf; rw [hs, if_pos ⟨h1, h2⟩]
theorem rotIf_no (hs : Go.Stb.sCut ltP lo mi hi d = s) (h : ¬ (s < mi ∧ mi < (lo + hi) / 2 + mi - s)) : Go.Stb.rotIf ltP lo mi hi d = d := by
  unfold Go.Stb.rotIf; rw [hs, if_neg h]
theorem sym_1 (h : mi - lo = 1) : Go.Stb.symM ltP lo mi hi d = Go.Stb.upS lo (Go.Stb.bsG (fun x => ltP d[x]! d[lo]!) mi hi) d := by
  rw [Go.Stb.symM, if_pos h]
theorem sym_2 (h : ¬ mi - lo = 1) (h2 : hi - mi = 1) : Go.Stb.symM ltP lo mi hi d = Go.Stb.dnS (Go.Stb.bsG (fun x => !ltP d[mi]! d[x]!) lo mi) mi d := by
  rw [Go.Stb.symM, if_neg h, if_pos h2]
theorem sym_3 (h : ¬ mi - lo = 1) (h2 : ¬ hi - mi = 1) (hs : Go.Stb.sCut ltP lo mi hi d = s) (he1 : Go.Stb.rotIf ltP lo mi hi d = e1) (he2 : (if lo < s ∧ s < (lo + hi) / 2 then Go.Stb.symM ltP lo s ((lo + hi) / 2) e1 else e1) = e2) :
    Go.Stb.symM ltP lo mi hi d = if (lo + hi) / 2 < (lo + hi) / 2 + mi - s ∧ (lo + hi) / 2 + mi - s < hi then Go.Stb.symM ltP ((lo + hi) / 2) ((lo + hi) / 2 + mi - s) hi e2 else e2 := by
  rw [Go.Stb.symM, if_neg h, if_neg h2, hs, he1]
  simp only [dite_eq_ite]
  rw [he2]
theorem isort_size (h1 : lo ≤ hi) (h2 : hi ≤ d.size) : (Go.Sort.insertionSort ltP d lo hi).size = d.size := (Go.Sort.insertionSort_holds swo_P d lo hi h1 h2).1.1
theorem insB_step (h : x + 20 ≤ N) : Go.Stb.insB ltP N x (x + 20) d = Go.Stb.insB ltP N (x + 20) (x + 20 + 20) (Go.Sort.insertionSort ltP d x (x + 20)) := by rw [Go.Stb.insB, if_pos h]
theorem insB_stop (h : ¬ x + 20 ≤ N) : Go.Stb.insB ltP N x (x + 20) d = Go.Sort.insertionSort ltP d x N := by rw [Go.Stb.insB, if_neg h]
theorem mrgP_step (h0 : 0 < s) (h : x + 2 * s ≤ N) : Go.Stb.mrgP ltP N s x (x + 2 * s) d = Go.Stb.mrgP ltP N s (x + 2 * s) (x + 2 * s + 2 * s) (Go.Stb.symM ltP x (x + s) (x + 2 * s) d) := by rw [Go.Stb.mrgP, if_neg (by omega), if_pos h]
theorem mrgP_end1 (h0 : 0 < s) (h : ¬ x + 2 * s ≤ N) (h2 : x + s < N) : Go.Stb.mrgP ltP N s x (x + 2 * s) d = Go.Stb.symM ltP x (x + s) N d := by rw [Go.Stb.mrgP, if_neg (by omega), if_neg h, if_pos h2]
theorem mrgP_end2 (h0 : 0 < s) (h : ¬ x + 2 * s ≤ N) (h2 : ¬ x + s < N) : Go.Stb.mrgP ltP N s x (x + 2 * s) d = d := by rw [Go.Stb.mrgP, if_neg (by omega), if_neg h, if_neg h2]
theorem mrgL_step (h0 : 0 < s) (h : s < N) : Go.Stb.mrgL ltP N s d = Go.Stb.mrgL ltP N (s * 2) (Go.Stb.mrgP ltP N s 0 (2 * s) d) := by rw [Go.Stb.mrgL, dif_pos ⟨h0, h⟩]
theorem mrgL_stop (h : ¬ s < N) : Go.Stb.mrgL ltP N s d = d := by rw [Go.Stb.mrgL, dif_neg (by omega)]
end

set_option maxRecDepth 100000 in
set_option maxHeartbeats 16000000 in
theorem sym_call (rr : Nat) : ∀ {ops : Array Oper} {l0 : List Oper} {Q : Exit → St → Prop} {tmps up : List AV} {gl : Nat → Option (List AV)} {own : List (Option (List AV))} {tk : List Nat} {dst : Option Tmp} {x0 x1 x2 x3 x4 : Operand} {tys : Array TypeId} {ty : TypeId} {pos : String} {after : Array Edge} {id m N : Nat} {d : Array Po} {lo mi hi : Nat}
    (hx0 : St.ev ⟨tmps, own, tk, gl, none, up⟩ x0 = .mu id 5 0 N (N + m))
    (hx1 : St.ev ⟨tmps, own, tk, gl, none, up⟩ x1 = i64 (lo : Int))
    (hx2 : St.ev ⟨tmps, own, tk, gl, none, up⟩ x2 = i64 (mi : Int))
    (hx3 : St.ev ⟨tmps, own, tk, gl, none, up⟩ x3 = i64 (hi : Int))
    (hx4 : St.ev ⟨tmps, own, tk, gl, none, up⟩ x4 = .fn 23 [])
    (ho : own[id]? = some (some (rowP d m)))
    (hbu : (tmps ++ up).all (AV.bel own.length tk.length) = true)
    (hbo : OwnBel own own.length tk.length)
    (hl : N ≤ 1000000)
    (hN : d.size = N)
    (h1 : lo < mi)
    (h2 : mi < hi)
    (h3 : hi ≤ N)
    (hend : AWPL E ops l0 Q (St.put ⟨tmps, own.set id (some (rowP (Go.Stb.symM ltP lo mi hi d) m)), tk, gl, none, up⟩ dst (.tup []))) (hr : hi - lo ≤ rr), AWPL E ops (⟨dst, .call ⟨.value (.func 64), #[x0, x1, x2, x3, x4], tys⟩, ty, pos, after, none⟩ :: l0) Q ⟨tmps, own, tk, gl, none, up⟩ := by
  induction rr with
  | zero => intros; exfalso; omega
  | succ rr ih =>
  intro ops l0 Q tmps up gl own tk dst x0 x1 x2 x3 x4 tys ty pos after id m N d lo mi hi hx0 hx1 hx2 hx3 hx4 ho hbu hbo hl hN h1 h2 h3 hend hr
  have hid := lt_of_get ho
  obtain ⟨ow, how⟩ : ∃ ow : List (Option (List AV)), own = ow.set id (some (rowP d m)) := ⟨own, (set_same ho).symm⟩
  subst how
  rw [List.length_set] at hid
  have hob : ∀ d' : Array Po, OwnBel (ow.set id (some (rowP d' m))) ow.length tk.length := fun d' => by
    have := hbo.set (id := id) (bel_rowP d' m); rwa [List.set_set, List.length_set] at this
  have hob2 : ∀ d' : Array Po, OwnBel (ow.set id (some (rowP d' m))) (ow.set id (some (rowP d' m))).length tk.length := fun d' => by rw [List.length_set]; exact hob d'
  rw [List.length_set] at hbu
  simp only [List.set_set] at hend
  refine AWPL.call (caps := []) (rs := []) Try.func64 rfl Try.ntmps64 rfl (by kernel_rfl) rfl rfl ?_
  show AWP E _ _ ⟨([St.ev _ x0, St.ev _ x1, St.ev _ x2, St.ev _ x3, St.ev _ x4] ++ []) ++ List.replicate (220 - 5) (.v undef), _, tk, gl, none, tmps ++ up⟩
  rw [hx0, hx1, hx2, hx3, hx4]
  have hBn : ∀ (tm : List AV) (d' : Array Po), d' = Go.Stb.symM ltP lo mi hi d → AInPost E.P [] ⟨tmps, ow.set id (some (rowP d m)), tk, gl, none, up⟩ (fun s z => AWPL E ops l0 Q (s.put dst z)) .normal ⟨tm, ow.set id (some (rowP d' m)), tk, gl, none, tmps ++ up⟩ := fun tm d' e => by subst e; exact ⟨rfl, hend⟩
  have hBr : ∀ (tm : List AV) (d' : Array Po), d' = Go.Stb.symM ltP lo mi hi d → AInPost E.P [] ⟨tmps, ow.set id (some (rowP d m)), tk, gl, none, up⟩ (fun s z => AWPL E ops l0 Q (s.put dst z)) .ret ⟨tm, ow.set id (some (rowP d' m)), tk, gl, none, tmps ++ up⟩ := fun tm d' e => by subst e; exact ⟨rfl, hend⟩
  generalize AInPost E.P [] ⟨tmps, ow.set id (some (rowP d m)), tk, gl, none, up⟩ (fun s z => AWPL E ops l0 Q (s.put dst z)) = Q1 at hBn hBr ⊢
  generalize tmps ++ up = up' at hbu hBn hBr ⊢
  clear hend ho hbo hx0 hx1 hx2 hx3 hx4
  have hset : ∀ x, (ow.set id x)[id]? = some x := fun x => List.getElem?_set_self hid
  repeat' (first
    | refine AWP.seqk fun K hK => ?_
    | (
        refine AWP.here 0 25 4 rfl ?_
        have w0 : IntKind.i64.wrap ((mi : Int) - lo) = ((mi - lo : Nat) : Int) := by rw [wrap64_id (by omega) (by omega)]; omega
        refine AWP.region ?_; simp only [go_sem, hset, List.set_set, List.length_set, w0])
    | (
        refine AWP.here 4 34 7 rfl ?_
        have hh := half_eq (i := i) (j := j) (by omega) (by omega)
        refine AWP.region ?_; simp only [go_sem, hset, List.set_set, List.length_set, hh])
    | (
        refine AWP.here 5 40 11 rfl ?_
        have f1 : (rowP d m)[(i + j) / 2]? = some (poV d[(i + j) / 2]!) := row_get (by omega)
        have f2 : (rowP d m)[lo]? = some (poV d[lo]!) := row_get (by omega)
        refine AWP.regionO [0, 1, 2, 3, 4, 5, 6, 7, 8, 9, 10] [] (by kernel_rfl) (by kernel_rfl) rfl ?_; simp only [go_sem, hset, List.set_set, List.length_set, f1, f2, Int.toNat_natCast])
    | (
        refine AWP.here 8 54 2 rfl ?_
        obtain rfl : i = j := by omega
        have gi : Go.Stb.bsG (fun x => ltP d[x]! d[lo]!) mi hi = i := by rw [← g4, bs_end (by omega)]
        refine AWP.region ?_; simp only [go_sem, hset, List.set_set, List.length_set])
    | (
        refine AWP.here 9 55 4 rfl ?_
        have w0 : IntKind.i64.wrap ((i : Int) - 1) = ((i - 1 : Nat) : Int) := by rw [wrap64_id (by omega) (by omega)]; omega
        refine AWP.region ?_; simp only [go_sem, hset, List.set_set, List.length_set, w0])
    | (
        refine AWP.here 11 61 18 rfl ?_
        have w0 : IntKind.i64.wrap ((k : Int) + 1) = ((k + 1 : Nat) : Int) := by rw [wrap64_id (by omega) (by omega)]; omega
        have g1 : (rowP e m)[k]? = some (poV e[k]!) := row_get (by omega)
        have g2 : (rowP e m)[k + 1]? = some (poV e[k + 1]!) := row_get (by omega)
        have g3 : ((rowP e m).set (k) (poV e[k + 1]!))[k + 1]? = some (poV (e.setIfInBounds (k) e[k + 1]!)[k + 1]!) := by rw [row_set (by omega)]; exact row_get (by rw [Array.size_setIfInBounds]; omega)
        have g4 : ((rowP e m).set (k) (poV e[k + 1]!)).set (k + 1) (poV e[k]!) = rowP (Go.Sort.swp e (k) (k + 1)) m := row_swp (by omega) (by omega)
        refine AWP.regionO [0, 1, 2, 3, 4, 5, 6, 7, 8, 9, 10, 11, 12, 13, 14, 15, 16, 17] [] (by kernel_rfl) (by kernel_rfl) rfl ?_; simp only [go_sem, hset, List.set_set, List.length_set, w0, g1, g2, g3, g4, Int.toNat_natCast, hset, List.set_set])
    | (
        refine AWP.here 10 59 3 rfl ?_
        have w0 : IntKind.i64.wrap ((k : Int) + 1) = ((k + 1 : Nat) : Int) := by rw [wrap64_id (by omega) (by omega)]; omega
        refine AWP.region ?_; simp only [go_sem, hset, List.set_set, List.length_set, w0])
    | (
        refine AWP.here 12 77 4 rfl ?_
        have w0 : IntKind.i64.wrap ((hi : Int) - mi) = ((hi - mi : Nat) : Int) := by rw [wrap64_id (by omega) (by omega)]; omega
        refine AWP.region ?_; simp only [go_sem, hset, List.set_set, List.length_set, w0])
    | (
        refine AWP.here 16 86 7 rfl ?_
        have hh := half_eq (i := i) (j := j) (by omega) (by omega)
        refine AWP.region ?_; simp only [go_sem, hset, List.set_set, List.length_set, hh])
    | (
        refine AWP.here 17 92 12 rfl ?_
        have f1 : (rowP d m)[(i + j) / 2]? = some (poV d[(i + j) / 2]!) := row_get (by omega)
        have f2 : (rowP d m)[mi]? = some (poV d[mi]!) := row_get (by omega)
        refine AWP.regionO [0, 1, 2, 3, 4, 5, 6, 7, 8, 9, 10, 11] [] (by kernel_rfl) (by kernel_rfl) rfl ?_; simp only [go_sem, hset, List.set_set, List.length_set, f1, f2, Int.toNat_natCast])
    | (
        refine AWP.here 20 107 2 rfl ?_
        obtain rfl : i = j := by omega
        have gi : Go.Stb.bsG (fun x => !ltP d[mi]! d[x]!) lo mi = i := by rw [← g4, bs_end (by omega)]
        refine AWP.region ?_; simp only [go_sem, hset, List.set_set, List.length_set])
    | (
        refine AWP.here 23 113 18 rfl ?_
        have w0 : IntKind.i64.wrap ((k : Int) - 1) = ((k - 1 : Nat) : Int) := by rw [wrap64_id (by omega) (by omega)]; omega
        have g1 : (rowP e m)[k]? = some (poV e[k]!) := row_get (by omega)
        have g2 : (rowP e m)[k - 1]? = some (poV e[k - 1]!) := row_get (by omega)
        have g3 : ((rowP e m).set (k) (poV e[k - 1]!))[k - 1]? = some (poV (e.setIfInBounds (k) e[k - 1]!)[k - 1]!) := by rw [row_set (by omega)]; exact row_get (by rw [Array.size_setIfInBounds]; omega)
        have g4 : ((rowP e m).set (k) (poV e[k - 1]!)).set (k - 1) (poV e[k]!) = rowP (Go.Sort.swp e (k) (k - 1)) m := row_swp (by omega) (by omega)
        refine AWP.regionO [0, 1, 2, 3, 4, 5, 6, 7, 8, 9, 10, 11, 12, 13, 14, 15, 16, 17] [] (by kernel_rfl) (by kernel_rfl) rfl ?_; simp only [go_sem, hset, List.set_set, List.length_set, w0, g1, g2, g3, g4, Int.toNat_natCast, hset, List.set_set])
    | (
        refine AWP.here 22 111 3 rfl ?_
        have w0 : IntKind.i64.wrap ((k : Int) - 1) = ((k - 1 : Nat) : Int) := by rw [wrap64_id (by omega) (by omega)]; omega
        refine AWP.region ?_; simp only [go_sem, hset, List.set_set, List.length_set, w0])
    | (
        refine AWP.here 24 129 7 rfl ?_
        have hh := half_eq (i := lo) (j := hi) (by omega) (by omega)
        refine AWP.region ?_; simp only [go_sem, hset, List.set_set, List.length_set, hh])
    | (
        refine AWP.here 25 135 4 rfl ?_
        have w0 : IntKind.i64.wrap ((((lo + hi) / 2 : Nat) : Int) + mi) = (((lo + hi) / 2 + mi : Nat) : Int) := by rw [wrap64_id (by omega) (by omega)]; omega
        refine AWP.region ?_; simp only [go_sem, hset, List.set_set, List.length_set, w0])
    | (
        refine AWP.here 28 141 4 rfl ?_
        have w0 : IntKind.i64.wrap ((((lo + hi) / 2 + mi : Nat) : Int) - hi) = (((lo + hi) / 2 + mi - hi : Nat) : Int) := by rw [wrap64_id (by omega) (by omega)]; omega
        refine AWP.region ?_; simp only [go_sem, hset, List.set_set, List.length_set, w0])
    | (
        refine AWP.here 32 147 3 rfl ?_
        have w0 : IntKind.i64.wrap ((((lo + hi) / 2 + mi : Nat) : Int) - 1) = (((lo + hi) / 2 + mi - 1 : Nat) : Int) := by rw [wrap64_id (by omega) (by omega)]; omega
        refine AWP.region ?_; simp only [go_sem, hset, List.set_set, List.length_set, w0])
    | (
        refine AWP.here 34 152 7 rfl ?_
        have hh := half_eq (i := s) (j := r) (by omega) (by omega)
        refine AWP.region ?_; simp only [go_sem, hset, List.set_set, List.length_set, hh])
    | (
        refine AWP.here 35 158 14 rfl ?_
        have w0 : IntKind.i64.wrap ((((lo + hi) / 2 + mi - 1 : Nat) : Int) - (((s + r) / 2 : Nat) : Int)) = (((lo + hi) / 2 + mi - 1 - (s + r) / 2 : Nat) : Int) := by rw [wrap64_id (by omega) (by omega)]; omega
        have f1 : (rowP d m)[(lo + hi) / 2 + mi - 1 - (s + r) / 2]? = some (poV d[(lo + hi) / 2 + mi - 1 - (s + r) / 2]!) := row_get (by omega)
        have f2 : (rowP d m)[(s + r) / 2]? = some (poV d[(s + r) / 2]!) := row_get (by omega)
        refine AWP.regionO [0, 1, 2, 3, 4, 5, 6, 7, 8, 9, 10, 11, 12, 13] [] (by kernel_rfl) (by kernel_rfl) rfl ?_; simp only [go_sem, hset, List.set_set, List.length_set, w0, f1, f2, Int.toNat_natCast])
    | (
        refine AWP.here 38 175 4 rfl ?_
        obtain rfl : s = r := by omega
        have gs : Go.Stb.sCut ltP lo mi hi d = s := by rw [← g6, bs_end (by omega)]
        have w0 : IntKind.i64.wrap ((((lo + hi) / 2 + mi : Nat) : Int) - s) = (((lo + hi) / 2 + mi - s : Nat) : Int) := by rw [wrap64_id (by omega) (by omega)]; omega
        refine AWP.region ?_; simp only [go_sem, hset, List.set_set, List.length_set, w0])
    | (
        refine AWP.here 41 192 8 rfl ?_
        first
        | rw [show rowP (Go.Stb.rotL mi (mi - s) ((lo + hi) / 2 + mi - s - mi) d) m = rowP (Go.Stb.rotIf ltP lo mi hi d) m by rw [rotIf_yes gs (by omega) (by omega)]]
        | rw [show rowP d m = rowP (Go.Stb.rotIf ltP lo mi hi d) m by rw [rotIf_no gs (by omega)]]
        have z1 : (Go.Stb.rotIf ltP lo mi hi d).size = N := by rw [rotIf_size]; exact hN
        generalize he1 : Go.Stb.rotIf ltP lo mi hi d = e1 at z1 ⊢
        refine AWP.region ?_; simp only [go_sem, hset, List.set_set, List.length_set])
    | (
        refine AWP.here 43 206 8 rfl ?_
        first
        | rw [show rowP (Go.Stb.symM ltP lo s ((lo + hi) / 2) e1) m = rowP (if lo < s ∧ s < (lo + hi) / 2 then Go.Stb.symM ltP lo s ((lo + hi) / 2) e1 else e1) m by rw [if_pos (by omega)]]
        | rw [show rowP e1 m = rowP (if lo < s ∧ s < (lo + hi) / 2 then Go.Stb.symM ltP lo s ((lo + hi) / 2) e1 else e1) m by rw [if_neg (by omega)]]
        have z2 : (if lo < s ∧ s < (lo + hi) / 2 then Go.Stb.symM ltP lo s ((lo + hi) / 2) e1 else e1).size = N := by split <;> first | (rw [symM_size]; exact z1) | exact z1
        generalize he2 : (if lo < s ∧ s < (lo + hi) / 2 then Go.Stb.symM ltP lo s ((lo + hi) / 2) e1 else e1) = e2 at z2 ⊢
        refine AWP.region ?_; simp only [go_sem, hset, List.set_set, List.length_set])
    | (
        refine AWP.here 40 186 6 rfl ?_
        refine AWP.regionL ?_
        refine AWPL.at 6 5 rfl ?_
        simp only [go_sem, hset, List.set_set, List.length_set]
        refine rot_call (id := id) (m := m) (N := N) (d := d) (lo := s) (mi := mi) (hi := (lo + hi) / 2 + mi - s) (by rfl) (by rfl) (by rfl) (by rfl) (by rfl) (hset _) (by simp only [List.length_set, List.all_append, hbu, List.all_cons, List.all_nil, List.cons_append, List.nil_append, AV.bel, AV.bel2, AV.bel1, decide_eq_true hid, Bool.and_true, Bool.true_and, List.all_replicate]) (hob2 _) hl (by first | assumption | omega) (by omega) (by omega) (by omega) ?_
        simp only [go_sem, hset, List.set_set, List.length_set]
        refine AWPL.of ?_
        (try simp only [go_sem, hset, List.set_set, List.length_set]))
    | (
        refine AWP.here 42 200 6 rfl ?_
        refine AWP.regionL ?_
        refine AWPL.at 6 5 rfl ?_
        simp only [go_sem, hset, List.set_set, List.length_set]
        refine ih (id := id) (m := m) (N := N) (d := e1) (lo := lo) (mi := s) (hi := (lo + hi) / 2) (by rfl) (by rfl) (by rfl) (by rfl) (by rfl) (hset _) (by simp only [List.length_set, List.all_append, hbu, List.all_cons, List.all_nil, List.cons_append, List.nil_append, AV.bel, AV.bel2, AV.bel1, decide_eq_true hid, Bool.and_true, Bool.true_and, List.all_replicate]) (hob2 _) hl (by first | assumption | omega) (by omega) (by omega) (by omega) ?_ (by omega)
        simp only [go_sem, hset, List.set_set, List.length_set]
        refine AWPL.of ?_
        (try simp only [go_sem, hset, List.set_set, List.length_set]))
    | (
        refine AWP.here 44 214 6 rfl ?_
        refine AWP.regionL ?_
        refine AWPL.at 6 5 rfl ?_
        simp only [go_sem, hset, List.set_set, List.length_set]
        refine ih (id := id) (m := m) (N := N) (d := e2) (lo := (lo + hi) / 2) (mi := (lo + hi) / 2 + mi - s) (hi := hi) (by rfl) (by rfl) (by rfl) (by rfl) (by rfl) (hset _) (by simp only [List.length_set, List.all_append, hbu, List.all_cons, List.all_nil, List.cons_append, List.nil_append, AV.bel, AV.bel2, AV.bel1, decide_eq_true hid, Bool.and_true, Bool.true_and, List.all_replicate]) (hob2 _) hl (by first | assumption | omega) (by omega) (by omega) (by omega) ?_ (by omega)
        simp only [go_sem, hset, List.set_set, List.length_set]
        refine AWPL.of ?_
        (try simp only [go_sem, hset, List.set_set, List.length_set]))
    | (refine AWP.region ?_; simp only [go_sem, hset, List.set_set, List.length_set])
    | (refine AWP.here 5 40 11 rfl ?_; refine AWP.regionO [0, 1, 2, 3, 4, 5, 6, 7, 8, 9, 10] [] (by kernel_rfl) (by kernel_rfl) rfl ?_; simp only [go_sem, hset, List.set_set, List.length_set])
    | (refine AWP.here 11 61 18 rfl ?_; refine AWP.regionO [0, 1, 2, 3, 4, 5, 6, 7, 8, 9, 10, 11, 12, 13, 14, 15, 16, 17] [] (by kernel_rfl) (by kernel_rfl) rfl ?_; simp only [go_sem, hset, List.set_set, List.length_set])
    | (refine AWP.here 17 92 12 rfl ?_; refine AWP.regionO [0, 1, 2, 3, 4, 5, 6, 7, 8, 9, 10, 11] [] (by kernel_rfl) (by kernel_rfl) rfl ?_; simp only [go_sem, hset, List.set_set, List.length_set])
    | (refine AWP.here 23 113 18 rfl ?_; refine AWP.regionO [0, 1, 2, 3, 4, 5, 6, 7, 8, 9, 10, 11, 12, 13, 14, 15, 16, 17] [] (by kernel_rfl) (by kernel_rfl) rfl ?_; simp only [go_sem, hset, List.set_set, List.length_set])
    | (refine AWP.here 35 158 14 rfl ?_; refine AWP.regionO [0, 1, 2, 3, 4, 5, 6, 7, 8, 9, 10, 11, 12, 13] [] (by kernel_rfl) (by kernel_rfl) rfl ?_; simp only [go_sem, hset, List.set_set, List.length_set])
    | (refine hK _ ?_; clear hK K)
    | refine AWP.block ?_
    | refine AWP.cond rfl (fun c => ?_) (fun c => ?_) <;> first | exact Bool.noConfusion c | (try simp only [dD] at c)
    | refine AWP.skip ?_
    | (refine AWP.exit ?_; simp only [go_sem, hset, List.set_set, List.length_set])
    | (refine ACall.one (rot_call ) (by kernel_rfl) rfl ?_; simp only [go_sem, hset, List.set_set, List.length_set])
    | (refine ACall.one (byn_c _ _) (by kernel_rfl) rfl ?_; simp only [go_sem, hset, List.set_set, List.length_set])
    | (refine AGuard.splitN (fun h => ?_) (fun h => ?_) <;> simp only [h, go_sem, hset, List.set_set, List.length_set] <;> (try simp only [dD] at h))
    | (refine AGuard.split (fun h => ?_) (fun h => ?_) <;> simp only [h, go_sem, hset, List.set_set, List.length_set] <;> (try simp only [dD] at h))
    | (refine AGet.haveM (by assumption) ?_; (try simp only [go_sem, hset, List.set_set, List.length_set]))
    | (refine AGet.have' (by assumption) ?_; (try simp only [go_sem, hset, List.set_set, List.length_set]))
    | ((first | refine AGet.nth ?_ (fun b hb => ?_) | refine AGet.nth1 ?_ (fun b hb => ?_) | with_reducible refine And.intro ?_ ?_); (focus (first | omega | assumption | exact List.length_pos_iff.2 (by assumption) | (simp only [List.length_append, List.length_cons, List.length_nil, List.length_map, List.length_take, List.length_drop] at *; omega) | (rw [wrap64_id (by omega) (by omega)]; omega) | (simp; done) | (simp [spare_len]; done) | (exact ⟨by omega, by omega⟩))); (try simp only [hb, go_sem, hset, List.set_set, List.length_set]))
    | (
        refine AWP.here 3 31 3 rfl ?_
        refine AWP.loopN (ι := Nat × Nat) [12, 31, 32, 33, 34, 35, 36, 37, 38, 39, 40, 41, 42, 43, 44, 45, 46, 47, 48, 49, 50, 51, 52, 53] (fun ⟨i, j⟩ => [(10, i64 i), (11, i64 j)]) (fun ⟨i, j⟩ => mi ≤ i ∧ i ≤ j ∧ j ≤ hi ∧ Go.Stb.bsG (fun x => ltP d[x]! d[lo]!) i j = Go.Stb.bsG (fun x => ltP d[x]! d[lo]!) mi hi) (fun ⟨i, j⟩ => j - i) ((mi, hi)) ?_ ?_ ?_
        · (try simp only [go_sem]); (try simp only [List.set_set, List.length_set]); (repeat' (first | assumption | exact OwnBel.wk (hob _) | exact wkK_self | exact .inr ⟨rfl, decide_eq_true hid⟩ | exact .inr (decide_eq_true hid) | refine And.intro ?_ ?_ | exact .inl rfl | exact .inr rfl | exact .inr ⟨rfl, rfl⟩ | trivial | exact .inr (oblA rfl) | exact .inr ⟨rfl, oblA rfl⟩ | exact .inr bel_strs | exact .inr ⟨rfl, bel_strs⟩ | exact .inr ⟨by simp, bel_strs⟩ | (simp; done) | exact .inr ⟨rfl, by simp⟩ | exact .inr ⟨by simp, by simp⟩)); done
        · exact ⟨by omega, by omega, by omega, rfl⟩
        rintro ⟨i, j⟩ ⟨g1, g2, g3, g4⟩
        simp only [go_sem, hset, List.set_set, List.length_set])
    | (
        refine AWP.here 9 55 4 rfl ?_
        refine AWP.loopM (ι := Nat × Array Po) [55, 56, 57, 58, 59, 60, 61, 62, 63, 64, 65, 66, 67, 68, 69, 70, 71, 72, 73, 74, 75, 76] (fun ⟨k, e⟩ => [(13, i64 k)]) (fun ⟨k, e⟩ => ow.set id (some (rowP e m))) (fun ⟨k, e⟩ => tk) (fun ⟨k, e⟩ => lo ≤ k ∧ e.size = N ∧ Go.Stb.upS k i e = Go.Stb.upS lo i d) (fun ⟨k, e⟩ => i - k) ((lo, d)) ?_ ?_ ?_
        · (try simp only [go_sem]); (try simp only [List.set_set, List.length_set]); (repeat' (first | assumption | exact OwnBel.wk (hob _) | exact wkK_self | exact .inr ⟨rfl, decide_eq_true hid⟩ | exact .inr (decide_eq_true hid) | refine And.intro ?_ ?_ | exact .inl rfl | exact .inr rfl | exact .inr ⟨rfl, rfl⟩ | trivial | exact .inr (oblA rfl) | exact .inr ⟨rfl, oblA rfl⟩ | exact .inr bel_strs | exact .inr ⟨rfl, bel_strs⟩ | exact .inr ⟨by simp, bel_strs⟩ | (simp; done) | exact .inr ⟨rfl, by simp⟩ | exact .inr ⟨by simp, by simp⟩)); done
        · exact ⟨by omega, hN, rfl⟩
        rintro ⟨k, e⟩ ⟨k1, k2, k3⟩
        simp only [go_sem, hset, List.set_set, List.length_set])
    | (
        refine AWP.here 15 83 3 rfl ?_
        refine AWP.loopN (ι := Nat × Nat) [16, 83, 84, 85, 86, 87, 88, 89, 90, 91, 92, 93, 94, 95, 96, 97, 98, 99, 100, 101, 102, 103, 104, 105, 106] (fun ⟨i, j⟩ => [(14, i64 i), (15, i64 j)]) (fun ⟨i, j⟩ => lo ≤ i ∧ i ≤ j ∧ j ≤ mi ∧ Go.Stb.bsG (fun x => !ltP d[mi]! d[x]!) i j = Go.Stb.bsG (fun x => !ltP d[mi]! d[x]!) lo mi) (fun ⟨i, j⟩ => j - i) ((lo, mi)) ?_ ?_ ?_
        · (try simp only [go_sem]); (try simp only [List.set_set, List.length_set]); (repeat' (first | assumption | exact OwnBel.wk (hob _) | exact wkK_self | exact .inr ⟨rfl, decide_eq_true hid⟩ | exact .inr (decide_eq_true hid) | refine And.intro ?_ ?_ | exact .inl rfl | exact .inr rfl | exact .inr ⟨rfl, rfl⟩ | trivial | exact .inr (oblA rfl) | exact .inr ⟨rfl, oblA rfl⟩ | exact .inr bel_strs | exact .inr ⟨rfl, bel_strs⟩ | exact .inr ⟨by simp, bel_strs⟩ | (simp; done) | exact .inr ⟨rfl, by simp⟩ | exact .inr ⟨by simp, by simp⟩)); done
        · exact ⟨by omega, by omega, by omega, rfl⟩
        rintro ⟨i, j⟩ ⟨g1, g2, g3, g4⟩
        simp only [go_sem, hset, List.set_set, List.length_set])
    | (
        refine AWP.here 21 108 3 rfl ?_
        refine AWP.loopM (ι := Nat × Array Po) [108, 109, 110, 111, 112, 113, 114, 115, 116, 117, 118, 119, 120, 121, 122, 123, 124, 125, 126, 127, 128] (fun ⟨k, e⟩ => [(17, i64 k)]) (fun ⟨k, e⟩ => ow.set id (some (rowP e m))) (fun ⟨k, e⟩ => tk) (fun ⟨k, e⟩ => k ≤ mi ∧ e.size = N ∧ Go.Stb.dnS i k e = Go.Stb.dnS i mi d) (fun ⟨k, e⟩ => k) ((mi, d)) ?_ ?_ ?_
        · (try simp only [go_sem]); (try simp only [List.set_set, List.length_set]); (repeat' (first | assumption | exact OwnBel.wk (hob _) | exact wkK_self | exact .inr ⟨rfl, decide_eq_true hid⟩ | exact .inr (decide_eq_true hid) | refine And.intro ?_ ?_ | exact .inl rfl | exact .inr rfl | exact .inr ⟨rfl, rfl⟩ | trivial | exact .inr (oblA rfl) | exact .inr ⟨rfl, oblA rfl⟩ | exact .inr bel_strs | exact .inr ⟨rfl, bel_strs⟩ | exact .inr ⟨by simp, bel_strs⟩ | (simp; done) | exact .inr ⟨rfl, by simp⟩ | exact .inr ⟨by simp, by simp⟩)); done
        · exact ⟨by omega, hN, rfl⟩
        rintro ⟨k, e⟩ ⟨k1, k2, k3⟩
        simp only [go_sem, hset, List.set_set, List.length_set])
    | (
        refine AWP.here 33 149 3 rfl ?_
        refine AWP.loopN (ι := Nat × Nat) [23, 149, 150, 151, 152, 153, 154, 155, 156, 157, 158, 159, 160, 161, 162, 163, 164, 165, 166, 167, 168, 169, 170, 171, 172, 173, 174] (fun ⟨s, r⟩ => [(20, i64 s), (21, i64 r)]) (fun ⟨s, r⟩ => lo ≤ s ∧ (lo + hi) / 2 + mi ≤ hi + s ∧ s ≤ r ∧ r ≤ (lo + hi) / 2 ∧ r ≤ mi ∧ Go.Stb.bsG (fun x => !ltP d[(lo + hi) / 2 + mi - 1 - x]! d[x]!) s r = Go.Stb.sCut ltP lo mi hi d) (fun ⟨s, r⟩ => r - s) ((if (lo + hi) / 2 < mi then (lo + hi) / 2 + mi - hi else lo, if (lo + hi) / 2 < mi then (lo + hi) / 2 else mi)) ?_ ?_ ?_
        · (try simp only [go_sem]); (first | rw [if_pos (by omega), if_pos (by omega)] | rw [if_neg (by omega), if_neg (by omega)]); (try simp only [List.set_set, List.length_set]); (repeat' (first | assumption | exact OwnBel.wk (hob _) | exact wkK_self | exact .inr ⟨rfl, decide_eq_true hid⟩ | exact .inr (decide_eq_true hid) | refine And.intro ?_ ?_ | exact .inl rfl | exact .inr rfl | exact .inr ⟨rfl, rfl⟩ | trivial | exact .inr (oblA rfl) | exact .inr ⟨rfl, oblA rfl⟩ | exact .inr bel_strs | exact .inr ⟨rfl, bel_strs⟩ | exact .inr ⟨by simp, bel_strs⟩ | (simp; done) | exact .inr ⟨rfl, by simp⟩ | exact .inr ⟨by simp, by simp⟩)); done
        · first | (rw [if_pos (by omega), if_pos (by omega)]; exact ⟨by omega, by omega, by omega, by omega, by omega, by unfold Go.Stb.sCut; rw [if_pos (by omega), if_pos (by omega)]⟩) | (rw [if_neg (by omega), if_neg (by omega)]; exact ⟨by omega, by omega, by omega, by omega, by omega, by unfold Go.Stb.sCut; rw [if_neg (by omega), if_neg (by omega)]⟩)
        rintro ⟨s, r⟩ ⟨g1, g2, g3, g4, g5, g6⟩
        simp only [go_sem, hset, List.set_set, List.length_set])
    | (
        first
        | (refine ⟨((i + j) / 2 + 1, j), ?_, ⟨by show mi ≤ (i + j) / 2 + 1; omega, by show (i + j) / 2 + 1 ≤ j; omega, g3, by rw [← g4]; exact (bs_lt (by omega) (lt_t (by assumption))).symm⟩, by show j - ((i + j) / 2 + 1) < j - i; omega⟩
           (try simp only [go_sem]); (try rw [wrap64_id (by omega) (by omega)]); (try simp only [List.set_set, List.length_set]); (repeat' (first | assumption | exact OwnBel.wk (hob _) | exact wkK_self | exact .inr ⟨rfl, decide_eq_true hid⟩ | exact .inr (decide_eq_true hid) | refine And.intro ?_ ?_ | exact .inl rfl | exact .inr rfl | exact .inr ⟨rfl, rfl⟩ | trivial | exact .inr (oblA rfl) | exact .inr ⟨rfl, oblA rfl⟩ | exact .inr bel_strs | exact .inr ⟨rfl, bel_strs⟩ | exact .inr ⟨by simp, bel_strs⟩ | (simp; done) | exact .inr ⟨rfl, by simp⟩ | exact .inr ⟨by simp, by simp⟩)); done)
        | (refine ⟨(i, (i + j) / 2), ?_, ⟨g1, by show i ≤ (i + j) / 2; omega, by show (i + j) / 2 ≤ hi; omega, by rw [← g4]; exact (bs_ge (by omega) (lt_f (by assumption))).symm⟩, by show (i + j) / 2 - i < j - i; omega⟩
           (try simp only [go_sem]); (try simp only [List.set_set, List.length_set]); (repeat' (first | assumption | exact OwnBel.wk (hob _) | exact wkK_self | exact .inr ⟨rfl, decide_eq_true hid⟩ | exact .inr (decide_eq_true hid) | refine And.intro ?_ ?_ | exact .inl rfl | exact .inr rfl | exact .inr ⟨rfl, rfl⟩ | trivial | exact .inr (oblA rfl) | exact .inr ⟨rfl, oblA rfl⟩ | exact .inr bel_strs | exact .inr ⟨rfl, bel_strs⟩ | exact .inr ⟨by simp, bel_strs⟩ | (simp; done) | exact .inr ⟨rfl, by simp⟩ | exact .inr ⟨by simp, by simp⟩)); done))
    | (
        refine ⟨(k + 1, Go.Sort.swp e k (k + 1)), ?_, ?_, ?_⟩
        · (try simp only [go_sem]); (try rw [wrap64_id (by omega) (by omega)]); (try simp only [List.set_set, List.length_set]); (repeat' (first | assumption | exact OwnBel.wk (hob _) | exact wkK_self | exact .inr ⟨rfl, decide_eq_true hid⟩ | exact .inr (decide_eq_true hid) | refine And.intro ?_ ?_ | exact .inl rfl | exact .inr rfl | exact .inr ⟨rfl, rfl⟩ | trivial | exact .inr (oblA rfl) | exact .inr ⟨rfl, oblA rfl⟩ | exact .inr bel_strs | exact .inr ⟨rfl, bel_strs⟩ | exact .inr ⟨by simp, bel_strs⟩ | (simp; done) | exact .inr ⟨rfl, by simp⟩ | exact .inr ⟨by simp, by simp⟩)); done
        · (try dsimp only); exact ⟨by omega, by rw [Go.Sort.swp_size]; exact k2, (upS_step (by omega)).symm.trans k3⟩
        · (try simp only []); omega)
    | (
        first
        | (refine ⟨((i + j) / 2 + 1, j), ?_, ⟨by show lo ≤ (i + j) / 2 + 1; omega, by show (i + j) / 2 + 1 ≤ j; omega, g3, by rw [← g4]; exact (bs_lt (by omega) (nlt_t (by assumption))).symm⟩, by show j - ((i + j) / 2 + 1) < j - i; omega⟩
           (try simp only [go_sem]); (try rw [wrap64_id (by omega) (by omega)]); (try simp only [List.set_set, List.length_set]); (repeat' (first | assumption | exact OwnBel.wk (hob _) | exact wkK_self | exact .inr ⟨rfl, decide_eq_true hid⟩ | exact .inr (decide_eq_true hid) | refine And.intro ?_ ?_ | exact .inl rfl | exact .inr rfl | exact .inr ⟨rfl, rfl⟩ | trivial | exact .inr (oblA rfl) | exact .inr ⟨rfl, oblA rfl⟩ | exact .inr bel_strs | exact .inr ⟨rfl, bel_strs⟩ | exact .inr ⟨by simp, bel_strs⟩ | (simp; done) | exact .inr ⟨rfl, by simp⟩ | exact .inr ⟨by simp, by simp⟩)); done)
        | (refine ⟨(i, (i + j) / 2), ?_, ⟨g1, by show i ≤ (i + j) / 2; omega, by show (i + j) / 2 ≤ mi; omega, by rw [← g4]; exact (bs_ge (by omega) (nlt_f (by assumption))).symm⟩, by show (i + j) / 2 - i < j - i; omega⟩
           (try simp only [go_sem]); (try simp only [List.set_set, List.length_set]); (repeat' (first | assumption | exact OwnBel.wk (hob _) | exact wkK_self | exact .inr ⟨rfl, decide_eq_true hid⟩ | exact .inr (decide_eq_true hid) | refine And.intro ?_ ?_ | exact .inl rfl | exact .inr rfl | exact .inr ⟨rfl, rfl⟩ | trivial | exact .inr (oblA rfl) | exact .inr ⟨rfl, oblA rfl⟩ | exact .inr bel_strs | exact .inr ⟨rfl, bel_strs⟩ | exact .inr ⟨by simp, bel_strs⟩ | (simp; done) | exact .inr ⟨rfl, by simp⟩ | exact .inr ⟨by simp, by simp⟩)); done))
    | (
        refine ⟨(k - 1, Go.Sort.swp e k (k - 1)), ?_, ?_, ?_⟩
        · (try simp only [go_sem]); (try rw [wrap64_id (by omega) (by omega)]); (try simp only [List.set_set, List.length_set]); (repeat' (first | assumption | exact OwnBel.wk (hob _) | exact wkK_self | exact .inr ⟨rfl, decide_eq_true hid⟩ | exact .inr (decide_eq_true hid) | refine And.intro ?_ ?_ | exact .inl rfl | exact .inr rfl | exact .inr ⟨rfl, rfl⟩ | trivial | exact .inr (oblA rfl) | exact .inr ⟨rfl, oblA rfl⟩ | exact .inr bel_strs | exact .inr ⟨rfl, bel_strs⟩ | exact .inr ⟨by simp, bel_strs⟩ | (simp; done) | exact .inr ⟨rfl, by simp⟩ | exact .inr ⟨by simp, by simp⟩)); done
        · (try dsimp only); exact ⟨by omega, by rw [Go.Sort.swp_size]; exact k2, (dnS_step (by omega)).symm.trans k3⟩
        · (try simp only []); omega)
    | (
        first
        | (refine ⟨((s + r) / 2 + 1, r), ?_, ⟨by show lo ≤ (s + r) / 2 + 1; omega, by show (lo + hi) / 2 + mi ≤ hi + ((s + r) / 2 + 1); omega, by show (s + r) / 2 + 1 ≤ r; omega, g4, g5, by rw [← g6]; exact (bs_lt (by omega) (nlt_t (by assumption))).symm⟩, by show r - ((s + r) / 2 + 1) < r - s; omega⟩
           (try simp only [go_sem]); (try rw [wrap64_id (by omega) (by omega)]); (try simp only [List.set_set, List.length_set]); (repeat' (first | assumption | exact OwnBel.wk (hob _) | exact wkK_self | exact .inr ⟨rfl, decide_eq_true hid⟩ | exact .inr (decide_eq_true hid) | refine And.intro ?_ ?_ | exact .inl rfl | exact .inr rfl | exact .inr ⟨rfl, rfl⟩ | trivial | exact .inr (oblA rfl) | exact .inr ⟨rfl, oblA rfl⟩ | exact .inr bel_strs | exact .inr ⟨rfl, bel_strs⟩ | exact .inr ⟨by simp, bel_strs⟩ | (simp; done) | exact .inr ⟨rfl, by simp⟩ | exact .inr ⟨by simp, by simp⟩)); done)
        | (refine ⟨(s, (s + r) / 2), ?_, ⟨g1, g2, by show s ≤ (s + r) / 2; omega, by show (s + r) / 2 ≤ (lo + hi) / 2; omega, by show (s + r) / 2 ≤ mi; omega, by rw [← g6]; exact (bs_ge (by omega) (nlt_f (by assumption))).symm⟩, by show (s + r) / 2 - s < r - s; omega⟩
           (try simp only [go_sem]); (try simp only [List.set_set, List.length_set]); (repeat' (first | assumption | exact OwnBel.wk (hob _) | exact wkK_self | exact .inr ⟨rfl, decide_eq_true hid⟩ | exact .inr (decide_eq_true hid) | refine And.intro ?_ ?_ | exact .inl rfl | exact .inr rfl | exact .inr ⟨rfl, rfl⟩ | trivial | exact .inr (oblA rfl) | exact .inr ⟨rfl, oblA rfl⟩ | exact .inr bel_strs | exact .inr ⟨rfl, bel_strs⟩ | exact .inr ⟨by simp, bel_strs⟩ | (simp; done) | exact .inr ⟨rfl, by simp⟩ | exact .inr ⟨by simp, by simp⟩)); done))
    | (
        refine AWP.ret ?_
        (try simp only [inb_ret, athen_ret])
        (try simp only [List.set_set])
        first
        | exact hBr _ _ (by rw [sym_1 (by omega), gi, ← k3, upS_end (by omega)])
        | exact hBr _ _ (by rw [sym_2 (by omega) (by omega), gi, ← k3, dnS_end (by omega)]))
    | (exfalso; omega)
    | (refine hBn _ _ ?_; rw [sym_3 (by omega) (by omega) gs he1 he2]; rw [if_pos (by omega)]; done)
    | (refine hBn _ _ ?_; rw [sym_3 (by omega) (by omega) gs he1 he2]; rw [if_neg (by omega)]; done)
    | refine AWP.fin (by assumption) ?_
    | fail)


end Go.Proofs.Ytajeeghgiilhiaa
