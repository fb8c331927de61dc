/- A row of one's own is sorted in place, at elements of k cells. -/
import Derived.Test.YtajeeghgiilhiaaLe
import Derived.Test.YtajeeghgiilhiaaLr
import Derived.Shelf.GgSortFunc.InsertionK
set_option linter.unusedVariables false
set_option linter.unusedSimpArgs false
namespace Go.Abs
open Go Go.RowKit Go.Sort Go.Proofs Go.Maps
theorem heap_putK {w : World} {g n : Nat} {os : Array Obj} {d : Array Value} {cur : Array Value} {e : TypeId} {fz : Nat × Nat} (hb : w.heap[g]? = some (.cells cur e fz)) :
    (grow (putRow id (Sort.ahead w n) g 0 d) os).heap[g]? = some (.cells (putCells id 0 d cur) e fz) := by
  have hlt := (Array.getElem?_eq_some_iff.1 hb).1
  rw [heap_grow_old _ _ (by simpa using hlt)]
  simp [putRow, mapBlock, Sort.ahead, Array.getElem?_modify, hb, onCells]
theorem grownBy_putK {w : World} {n g : Nat} {os : Array Obj} (d : Array Value) : w.grownBy (grow (putRow id (Sort.ahead w n) g 0 d) os) (some g) :=
  ⟨rfl, rfl, rfl, by simp [grow, putRow, mapBlock, Sort.ahead], fun k hk hne => by
    rw [heap_grow_old _ _ (by simpa [putRow, mapBlock, Sort.ahead] using hk)]
    have : g ≠ k := fun e => hne (by rw [e])
    simp [putRow, mapBlock, Sort.ahead, Array.getElem?_modify, this]⟩
theorem AWPL.sortK {E : Env} {Q : Exit → St → Prop} {st : St} {ops : Array Oper} {rest : List Oper} {g gc : FuncId} {dst : Option Tmp} {f x y : Operand} {tys : Array TypeId} {ty : TypeId} {pos : String} {after : Array Edge}
    {α : Type} [Inhabited α] (enc : α → List Value) (k : Nat) (fV : α → AV) (hk0 : 0 < k) (hk : ∀ z, (enc z).length = k) (hf : ∀ z, (fV z).leaves = (enc z).map AV.v) (h1c : ∀ z, ∀ v ∈ enc z, v.oneCell' = true)
    (hc : callable E.P g = true) (he : st.ev f = .fn g []) (hy : st.ev y = .fn gc [])
    (F : List α → List α) (hF : ∀ l, (F l).length = l.length)
    (hsort : ∀ (blk cap : Nat) (l : List α) (w : World), HoldsK enc k w blk 0 l.toArray → blk < w.heap.size → l.length < 4611686018427387904 →
      Calls E.P g #[.slice (some ⟨blk, 0, none⟩) l.length cap, .func (.func gc) #[] #[]] w fun e w' => e = .returned (.tuple #[]) ∧ ∃ n os, w' = grow (putRowK enc k (Sort.ahead w n) blk 0 (F l).toArray) os)
    (hnone : ∀ (p : Option Addr) (cap : Nat) (w : World), Calls E.P g #[.slice p 0 cap, .func (.func gc) #[] #[]] w fun e w' => e = .returned (.tuple #[]) ∧ w' = w)
    {id cap : Nat} {l : List α} {sp : List AV} (hx : st.ev x = .mu id k 0 l.length cap) (ho : st.own[id]? = some (some (l.map fV ++ sp))) (hsz : l.length ≤ 1000000)
    (h : AWPL E ops rest Q (St.put { st with own := st.own.set id (some ((F l).map fV ++ sp)) } dst (.tup []))) :
    AWPL E ops (⟨dst, .call ⟨.value f, #[x, y], tys⟩, ty, pos, after, none⟩ :: rest) Q st := by
  refine AWPL.callRaw hc he fun w0 im0 cx a w vs h0 hG r hpw => ?_
  obtain ⟨hn, hp⟩ := hpw
  obtain ⟨v, u, rfl⟩ : ∃ v u, vs = [v, u] := by
    match vs, hn with
    | [v, u], _ => exact ⟨v, u, rfl⟩
  have hv : VR cx (.mu id k 0 l.length cap) v := by
    have := hp 0 _ v rfl rfl
    rwa [← hx]
  have hu : u = .func (.func gc) #[] #[] := by
    have := hp 1 _ u rfl rfl
    rw [hy] at this
    obtain ⟨us, rfl, hnu, _⟩ := this.inv_fn
    have : us = [] := List.eq_nil_of_length_eq_zero (by simpa using hnu)
    rw [this]
  subst hu
  have hF0 : F [] = [] := List.eq_nil_of_length_eq_zero (hF [])
  have same : l = [] → { st with own := st.own.set id (some ((F l).map fV ++ sp)) } = st := fun e => by
    subst e
    have e1 : st.own.set id (some ((F []).map fV ++ sp)) = st.own := by
      apply List.ext_getElem?
      intro j
      rw [List.getElem?_set]
      split
      · rename_i hj; subst hj
        rw [if_pos (lt_of_get ho), ho]; simp [hF0]
      · rfl
    rw [e1]
  rcases hv.inv_mu with ⟨b, hb, hcap, rfl⟩ | ⟨hl, rfl, rfl⟩
  · rcases Nat.eq_zero_or_pos l.length with hz | hz
    · have hl : l = [] := List.eq_nil_of_length_eq_zero hz
      subst hl
      refine (hnone _ cap w).mono ?_
      rintro e w' ⟨rfl, rfl⟩
      exact ⟨_, rfl, cx, st, .tup [], r, .tup [] [] rfl (by simp), by rw [same rfl] at h; exact h⟩
    · have hOK := r.own id b k _ hb ho
      obtain ⟨cs, te, lo, hi, hblk, hfr, hsize, hlv, hcell⟩ := hOK.blk
      have hdiv : ∀ {n t : Nat}, t < n * k → t / k < n := fun {n t} h => Nat.div_lt_of_lt_mul (by rw [Nat.mul_comm]; exact h)
      have hleaf : ∀ (m : List α) (i j : Nat), i < m.length → j < k → (fV m[i]!).leaves[j]? = some (.v (enc m[i]!)[j]!) := fun m i j hi hj => by
        rw [hf, List.getElem?_map, List.getElem?_eq_getElem (by rw [hk]; exact hj), getElem!_pos (enc m[i]!) j (by rw [hk]; exact hj)]; rfl
      have hget : ∀ t, t < l.length * k → cs[t]? = some (flatK enc k l.toArray)[t]! := fun t ht => by
        have hi := hdiv ht
        have hj := Nat.mod_lt t hk0
        have e1 : (l.map fV ++ sp)[t / k]? = some (fV l[t / k]!) := by
          rw [List.getElem?_append_left (by simpa using hi)]
          simp [hi]
        obtain ⟨v, hv, hvr, _⟩ := hcell (t / k) _ (t % k) _ e1 (hleaf l _ _ hi hj)
        rw [hvr.inv_v] at hv
        rw [show t / k * k + t % k = t by rw [Nat.mul_comm]; exact Nat.div_add_mod t k] at hv
        rw [hv, get_flatK _ _ _ t (by simpa using ht)]
        simp
      have hH : HoldsK enc k w b 0 l.toArray := fun t ht => by
        have ht' : t < l.length * k := by simpa using ht
        have e2 := hget t ht'
        have hlt : t < cs.size := (Array.getElem?_eq_some_iff.1 e2).1
        constructor
        · simp only [World.cell?, hblk, Nat.zero_add, e2]
          try simp
        · simp only [World.frozen?, hblk, Nat.zero_add]
          rcases hfr with rfl | hfr
          · first | (simp; done) | (simp; omega)
          · first | (simp; done) | (simp; omega)
      have hbs : b < w.heap.size := r.own_lt hb ho
      rw [Nat.zero_mul]
      refine (hsort b cap l w hH hbs (by omega)).mono ?_
      rintro e w' ⟨rfl, n, os, rfl⟩
      refine ⟨_, rfl, cx, { st with own := st.own.set id (some ((F l).map fV ++ sp)) }, .tup [], ?_, .tup [] [] rfl (by simp), h⟩
      obtain ⟨G, hG'⟩ : ∃ G, flatK enc k (F l).toArray = G := ⟨_, rfl⟩
      have hGs : G.size = l.length * k := by rw [← hG', size_flatK]; simp [hF]
      have hGg : ∀ t, t < l.length * k → G[t]! = (enc (F l)[t / k]!)[t % k]! := fun t ht => by
        rw [← hG', get_flatK _ _ _ t (by simpa [hF] using ht)]
        simp
      unfold putRowK
      rw [hG']
      obtain ⟨w1, hw1⟩ : ∃ w1, putRow _root_.id (Sort.ahead w n) b 0 G = w1 := ⟨_, rfl⟩
      have hw1' : grow w1 #[] = w1 := grow_empty w1
      have hsz1 : w1.heap.size = w.heap.size := by rw [← hw1]; simp [putRow, mapBlock, Sort.ahead]
      have r1 : Rel w0 im0 cx { st with own := st.own.set id (some ((F l).map fV ++ sp)) } a w1 := by
        refine r.setOwn hb ho (fun d hd => ?_) ?_ ?_
        · rw [← hw1]
          simp [putRow, mapBlock, Sort.ahead, Array.getElem?_modify, Ne.symm hd]
        · rw [← hw1', ← hw1]
          exact r.below.grown (grownBy_putK G) r.below.size (fun j hj => by cases hj; exact hOK.new) (Nat.le_add_right _ _)
        · refine ⟨_, te, lo, hi, (by rw [← hw1', ← hw1]; exact heap_putK hblk), ?_, ?_, ?_, ?_⟩
          · simpa [putCells] using hfr
          · simp only [List.length_append, List.length_map, hF] at hsize ⊢
            simpa [putCells] using hsize
          · intro i e he
            rcases getElem?_app' _ _ _ _ he with ⟨h1, h2⟩ | ⟨h1, h2⟩
            · rw [List.getElem?_map] at h2
              cases hq : (F l)[i]? with
              | none => simp [hq] at h2
              | some z => simp only [hq, Option.map_some, Option.some.injEq] at h2; subst h2; rw [hf, List.length_map, hk]
            · refine hlv i e ?_
              rw [List.length_map, hF] at h1 h2
              rw [List.getElem?_append_right (by rw [List.length_map]; exact h1), List.length_map]; exact h2
          · intro i e j y he hy
            rcases getElem?_app' _ _ _ _ he with ⟨h1, h2⟩ | ⟨h1, h2⟩
            · rw [List.length_map, hF] at h1
              have h1' : i < (F l).length := by rw [hF]; exact h1
              have hq : e = fV (F l)[i]! := by
                rw [List.getElem?_map, List.getElem?_eq_getElem h1'] at h2
                rw [getElem!_pos (F l) i h1']
                exact (Option.some.inj h2).symm
              subst hq
              have hj : j < k := by
                have := (List.getElem?_eq_some_iff.1 hy).1
                rwa [hf, List.length_map, hk] at this
              rw [hleaf (F l) i j h1' hj] at hy
              simp only [Option.some.injEq] at hy; subst hy
              have ht : i * k + j < l.length * k := by
                have := Nat.mul_le_mul_right k (show i + 1 ≤ l.length from h1)
                rw [Nat.add_mul, Nat.one_mul] at this; omega
              have hlt : i * k + j < cs.size := (Array.getElem?_eq_some_iff.1 (hget _ ht)).1
              refine ⟨(enc (F l)[i]!)[j]!, ?_, .base (.v _), .inr (h1c _ _ (by rw [getElem!_pos _ j (by rw [hk]; exact hj)]; exact List.getElem_mem _))⟩
              simp only [putCells, Array.getElem?_mapIdx, Array.getElem?_eq_getElem hlt, Option.map_some]
              rw [if_pos ⟨Nat.zero_le _, by rw [hGs]; omega⟩, Nat.sub_zero, hGg _ ht]
              have d1 : (i * k + j) / k = i := by rw [Nat.mul_comm, Nat.mul_add_div hk0, Nat.div_eq_of_lt hj, Nat.add_zero]
              have d2 : (i * k + j) % k = j := by rw [Nat.mul_comm, Nat.mul_add_mod, Nat.mod_eq_of_lt hj]
              rw [d1, d2]; rfl
            · have h3 : (l.map fV ++ sp)[i]? = some e := by
                rw [List.length_map, hF] at h1 h2
                rw [List.getElem?_append_right (by rw [List.length_map]; exact h1), List.length_map]; exact h2
              obtain ⟨v, hv, hvr, hv1⟩ := hcell i e j y h3 hy
              refine ⟨v, ?_, hvr, hv1⟩
              rw [List.length_map, hF] at h1
              have hlt := (Array.getElem?_eq_some_iff.1 hv).1
              simp only [putCells, Array.getElem?_mapIdx, Array.getElem?_eq_getElem hlt, Option.map_some]
              have hns : ¬ (0 ≤ i * k + j ∧ i * k + j < 0 + G.size) := by
                have := Nat.mul_le_mul_right k (show l.length ≤ i from h1)
                rw [hGs]; omega
              rw [if_neg hns]
              rw [Array.getElem?_eq_getElem hlt] at hv; exact hv
      rw [hw1]
      exact r1.ext (w' := grow w1 os) ((Below.refl _ w1).grown (w' := grow w1 os) (row := none) ⟨rfl, rfl, rfl, by simp [grow], fun k hk _ => heap_grow_old _ _ hk⟩ (Nat.le_refl _) (fun j hj => by cases hj) (Nat.le_refl _))
  · have hl : l = [] := List.eq_nil_of_length_eq_zero hl
    subst hl
    refine (hnone _ 0 w).mono ?_
    rintro e w' ⟨rfl, rfl⟩
    exact ⟨_, rfl, cx, st, .tup [], r, .tup [] [] rfl (by simp), by rw [same rfl] at h; exact h⟩
end Go.Abs
