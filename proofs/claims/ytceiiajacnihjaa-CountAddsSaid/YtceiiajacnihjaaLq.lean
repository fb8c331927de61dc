/- A row made with zeros in it, as one's own. -/
import Derived.Test.YtceiiajacnihjaaLp
import Derived.Laws.MakeOwn
set_option linter.unusedVariables false
set_option linter.unusedSimpArgs false
namespace Go.Abs
open Go Go.RowKit
theorem AWPL.makeMu {E : Env} {Q : Exit → St → Prop} {st : St} {ops : Array Oper} {l : List Oper} {dst : Option Tmp} {t ty : TypeId} {pos : String} {after : Array Edge} {x y : Operand} {kl kc : IntKind} {e : TypeId} {k n m : Nat} {zs : List AV} {el : AV}
    (hai : appInfo E.P t = some (e, k, n)) (hzv : tzero E.P e = some zs) (hx : st.ev x = .v (.int kl (m : Int))) (hy : st.ev y = .v (.int kc (m : Int))) (hl : el.leaves = zs) (hm : m ≤ 1000) (hk : k ≤ 1000) (hn : n ≤ 100000)
    (h : AWPL E ops l Q (St.put { st with own := st.own ++ [some (List.replicate m el)] } dst (.mu st.own.length k 0 m m))) : AWPL E ops (⟨dst, .makeSlice t x y, ty, pos, after, none⟩ :: l) Q st := by
  intro w0 im0 cx a w h0 hG r
  refine wpList_step (fun K' hK' => ?_)
  have hw : Region.wanted ⟨dst, .makeSlice t x y, ty, pos, after, none⟩ (yielded ops a.tmps) = true := rfl
  rw [if_pos hw]
  obtain ⟨hu, hs, hk0, i, zv, hi, hz, hsize, hbytes, hzs⟩ := appInfo_ok hai
  have hzl : zs = zv.cells.toList.map leafOf ∧ zs.all AV.leafy = true := by
    unfold tzero at hzv
    simp only [hi, hz, Option.bind_some] at hzv
    split at hzv
    · rename_i hall
      simp only [Option.some.injEq] at hzv
      exact ⟨hzv.symm, by rw [← hzv]; exact hall⟩
    · simp at hzv
  have ex : a.eval x = .int kl (m : Int) := by have := r.ev x; rw [hx] at this; exact this.inv_v
  have ey : a.eval y = .int kc (m : Int) := by have := r.ev y; rw [hy] at this; exact this.inv_v
  have hsz : m * i.size ≤ 16777216 := by rw [hsize]; exact Nat.le_trans (Nat.mul_le_mul hm hk) (by decide)
  have hby : (i.bytes : Int) * (m : Int) ≤ 281474976710656 := by
    rw [hbytes]
    have : n * m ≤ 100000 * 1000 := Nat.mul_le_mul hn hm
    have h2 : ((n * m : Nat) : Int) ≤ 281474976710656 := by omega
    rwa [Int.natCast_mul] at h2
  have hrun := run_makeSlice (P := E.P) (w := w) t e i zv hu hi hz kl kc (m : Int) (m : Int) (by omega) (Int.le_refl _) (by simpa using hsz) hby (by omega)
  simp only [Int.toNat_natCast] at hrun
  have hlen : zs.length = k := by rw [hzl.1]; simp [hzs]
  have hcel : ∀ (j : Nat) (z : AV) (q : Nat) (u : AV), (List.replicate m el)[j]? = some z → z.leaves[q]? = some u → ∃ v, (madeCells zv.cells (m * i.size))[j * k + q]? = some v ∧ VR cx u v ∧ (u = .any ∨ v.oneCell' = true) := by
    intro j z q u hj hq
    rw [List.getElem?_replicate] at hj
    split at hj
    · rename_i hjm
      simp only [Option.some.injEq] at hj; subst hj
      rw [hl] at hq
      have hqk : q < k := by rw [← hlen]; exact lt_of_get hq
      have hqz : q < zv.cells.size := by omega
      have hu1 : u = leafOf zv.cells[q] := by
        rw [hzl.1, List.getElem?_map] at hq
        simp [hqz] at hq
        exact hq.symm
      have hlt : j * k + q < m * i.size := by rw [hsize]; exact idx_lt hjm hqk
      have hmod : (j * k + q) % zv.cells.size = q := by rw [hzs, Nat.mul_comm, Nat.mul_add_mod, Nat.mod_eq_of_lt hqk]
      refine ⟨zv.cells[q], ?_, ?_⟩
      · rw [← Array.getElem?_toList]
        simp only [madeCells, Array.toList_map, List.getElem?_map, Array.toList_range, List.getElem?_range hlt, Option.map_some, hmod]
        simp [hqz]
      · have hv : VR0 cx.im u zv.cells[q] := by rw [hu1]; exact leafOf_ok _ _
        have hlf : u.leafy = true := List.all_eq_true.1 hzl.2 u (List.mem_of_getElem? hq)
        exact ⟨.base hv, .inr (VR.leafy (c := cx) (.base hv) hlf)⟩
    · simp at hj
  obtain ⟨hle, r2⟩ := r.addOwn (below_alloc w (.cells (madeCells zv.cells (m * i.size)) e)) (g := w.heap.size) (k := k) (es := List.replicate m el) (Nat.le_refl _)
    ⟨madeCells zv.cells (m * i.size), e, 0, 0, heap_new w _, .inl rfl, by simp [madeCells, hsize], fun j z hj => by
      rw [List.getElem?_replicate] at hj
      split at hj
      · simp only [Option.some.injEq] at hj; subst hj; rw [hl]; exact hlen
      · simp at hj, fun j z q u hj hq => by
        obtain ⟨v, h1, h2, h3⟩ := hcel j z q u hj hq
        exact ⟨v, h1, h2, h3⟩⟩
  have hv : VR { cx with β := cx.β ++ [some (w.heap.size, k)] } (.mu st.own.length k 0 m m) (.slice (some ⟨w.heap.size, 0, none⟩) m m) := by
    have hb : (cx.β ++ [some (w.heap.size, k)])[st.own.length]? = some (some (w.heap.size, k)) := by
      rw [← r.ownlen, List.getElem?_append_right (Nat.le_refl _)]; simp
    have := VR.mu (c := { cx with β := cx.β ++ [some (w.heap.size, k)] }) (id := st.own.length) (off := 0) (len := m) (cap := m) hb (Nat.le_refl _)
    rwa [Nat.zero_mul] at this
  refine wp_value (w' := w.alloc (.cells (madeCells zv.cells (m * i.size)) e)) (v := .slice (some ⟨w.heap.size, 0, none⟩) m m) ?_ (hK' _ _ (h w0 im0 _ _ _ h0 hG (r2.put dst hv)))
  simp only [execOp, ex, ey, Sem.run_bind, hrun, Result.andThen_ok, Sem.run_pure]
end Go.Abs
namespace Go.Abs
open Go Go.RowKit
/-- A region of three operations and a deferred call; then the rest. -/
theorem DAWP.seqD {E : Env} {uf : FuncId} {id : Nat} {o1 o2 o3 : Oper} {f x : Operand} {tys : Array TypeId} {ty : TypeId} {pos : String} {after : Array Edge} {y : Code} {J D : Exit → St → Prop} {st : St}
    (h : AList E #[o1, o2, o3, ⟨none, .defer ⟨.value f, #[x], tys⟩, ty, pos, after, none⟩] [o1, o2, o3] st fun s => s.ev f = .fn uf [] ∧ AWP E y D { s with up := s.ev x :: s.up }) :
    DAWP E uf (.seq (.region id #[o1, o2, o3, ⟨none, .defer ⟨.value f, #[x], tys⟩, ty, pos, after, none⟩] false) y) J D st :=
  DAWP.seq (DAWP.regionD (l1 := [o1, o2, o3]) (l := [o1, o2, o3, ⟨none, .defer ⟨.value f, #[x], tys⟩, ty, pos, after, none⟩]) rfl h)
theorem DAWP.fin {E : Env} {uf : FuncId} {y : Code} {J D : Exit → St → Prop} {K : St → Prop} {s : St} (h : ∀ s, DAWP E uf y J D s → K s) (g : DAWP E uf y J D s) : K s := h s g
end Go.Abs
