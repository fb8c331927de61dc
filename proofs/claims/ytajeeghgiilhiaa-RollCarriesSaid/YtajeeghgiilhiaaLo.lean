/- A row made with zeros in it. -/
import Derived.Test.YtajeeghgiilhiaaLn
import Derived.Laws.MakeOwn
set_option linter.unusedVariables false
set_option linter.unusedSimpArgs false
namespace Go.Abs
open Go Go.RowKit
theorem AWPL.makeS {E : Env} {Q : Exit → St → Prop} {st : St} {ops : Array Oper} {l : List Oper} {dst : Option Tmp} {t ty : TypeId} {pos : String} {after : Array Edge} {x y : Operand} {kl kc : IntKind} {e : TypeId} {k n m : Nat} {zs zs' : List AV}
    (hai : appInfo E.P t = some (e, k, n)) (hzv : tzero E.P e = some zs) (hx : st.ev x = .v (.int kl (m : Int))) (hy : st.ev y = .v (.int kc (m : Int))) (hl : zs'.length = zs.length) (hzz : ∀ (j : Nat) (z z' : AV), zs[j]? = some z → zs'[j]? = some z' → z' = z ∨ (z = .nilS ∧ ∃ q, z' = .sl none q [])) (hm : m ≤ 1000) (hk : k ≤ 1000) (hn : n ≤ 100000)
    (h : AWPL E ops l Q (St.put { st with tk := st.tk ++ [m] } dst (.sl (some st.tk.length) k (List.replicate m (.agg zs'))))) : AWPL E ops (⟨dst, .makeSlice t x y, ty, pos, after, none⟩ :: l) Q st := by
  intro w0 im0 cx a w h0 hG r
  refine wpList_step (fun K' hK' => ?_)
  have hw : Region.wanted ⟨dst, .makeSlice t x y, ty, pos, after, none⟩ (yielded ops a.tmps) = true := rfl
  rw [if_pos hw]
  obtain ⟨hu, hs, hk0, i, zv, hi, hz, hsize, hbytes, hzs⟩ := appInfo_ok hai
  have hzl : zs = zv.cells.toList.map leafOf ∧ zs.all AV.leafy = true := by
    unfold tzero at hzv
    simp only [hi, hz, Option.bind_some] at hzv
    split at hzv
    · rename_i hall
      simp only [Option.some.injEq] at hzv
      exact ⟨hzv.symm, by rw [← hzv]; exact hall⟩
    · simp at hzv
  have ex : a.eval x = .int kl (m : Int) := by have := r.ev x; rw [hx] at this; exact this.inv_v
  have ey : a.eval y = .int kc (m : Int) := by have := r.ev y; rw [hy] at this; exact this.inv_v
  have hsz : m * i.size ≤ 16777216 := by rw [hsize]; exact Nat.le_trans (Nat.mul_le_mul hm hk) (by decide)
  have hby : (i.bytes : Int) * (m : Int) ≤ 281474976710656 := by
    rw [hbytes]
    have : n * m ≤ 100000 * 1000 := Nat.mul_le_mul hn hm
    have h2 : ((n * m : Nat) : Int) ≤ 281474976710656 := by omega
    rwa [Int.natCast_mul] at h2
  have hrun := run_makeSlice (P := E.P) (w := w) t e i zv hu hi hz kl kc (m : Int) (m : Int) (by omega) (Int.le_refl _) (by simpa using hsz) hby (by omega)
  simp only [Int.toNat_natCast] at hrun
  have hlen : zs.length = k := by rw [hzl.1]; simp [hzs]
  have hcells : Cells cx.im k (List.replicate m (.agg zs')) (madeCells zv.cells (m * i.size)).toList := by
    refine ⟨fun j z hj => ?_, fun j z q u hj hq => ?_⟩
    · rw [List.getElem?_replicate] at hj
      split at hj
      · simp only [Option.some.injEq] at hj; subst hj; exact hl.trans hlen
      · simp at hj
    · rw [List.getElem?_replicate] at hj
      split at hj
      · rename_i hjm
        simp only [Option.some.injEq] at hj; subst hj
        have hq0 : zs'[q]? = some u := hq
        have hqk : q < k := by rw [← hlen, ← hl]; exact lt_of_get hq0
        obtain ⟨z, hq1⟩ : ∃ z, zs[q]? = some z := ⟨_, List.getElem?_eq_getElem (by omega)⟩
        have hqz : q < zv.cells.size := by omega
        have hu1 : z = leafOf zv.cells[q] := by
          rw [hzl.1, List.getElem?_map] at hq1
          simp [hqz] at hq1
          exact hq1.symm
        have hlt : j * k + q < m * i.size := by rw [hsize]; exact idx_lt hjm hqk
        have hmod : (j * k + q) % zv.cells.size = q := by rw [hzs, Nat.mul_comm, Nat.mul_add_mod, Nat.mod_eq_of_lt hqk]
        refine ⟨zv.cells[q], ?_, ?_⟩
        · simp only [madeCells, Array.toList_map, List.getElem?_map, Array.toList_range, List.getElem?_range hlt, Option.map_some, hmod]
          simp [hqz]
        · have hv : VR0 cx.im z zv.cells[q] := by rw [hu1]; exact leafOf_ok _ _
          have hlf : z.leafy = true := List.all_eq_true.1 hzl.2 z (List.mem_of_getElem? hq1)
          refine ⟨?_, VR.leafy (c := cx) (.base hv) hlf⟩
          rcases hzz q z u hq1 hq0 with rfl | ⟨rfl, p, rfl⟩
          · exact hv
          · have := (VR.base (c := cx) hv).inv_nilS
            rw [this]; exact .sl0 p none 0
      · simp at hj
  obtain ⟨c', hle, r2, hv⟩ := r.newTok (below_alloc w (.cells (madeCells zv.cells (m * i.size)) e)) (g := w.heap.size) (k := k) (cap := m) (es := List.replicate m (.agg zs')) (Nat.le_refl _) (heap_new w _) (.inl rfl)
    (by rw [size_madeCells, hsize]; exact Nat.le_refl _) (by simp) hcells
  rw [List.length_replicate] at r2 hv
  refine wp_value (w' := w.alloc (.cells (madeCells zv.cells (m * i.size)) e)) (v := .slice (some ⟨w.heap.size, 0, none⟩) m m) ?_ (hK' _ _ (h w0 im0 _ _ _ h0 hG (r2.put dst hv)))
  simp only [execOp, ex, ey, Sem.run_bind, hrun, Result.andThen_ok, Sem.run_pure]
end Go.Abs
