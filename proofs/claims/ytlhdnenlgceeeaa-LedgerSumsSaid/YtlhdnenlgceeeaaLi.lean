/- Clearing the end of a row of one's own. -/
import Derived.Test.YtlhdnenlgceeeaaLd
set_option linter.unusedVariables false
set_option linter.unusedSimpArgs false
namespace Go.Abs
open Go Go.RowKit
theorem zeroCells_mem {z : Array Value} {n : Nat} (h : z.toList.all (·.oneCell') = true) : ∀ u ∈ (Builtin.zeroCells z n).toList, u.oneCell' = true := by
  intro u hu
  obtain ⟨i, hi, rfl⟩ := List.mem_iff_getElem.1 hu
  have hi2 : i < n * z.size := by simpa [Builtin.zeroCells] using hi
  have hz : 0 < z.size := by
    rcases Nat.eq_zero_or_pos z.size with h0 | h0
    · rw [h0] at hi2; simp at hi2
    · exact h0
  have hlt := Nat.mod_lt i hz
  simp only [Builtin.zeroCells, Array.getElem_toList, Array.getElem_map, Array.getElem_range]
  rw [getElem!_pos z _ hlt]
  exact List.all_eq_true.1 h _ (by simp)
theorem AWPL.clearMu {E : Env} {Q : Exit → St → Prop} {st : St} {ops : Array Oper} {l : List Oper} {t ty : TypeId} {x : Operand} {pos : String} {after : Array Edge} {e : TypeId} {k n id len cap : Nat} {A B : List AV}
    (hai : appInfo E.P t = some (e, k, n)) (hone : (((E.P.info? e).bind (·.zero)).map fun zv => zv.cells.toList.all (·.oneCell')) = some true)
    (hs : st.ev x = .mu id k A.length (len + 1) cap) (ho : st.own[id]? = some (some (A ++ B))) (hlen : len + 1 ≤ B.length)
    (h : AWPL E ops l Q { st with own := st.own.set id (some (A ++ spare k B.length)) }) : AWPL E ops (⟨none, .call ⟨.builtin .clear, #[x], #[t]⟩, ty, pos, after, none⟩ :: l) Q st := by
  intro w0 im0 cx a w h0 hG r
  refine wpList_step (fun K' hK' => ?_)
  have hw : Region.wanted ⟨none, .call ⟨.builtin .clear, #[x], #[t]⟩, ty, pos, after, none⟩ (yielded ops a.tmps) = true := rfl
  rw [if_pos hw]
  obtain ⟨hu, hss, hk0, i, zv, hi, hz, hsize, hbytes, hzs⟩ := appInfo_ok hai
  have hv := r.ev x
  rw [hs] at hv
  rcases hv.inv_mu with ⟨g, hb, hcap, hve⟩ | ⟨hz1, _, _⟩
  rotate_left
  · omega
  have hown := r.own id g k _ hb ho
  obtain ⟨cs, ty', lo, hi', hblk, hfr, hsz, hlv, hcell⟩ := hown.blk
  have hoc : OCells cx k (A ++ B) cs.toList := ⟨hlv, fun i e j x he hx => by obtain ⟨u, h1, h2⟩ := hcell i e j x he hx; exact ⟨u, by simpa using h1, h2⟩⟩
  have hoc1 := hoc.take
  rw [List.length_append] at hsz
  have hesz : A.length * k ≤ cs.size := by rw [Nat.add_mul] at hsz; omega
  have hol : (cs.toList.take (A.length * k)).length = A.length * k := by have hq : cs.toList.length = cs.size := Array.length_toList; rw [List.length_take, hq]; omega
  have hfro : ∀ o, o < cs.toList.length → ¬ (lo ≤ o ∧ o < hi') := fun o h1 h2 => by
    have h1 : o < cs.size := by simpa using h1
    rcases hfr with h | h <;> omega
  have hcs : cs = cs.toList.toArray := by simp
  have hz1 : zv.cells.toList.all (·.oneCell') = true := by
    rw [hi] at hone; simp only [Option.bind_some, hz, Option.map_some, Option.some.injEq] at hone; exact hone
  have hnl : (Builtin.zeroCells zv.cells (len + 1)).toList.length = (len + 1) * k := by rw [Array.length_toList, zeroCells_size, hzs]
  have hmul : (len + 1) * k ≤ B.length * k := Nat.mul_le_mul_right _ hlen
  have hfit2 : A.length * k + 0 + (Builtin.zeroCells zv.cells (len + 1)).toList.length ≤ cs.toList.length := by
    have hq : cs.toList.length = cs.size := Array.length_toList
    rw [hnl, hq, Nat.add_zero]; rw [Nat.add_mul] at hsz; omega
  have hst := run_storePut (P := E.P) g (A.length * k) ty' lo hi' (Builtin.zeroCells zv.cells (len + 1)).toList 0 cs.toList w (by rw [← hcs]; exact hblk) hfro hfit2 (zeroCells_mem hz1)
  rw [Nat.add_zero] at hst
  have hrun : (Builtin.clear_ #[t] ty #[a.eval x]).run E.P w = .ok (.tuple #[]) (w.setRow g (putV cs.toList (A.length * k) (Builtin.zeroCells zv.cells (len + 1)).toList).toArray) := by
    rw [hve]
    have hzr : (zeroValue e).run E.P w = .ok zv w := by simp [zeroValue, typeInfo, hi, hz]
    unfold Builtin.clear_
    simp only [List.getElem?_toArray, List.getElem?_cons_zero, Sem.run_bind, underlying_run hu, Result.andThen_ok, hzr]
    (try simp only [add_none, Nat.zero_add] at hst)
    simp [hst]
  have hcs'len : (putV cs.toList (A.length * k) (Builtin.zeroCells zv.cells (len + 1)).toList).length = cs.size := by rw [putV_length]; simp
  have hOC : OCells cx k (A ++ spare k B.length) (putV cs.toList (A.length * k) (Builtin.zeroCells zv.cells (len + 1)).toList) := by
    have e1 : putV cs.toList (A.length * k) (Builtin.zeroCells zv.cells (len + 1)).toList = cs.toList.take (A.length * k) ++ (putV cs.toList (A.length * k) (Builtin.zeroCells zv.cells (len + 1)).toList).drop (A.length * k) := by
      apply List.ext_getElem?
      intro p
      by_cases hp : p < A.length * k
      · rw [List.getElem?_append_left (by rw [hol]; exact hp), putV_get _ _ _ _ (by simpa using hfit2), if_neg (by omega), List.getElem?_take, if_pos hp]
      · rw [List.getElem?_append_right (by rw [hol]; omega), hol, List.getElem?_drop]; congr 1; omega
    rw [e1]
    exact hoc1.append hol (OCells.spare (by rw [List.length_drop, hcs'len]; rw [Nat.add_mul] at hsz; omega))
  have hset := r.setOwn (w' := w.setRow g (putV cs.toList (A.length * k) (Builtin.zeroCells zv.cells (len + 1)).toList).toArray) (es' := A ++ spare k B.length) hb ho (fun b hne => setRow_other w g b _ hne) (below_setRow r.below hown.new _)
    ⟨(putV cs.toList (A.length * k) (Builtin.zeroCells zv.cells (len + 1)).toList).toArray, ty', lo, hi', setRow_heap w g cs _ ty' (lo, hi') hblk, by
      rcases hfr with h | h
      · exact .inl h
      · exact .inr (by simpa [putV_length] using h), by
      simp only [List.size_toArray, hcs'len, List.length_append, spare_len]; exact hsz, hOC.1, fun i e j x he hx => by
      obtain ⟨u, h1, h2⟩ := hOC.2 i e j x he hx
      exact ⟨u, by simpa using h1, h2⟩⟩
  refine wp_value (w' := _) (v := .tuple #[]) ?_ (hK' _ _ (h w0 im0 _ _ _ h0 hG (hset.put none (.base (.v _)))))
  simp only [execOp, resolve, Sem.run_bind, Sem.run_pure, Result.andThen_ok, invoke, builtin, List.map_toArray, List.map_cons, List.map_nil, hrun]
/-- The end of a row of one's own. -/
theorem AWPL.sliceMu {E : Env} {Q : Exit → St → Prop} {st : St} {ops : Array Oper} {rest : List Oper} {dst : Option Tmp} {t ty : TypeId} {x lo : Operand} {pos : String} {after : Array Edge} {e : TypeId} {k id off len cap l : Nat}
    (hu : E.P.underlying t = some (.slice e)) (hsz : tsz E.P e = some k) (hs : st.ev x = .mu id k off len cap) (hl : st.ev lo = i64 (l : Int)) (h1 : l ≤ len) (h2 : l < cap) (h0 : 0 < len)
    (h : AWPL E ops rest Q (st.put dst (.mu id k (off + l) (len - l) (cap - l)))) : AWPL E ops (⟨dst, .slice t x (some lo) none none, ty, pos, after, none⟩ :: rest) Q st := by
  intro w0 im0 cx a w h0' hG r
  refine wpList_step (fun K' hK' => ?_)
  have hw : Region.wanted ⟨dst, .slice t x (some lo) none none, ty, pos, after, none⟩ (yielded ops a.tmps) = true := rfl
  rw [if_pos hw]
  have hv := r.ev x
  rw [hs] at hv
  have hlv := r.ev lo
  rw [hl] at hlv
  have hlo := hlv.inv_v
  rcases hv.inv_mu with ⟨g, hb, hcap, hve⟩ | ⟨hz, _, _⟩
  rotate_left
  · omega
  have hbr := bounds_run (P := E.P) (w := w) (c := cx) (isS := true) (len := len) (cap := cap) (lo := some (i64 (l : Int))) (hi := none) (vl := some (a.eval lo)) (vh := none) (l := (l : Int)) (h := (len : Int))
    (fun y hy => by cases hy; exact ⟨_, rfl, hlv⟩) (fun hy => by cases hy) (fun y hy => by cases hy) (fun _ => rfl) rfl rfl (by omega) (by omega) (by omega) hcap
  have hrun : (Instr.sliceAt t (a.eval x) (some (a.eval lo)) none none).run E.P w = .ok (.slice (some ⟨g, (off + l) * k, none⟩) (len - l) (cap - l)) w := by
    rw [hve]
    simp only [Instr.sliceAt, Sem.run_bind, underlying_run hu, Result.andThen_ok, Instr.slice, hbr, tsz_run hsz, Sem.run_pure]
    have hne : ¬ cap = l := by omega
    simp [hne, Addr.add, Nat.add_mul]
  refine wp_value (w' := w) (v := .slice (some ⟨g, (off + l) * k, none⟩) (len - l) (cap - l)) ?_ (hK' _ _ (h w0 im0 _ _ _ h0' hG (r.put dst (.mu hb (by omega)))))
  simp only [execOp, Option.map_some, Option.map_none, Sem.run_bind, hrun, Result.andThen_ok, Sem.run_pure]
end Go.Abs
