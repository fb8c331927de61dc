/- A number's digits behind bytes of one's own: strconv.AppendInt, walked in its caller's state. -/
import Derived.Test.YtgiomlgkccjhfaaDoorN3
import Derived.Test.YtgiomlgkccjhfaaDoorLc
import Derived.Test.YtgiomlgkccjhfaaDoorPl
set_option linter.unusedVariables false
set_option linter.unusedSimpArgs false
namespace Go.Proofs.YtgiomlgkccjhfaaDoor
open Go Go.Abs Go.RowKit Go.Fld Go.Shelf

theorem wanted0 {d : Option Tmp} {op : Op} {t : TypeId} {p : String} {a : Array Edge} {y : Nat → Option Bool} : Region.wanted ⟨d, op, t, p, a, none⟩ y = true := rfl
theorem dig_len (u : Nat) : (Lib.decDigits u).length = Lib.nDigits u := Lib.decDigits_length u
theorem row_cells {u v' : Nat} {dk : Array UInt8} {cs : Array Value} (h : Lib.FmtInv (Lib.nDigits u) u 0 v' dk) (h24 : Lib.nDigits u ≤ 24) (hz : ∀ j, j < 24 → cs[j]? = some (.int .u8 0)) (j : Nat) (x : AV)
    (hx : ((Lib.decDigits u).map u8 ++ List.replicate (24 - (Lib.decDigits u).length) (AV.v (.int .u8 0)))[j]? = some x) :
    ∃ v, (Sort.putCells (fun (b : UInt8) => Value.int .u8 (b.toNat : Int)) 0 dk cs)[j]? = some v ∧ x = .v v ∧ v.oneCell' = true := by
  have hlen := dig_len u
  have hsz : dk.size = Lib.nDigits u := h.size
  unfold Sort.putCells
  by_cases hj : j < (Lib.decDigits u).length
  · rw [List.getElem?_append_left (by simpa using hj), List.getElem?_map, List.getElem?_eq_getElem hj] at hx
    simp only [Option.map_some, Option.some.injEq] at hx
    have hd := Lib.row_is_numeral h j hj
    refine ⟨_, ?_, hx.symm, rfl⟩
    rw [Array.getElem?_mapIdx, hz j (by omega)]
    simp only [Option.map_some]
    rw [if_pos ⟨Nat.zero_le _, by omega⟩, Nat.sub_zero, hd]
  · rw [List.getElem?_append_right (by simp; omega)] at hx
    have hx2 := List.mem_of_getElem? hx
    have hlt := (List.getElem?_eq_some_iff.1 hx).1
    simp only [List.length_map, List.length_replicate] at hlt
    simp only [List.mem_replicate] at hx2
    refine ⟨_, ?_, hx2.2, rfl⟩
    rw [Array.getElem?_mapIdx, hz j (by omega)]
    simp only [Option.map_some]
    rw [if_neg (by omega)]

set_option maxRecDepth 100000 in
/-- formatBase10 writes the digits into an array of one's own. -/
theorem fmt_region {Q : Exit → St → Prop} {st : St} {u nd id : Nat} {y1 y2 y3 y4 : TypeId} {p1 p2 p3 p4 : String} {a1 a2 a3 a4 : Array Edge}
    (hlen : st.tmps.length = 36) (h1 : st.tmps[1]? = some (.v (.int .u64 u))) (h7 : st.tmps[7]? = some (.ptr 0 0 0)) (h8 : st.tmps[8]? = some (i64 nd)) (ho : st.own = [some [.agg (List.replicate 24 (.v (.int .u8 0)))]])
    (hnd : nd = Lib.nDigits u) (h24 : nd ≤ 24) (hu64 : u < 18446744073709551616)
    (h : Q .normal { st with tmps := (((st.tmps.set 20 .any).set 21 .any).set 22 .any).set 23 .any, own := [some [.agg ((Lib.decDigits u).map u8 ++ List.replicate (24 - (Lib.decDigits u).length) (.v (.int .u8 0)))]] }) :
    AWP E (.region id (List.toArray [⟨some 20, .move (.tmp 8), y1, p1, a1, none⟩, ⟨some 21, .slice 93 (.tmp 7) none (some (.tmp 20)) none, y2, p2, a2, none⟩, ⟨some 22, .move (.tmp 1), y3, p3, a3, none⟩,
      ⟨some 23, .call ⟨.value (.func 76), #[.tmp 21, .tmp 22], #[25, 68]⟩, y4, p4, a4, none⟩]) false) Q st := by
  intro w0 im0 cx a w hok hG r
  have hsz : a.tmps.size = 36 := by rw [r.size, hlen]
  have ev : ∀ (i : Nat) (x : AV), st.tmps[i]? = some x → VR cx x (a.eval (.tmp i)) := fun i x hi => by
    have hlt : i < a.tmps.size := by rw [r.size]; exact lt_of_get hi
    have := r.tmps i x _ hi (Array.getElem?_eq_getElem hlt)
    simpa [Act.eval, hlt] using this
  have e1 := (ev 1 _ h1).inv_v
  have e8 := (ev 8 _ h8).inv_v
  obtain ⟨g, k, hβ, e7⟩ := (ev 7 _ h7).inv_ptr
  have hown := r.own 0 g k _ hβ (by rw [ho]; rfl)
  obtain ⟨cs, ty, lo, hi, hblk, hfr, hcsz, hlv, hcell⟩ := hown.blk
  have hk : 24 = k := by have := hlv 0 _ rfl; simpa [AV.leaves] using this
  subst hk
  have hz : ∀ j, j < 24 → cs[j]? = some (.int .u8 0) := fun j hj => by
    obtain ⟨v, hv, hvr, _⟩ := hcell 0 _ j (.v (.int .u8 0)) rfl (show (List.replicate 24 (AV.v (.int .u8 0)))[j]? = _ by rw [List.getElem?_replicate, if_pos hj])
    rw [hvr.inv_v, Nat.zero_mul, Nat.zero_add] at hv; exact hv
  have hge : 24 ≤ cs.size := by simpa using hcsz
  let V : Value := .slice (some ⟨g, 0, none⟩) nd 24
  refine wp_region_lit ?_
  refine wpList_step (fun K hK => ?_)
  rw [if_pos wanted0]
  refine wp_value (v := .int .i64 nd) (w' := w) ?_ (hK _ _ ?_)
  · simp only [execOp, Sem.run_pure, e8]
  clear hK K
  refine wpList_step (fun K hK => ?_)
  rw [if_pos wanted0]
  refine wp_value (v := V) (w' := w) ?_ (hK _ _ ?_)
  · have h20 : (a.put (some 20) (.int .i64 nd)).eval (.tmp 20) = .int .i64 nd := eval_put_same (by omega)
    have h7' : (a.put (some 20) (.int .i64 nd)).eval (.tmp 7) = .pointer (some ⟨g, 0, none⟩) := by rw [eval_put_ne (by decide), e7]
    have hb : (Instr.sliceBounds false 24 24 none (some (.int .i64 (nd : Int))) none).run Tryd.prog w = .ok (0, nd, 24) w := by
      have := bounds_run (P := Tryd.prog) (w := w) (c := cx) (isS := false) (len := 24) (cap := 24) (lo := none) (hi := some (i64 nd)) (vl := none) (vh := some (.int .i64 nd)) (l := 0) (h := nd) (by simp) (fun _ => rfl) (fun x hx => by simp at hx; subst hx; exact ⟨_, rfl, .base (.v _)⟩) (by simp) rfl rfl (by omega) (by omega) (by omega) (Nat.le_refl _)
      simpa using this
    have hrun : (Instr.sliceAt 93 (.pointer (some ⟨g, 0, none⟩)) none (some (.int .i64 nd)) none).run Tryd.prog w = .ok V w := by
      simp only [Instr.sliceAt, Sem.run_bind, underlying_run Tryd.underlying93, Result.andThen_ok, Instr.sureAddr, Sem.run_pure, hb, tsz_run (show tsz Tryd.prog 5 = some 1 from by kernel_rfl)]
      simp [Addr.add, V]
    simp only [execOp, h20, h7', Option.map_some, Option.map_none, Sem.run_bind]
    exact (congrArg (fun z => Result.andThen z _) hrun).trans rfl
  clear hK K
  refine wpList_step (fun K hK => ?_)
  rw [if_pos wanted0]
  refine wp_value (v := .int .u64 u) (w' := w) ?_ (hK _ _ ?_)
  · simp only [execOp, Sem.run_pure, eval_put_ne (show (21 : Nat) ≠ 1 by decide), eval_put_ne (show (20 : Nat) ≠ 1 by decide), e1]
  clear hK K
  refine wpList_step (fun K hK => ?_)
  rw [if_pos wanted0]
  have hds : (Array.replicate nd (0 : UInt8)).size = nd := by simp
  have hH : Sort.Holds (fun (b : UInt8) => Value.int .u8 (b.toNat : Int)) w g 0 (Array.replicate nd (0 : UInt8)) := by
    intro j hj
    rw [hds] at hj
    refine ⟨?_, ?_⟩
    · have : (Array.replicate nd (0 : UInt8))[j]! = 0 := by rw [getElem!_pos _ j (by simpa using hj)]; simp
      rw [this]
      simp [World.cell?, hblk, hz j (by omega)]
    · have := hfr j (by omega)
      simp only [World.frozen?, hblk, Nat.zero_add]
      rw [Bool.eq_false_iff]; intro hh
      simp only [Bool.and_eq_true, decide_eq_true_eq] at hh
      exact this hh
  have hcall := Tryd.internal_strconv_formatBase10 g 0 24 u (Array.replicate nd (0 : UInt8)) w hH (by rw [hds, hnd]; exact Lib.lt_pow_nDigits u) hu64 (by rw [hds]; omega)
  rw [hds] at hcall
  have s21 : (((a.put (some 20) (.int .i64 nd)).put (some 21) V).put (some 22) (.int .u64 u)).eval (.tmp 21) = V := by rw [eval_put_ne (by decide), eval_put_same (by rw [size_put]; omega)]
  have s22 : (((a.put (some 20) (.int .i64 nd)).put (some 21) V).put (some 22) (.int .u64 u)).eval (.tmp 22) = .int .u64 u := eval_put_same (by rw [size_put, size_put]; omega)
  have hrun : (execOp (((a.put (some 20) (.int .i64 nd)).put (some 21) V).put (some 22) (.int .u64 u)).eval ⟨some 23, .call ⟨.value (.func 76), #[.tmp 21, .tmp 22], #[25, 68]⟩, y4, p4, a4, none⟩).run Tryd.prog w = .ok (.enter 76 #[V, .int .u64 u]) w := by
    have hf : Tryd.prog.funcs[76]? = some Tryd.f76 := Tryd.func76
    have hn1 : (Tryd.f76.name == "runtime.NumGoroutine") = false := by kernel_rfl
    have hn2 : Tryd.f76.body.isNone = false := by kernel_rfl
    have hev : (((a.put (some 20) (.int .i64 nd)).put (some 21) V).put (some 22) (.int .u64 u)).eval (.func 76) = .func (.func 76) #[] #[] := rfl
    simp only [execOp, resolve, hev, Deferred.ofValue, Sem.run_bind, Sem.run_pure, Result.andThen_ok, invoke, callFunc, run_program, hf, hn1, Bool.false_eq_true, if_false, hn2, Array.empty_append]
    simp only [List.map_toArray, List.map_cons, List.map_nil, s21, s22]
    rfl
  unfold Oper.wp
  rw [show E.P = Tryd.prog from rfl, hrun]
  simp only [Oper.upon]
  refine hcall.mono ?_
  rintro e w' ⟨rfl, n, v', dk, rfl, hinv⟩
  refine hK _ _ ?_
  clear hK K
  rw [hnd] at hinv
  have hheap : ((Sort.putRow (fun (b : UInt8) => Value.int .u8 (b.toNat : Int)) w g 0 dk).drewN n).heap = w.heap.modify g (Sort.onCells (Sort.putCells (fun (b : UInt8) => Value.int .u8 (b.toNat : Int)) 0 dk)) := rfl
  have hgn := hown.new
  have hbel : Below w0.heap.size w0 ((Sort.putRow (fun (b : UInt8) => Value.int .u8 (b.toNat : Int)) w g 0 dk).drewN n) :=
    ⟨r.below.1, r.below.2, r.below.3, by rw [hheap, Array.size_modify]; exact r.below.4, fun i hi => by rw [hheap, Array.getElem?_modify, if_neg (by omega)]; exact r.below.5 i hi⟩
  have hput := r.setOwn (id := 0) (g := g) (k := 24) (es' := [.agg ((Lib.decDigits u).map u8 ++ List.replicate (24 - (Lib.decDigits u).length) (.v (.int .u8 0)))]) (w' := (Sort.putRow (fun (b : UInt8) => Value.int .u8 (b.toNat : Int)) w g 0 dk).drewN n) hβ (by rw [ho]; rfl)
    (fun b hb => by rw [hheap, Array.getElem?_modify, if_neg (Ne.symm hb)]) hbel ?_
  · have hx : ∀ v : Value, VR cx .any v := fun v => .base (.any v)
    have r4 := (((hput.put (some 20) (hx (.int .i64 nd))).put (some 21) (hx V)).put (some 22) (hx (.int .u64 u))).put (some 23) (hx (.tuple #[]))
    have : Q .normal _ := h
    refine ⟨cx, _, r4, ?_⟩
    simpa [St.put, ho] using h
  · refine ⟨Sort.putCells (fun (b : UInt8) => Value.int .u8 (b.toNat : Int)) 0 dk cs, ty, lo, hi, ?_, ?_, ?_, ?_, ?_⟩
    · rw [hheap, Array.getElem?_modify, if_pos rfl, hblk]; rfl
    · simp only [Sort.putCells, Array.size_mapIdx]; exact hfr
    · simp only [Sort.putCells, Array.size_mapIdx]; exact hcsz
    · intro i e he
      cases i with
      | succ i => simp at he
      | zero =>
        simp only [List.getElem?_cons_zero, Option.some.injEq] at he; subst he
        simp only [AV.leaves, List.length_append, List.length_map, List.length_replicate, dig_len]; omega
    · intro i e j x he hx
      cases i with
      | succ i => simp at he
      | zero =>
        simp only [List.getElem?_cons_zero, Option.some.injEq] at he; subst he
        simp only [AV.leaves] at hx
        have hc2 : ∀ j, j < 24 → cs[j]? = some (.int .u8 0) := hz
        obtain ⟨v, hv, rfl, h1'⟩ := row_cells (cs := cs) hinv (by omega) hz j x hx
        refine ⟨v, ?_, .base (.v _), h1'⟩
        rw [Nat.zero_mul, Nat.zero_add]; exact hv
end Go.Proofs.YtgiomlgkccjhfaaDoor
