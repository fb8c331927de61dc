/- slices.Sorted at what slices.Values hands back: a new row of the same strings, sorted. -/
import Derived.Test.YtajeeghgiilhiaaShelf
import Derived.Test.YtajeeghgiilhiaaN0
import Derived.Test.YtajeeghgiilhiaaLe
import Derived.RangeFuncBox
import Derived.RangeFuncLeaves
import Derived.Shelf.Abstract
import Derived.WalkKit
import Derived.OwnWalkIn
import Derived.TacticsInMore
import Derived.LoopNIn
import Derived.LoopIn
namespace Go.Proofs
open Go.RowKit Go.Shelf Go.Sort
set_option linter.unusedVariables false
set_option linter.unusedSimpArgs false
attribute [local go_sem] Oper.semAt_some

theorem Try.upto_all (zs : List (List UInt8)) : (List.range zs.length).map (fun j => zs[j]?.getD []) = zs := by
  apply List.ext_getElem
  · simp
  · intro i h1 h2
    simp [h2]
theorem Try.upto_succ {α : Type} (f : Nat → α) (k : Nat) : (List.range (k + 1)).map f = (List.range k).map f ++ [f k] := by simp [List.range_succ]

set_option maxRecDepth 100000 in
set_option maxHeartbeats 2000000 in
theorem Try.values1_in (F : Fence) (n : Nat) (h7 : F.fn 53) (hro : F.round = none) (hn : 1 ≤ n) (l Bs bo b off len cap : Nat) (zs : List (List UInt8)) (hreach : len * 16 ≤ 140737488351232) (w : World) (hb : b < w.heap.size) (J : List (List UInt8) → World → Prop) (hJB : ∀ pre W1, J pre W1 → Below w.heap.size w W1)
    (hY : ∀ pre x W, J pre W → pre.length < len → YieldAt F (n - 1) Try.prog l #[encStr x] W fun e W' => e = .returned (.bool true) ∧ J (pre ++ [x]) W' ∧ KeepsWalks W W')
    (W : World) (hBs : W.cell? ⟨Bs, bo, none⟩ = some (.slice (some ⟨b, off, none⟩) len cap)) (hc : ∀ j, j < len → w.cell? ⟨b, off + j, none⟩ = some (encStr (zs[j]?.getD []))) (h0 : J [] W) :
    CallsIn F n Try.prog 53 #[.func (.yield l) #[] #[], .pointer (some ⟨Bs, bo, none⟩)] W fun e W' => (∃ v, e = .returned v) ∧ J ((List.range len).map fun j => zs[j]?.getD []) W' := by
  refine callsIn_of_wp Try.func53 rfl h7 ?_ hro
  simp only [Try.ntmps53, List.size_toArray, List.length_cons, List.length_nil, Nat.reduceAdd, Nat.reduceSub, Array.replicate_succ, Array.replicate_zero, List.push_toArray, List.append_toArray, List.nil_append, List.cons_append]
  gi_wp2
  gi_loopw [7] (fun i wr => ∃ k : Nat, k ≤ len ∧ i = .int .i64 k ∧ J ((List.range k).map fun j => zs[j]?.getD []) wr)
    (fun i _ => len - (intOf i).toNat)
  case atStart => exact ⟨0, Nat.zero_le _, rfl, h0⟩
  case round =>
    obtain ⟨k, hk, rfl, hJs⟩ := hrel
    have hcx : k < len → wr.cell? ⟨b, off + k, none⟩ = some (encStr (zs[k]?.getD [])) := fun h => ((hJB _ _ hJs).cell (p := ⟨b, off + k, none⟩) hb).trans (hc k h)
    by_cases hlt : k < len
    · obtain ⟨fn, tmps, assign, body, hy, hR⟩ := hY _ (zs[k]?.getD []) wr hJs (by simpa using hlt)
      have hcx' := hcx hlt
      dsimp only [encStr] at hy hcx'
      gi_wp2
      refine hR.mono ?_
      rintro e W3 ⟨rfl, hJ3, hk3⟩
      gi_wp2
      go_roundw
      case rel => exact ⟨k + 1, by omega, by simp, by rw [Try.upto_succ]; exact hJ3⟩
      case measure => simp [intOf]; omega
    · obtain rfl : k = len := by omega
      gi_wp2
      go_end0
      exact ⟨⟨_, rfl⟩, hJs⟩

set_option maxRecDepth 100000 in
set_option maxHeartbeats 1000000 in
theorem Try.values1_none (F : Fence) (n : Nat) (h7 : F.fn 53) (hro : F.round = none) (l Bs bo cap : Nat) (a : Option Addr) (J : List (List UInt8) → World → Prop) (W : World) (hBs : W.cell? ⟨Bs, bo, none⟩ = some (.slice a 0 cap)) (h0 : J [] W) :
    CallsIn F n Try.prog 53 #[.func (.yield l) #[] #[], .pointer (some ⟨Bs, bo, none⟩)] W fun e W' => (∃ v, e = .returned v) ∧ J [] W' := by
  refine callsIn_of_wp Try.func53 rfl h7 ?_ hro
  simp only [Try.ntmps53, List.size_toArray, List.length_cons, List.length_nil, Nat.reduceAdd, Nat.reduceSub, Array.replicate_succ, Array.replicate_zero, List.push_toArray, List.append_toArray, List.nil_append, List.cons_append]
  gi_wp2
  gi_loopw [7] (fun i wr => i = .int .i64 0 ∧ J [] wr) (fun _ _ => 0)
  case atStart => exact ⟨rfl, h0⟩
  case round =>
    obtain ⟨rfl, hJs⟩ := hrel
    gi_wp2
    go_end0
    exact ⟨⟨_, rfl⟩, hJs⟩
theorem Try.sorts36 (m : Nat) : AnyZ.SortsIn Try.prog Try.sorted31_ren Fence.wide m :=
  ⟨fun blk off cap ss W hH hblk hsz => callsIn_wide.2 (AnyM.slices_Sort_string Try.sort50 blk off cap ss W hH hblk hsz),
   fun p cap W => callsIn_wide.2 (AnyM.slices_Sort_string_none Try.sort50 p cap W)⟩
end Go.Proofs
namespace Go.Proofs.Ytajeeghgiilhiaa
open Go Go.Abs Go.RowKit Go.Bk Go.Sort Go.Shelf
abbrev sortL (l : List Bs) : List Bs := l.mergeSort fun x y => decide (x ≤ y)
theorem sorted_c (l : List Bs) (hl : l.length ≤ 1000000) : ACalls E 31 [.fn 53 [.rptr [.sl none 1 (l.map str)]]] (fun r t => r = .sl (some 0) 1 ((sortL l).map str) ∧ t = [(sortL l).length]) := by
  refine ACalls.of_strs (ty := Try.sorted31_ren.t 26) fun w im vs hE hG hok hpw => ?_
  obtain ⟨hn, hp⟩ := hpw
  obtain ⟨v, rfl⟩ : ∃ v, vs = [v] := by
    match vs, hn with
    | [v], _ => exact ⟨v, rfl⟩
  obtain ⟨us, rfl, hn2, hp2⟩ := (VR.base (c := ⟨[], [], im⟩) (hp 0 _ v rfl rfl)).inv_fn
  obtain ⟨u, rfl⟩ : ∃ u, us = [u] := by
    match us, hn2 with
    | [u], _ => exact ⟨u, rfl⟩
  obtain ⟨Bs, bo, rfl, cv, h1, h2, h3⟩ := (hp2 0 _ u rfl rfl).inv_rptr
  have hc := hok _ _ _ (h1 0 _ rfl)
  have hs := h3 0 _ rfl
  have hBs := World.block_lt_of_cell? w _ hc
  have hbase : ∃ S : List (List UInt8) → Prop, (∀ ss, S ss → ss = l) ∧ SeqB Fence.wide 2 Try.prog 53 #[.pointer (some ⟨Bs, bo, none⟩)] encStr S l.length w := by
    obtain ⟨a, cap, hcv, hcap, hd⟩ := hs.inv_sl
    rw [List.length_map] at hcv
    refine ⟨fun ss => ss = l, fun _ h => h, fun lp J W hW hJ hB hY h0 => ?_⟩
    have hc' := (hW.cell (p := ⟨Bs, bo, none⟩) hBs).trans hc
    rw [hcv] at hc'
    rcases hd with hd | ⟨b, o, rfl, hk, cw, g1, g2, g3⟩
    · have : l = [] := by simpa using hd
      subst this
      exact (Try.values1_none Fence.wide 2 trivial rfl lp Bs bo cap a J W hc' h0).mono fun e W' ⟨he, hj⟩ => ⟨he, [], rfl, hj⟩
    · have hcell : ∀ j, j < l.length → w.cell? ⟨b, o + j, none⟩ = some (encStr (l[j]?.getD [])) := fun j hj => by
        have e1 : (l.map str)[j]? = some (str (l[j]?.getD [])) := by simp [hj]
        have e2 := g1 j _ 0 _ e1 rfl
        have e3 := g3 j _ 0 _ e1 rfl
        have e5 := (VR.base (c := ⟨[], [], im⟩) e3).inv_v
        have e4 := hok _ _ _ e2
        rw [e5] at e4
        simpa using e4
      rcases Nat.eq_zero_or_pos l.length with hz | hz
      · have : l = [] := List.eq_nil_of_length_eq_zero hz
        subst this
        exact (Try.values1_none Fence.wide 2 trivial rfl lp Bs bo cap _ J W hc' h0).mono fun e W' ⟨he, hj⟩ => ⟨he, [], rfl, hj⟩
      · have hb := World.block_lt_of_cell? w _ (hcell 0 hz)
        refine (Try.values1_in Fence.wide 2 trivial rfl (by omega) lp Bs bo b o l.length cap l (by omega) w hb J hB hY W hc' hcell h0).mono ?_
        rintro e W' ⟨he, hj⟩
        rw [Try.upto_all] at hj
        exact ⟨he, l, rfl, hj⟩
  obtain ⟨S, hS, hseq⟩ := hbase
  refine (callsIn_wide.1 (Sq.sorted_b Try.sorted31 Fence.wide 5 trivial trivial trivial trivial rfl (by omega) (Try.sorts36 _) (enters_of Try.func36 (by kernel_rfl) rfl) 53 #[.pointer (some ⟨Bs, bo, none⟩)] trivial (enters_of Try.func53 (by kernel_rfl) rfl) S l.length (by simp [maxLen]; omega) (by omega) w hseq)).mono ?_
  rintro e w' ⟨v, ss, rfl, hss, hrow, _, hbl⟩
  obtain rfl := hS ss hss
  refine ⟨v, rfl, ?_, hbl⟩
  simpa [sortL] using hrow
end Go.Proofs.Ytajeeghgiilhiaa
