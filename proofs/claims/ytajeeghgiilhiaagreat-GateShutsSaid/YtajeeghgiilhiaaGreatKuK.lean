/- Texts of one chain, put together (Sr, Q2, Q3, Q4, Q19, Q22, Q5, Q6, Q29, G1, G2). -/
import Derived.Test.YtajeeghgiilhiaaGreatKuJ
import Derived.Test.YtajeeghgiilhiaaGreatKuF
import Derived.RangeFuncBox
import Derived.RangeFuncLeaves
import Derived.Shelf.Abstract
import Derived.WalkKit
import Derived.OwnWalkIn
import Derived.TacticsInMore
import Derived.LoopNIn
import Derived.LoopIn
import Derived.Test.YtajeeghgiilhiaaGreatKuE
set_option linter.unusedVariables false
set_option linter.unusedSimpArgs false
section
namespace Go.Proofs
open Go.RowKit Go.Shelf Go.Sort
attribute [local go_sem] Oper.semAt_some
theorem Tryz.upto_all (zs : List (List UInt8)) : (List.range zs.length).map (fun j => zs[j]?.getD []) = zs := by
 apply List.ext_getElem
 · simp
 · intro i h1 h2
   simp [h2]
theorem Tryz.upto_succ {α : Type} (f : Nat → α) (k : Nat) : (List.range (k + 1)).map f = (List.range k).map f ++ [f k] := by simp [List.range_succ]
set_option maxRecDepth 100000 in
set_option maxHeartbeats 2000000 in
theorem Tryz.values1_in (F : Fence) (n : Nat) (h7 : F.fn 165) (hro : F.round = none) (hn : 1 ≤ n) (l Bs bo b off len cap : Nat) (zs : List (List UInt8)) (hreach : len * 16 ≤ 140737488351232) (w : World) (hb : b < w.heap.size) (J : List (List UInt8) → World → Prop) (hJB : ∀ pre W1, J pre W1 → Below w.heap.size w W1)
   (hY : ∀ pre x W, J pre W → pre.length < len → YieldAt F (n - 1) Tryz.prog l #[encStr x] W fun e W' => e = .returned (.bool true) ∧ J (pre ++ [x]) W' ∧ KeepsWalks W W')
   (W : World) (hBs : W.cell? ⟨Bs, bo, none⟩ = some (.slice (some ⟨b, off, none⟩) len cap)) (hc : ∀ j, j < len → w.cell? ⟨b, off + j, none⟩ = some (encStr (zs[j]?.getD []))) (h0 : J [] W) :
   CallsIn F n Tryz.prog 165 #[.func (.yield l) #[] #[], .pointer (some ⟨Bs, bo, none⟩)] W fun e W' => (∃ v, e = .returned v) ∧ J ((List.range len).map fun j => zs[j]?.getD []) W' := by
 refine callsIn_of_wp Tryz.func165 rfl h7 ?_ hro
 simp only [Tryz.ntmps165, List.size_toArray, List.length_cons, List.length_nil, Nat.reduceAdd, Nat.reduceSub, Array.replicate_succ, Array.replicate_zero, List.push_toArray, List.append_toArray, List.nil_append, List.cons_append]
 gi_wp2
 gi_loopw [7] (fun i wr => ∃ k : Nat, k ≤ len ∧ i = .int .i64 k ∧ J ((List.range k).map fun j => zs[j]?.getD []) wr)
   (fun i _ => len - (intOf i).toNat)
 case atStart => exact ⟨0, Nat.zero_le _, rfl, h0⟩
 case round =>
   obtain ⟨k, hk, rfl, hJs⟩ := hrel
   have hcx : k < len → wr.cell? ⟨b, off + k, none⟩ = some (encStr (zs[k]?.getD [])) := fun h => ((hJB _ _ hJs).cell (p := ⟨b, off + k, none⟩) hb).trans (hc k h)
   by_cases hlt : k < len
   · obtain ⟨fn, tmps, assign, body, hy, hR⟩ := hY _ (zs[k]?.getD []) wr hJs (by simpa using hlt)
     have hcx' := hcx hlt
     dsimp only [encStr] at hy hcx'
     gi_wp2
     refine hR.mono ?_
     rintro e W3 ⟨rfl, hJ3, hk3⟩
     gi_wp2
     go_roundw
     case rel => exact ⟨k + 1, by omega, by simp, by rw [Tryz.upto_succ]; exact hJ3⟩
     case measure => simp [intOf]; omega
   · obtain rfl : k = len := by omega
     gi_wp2
     go_end0
     exact ⟨⟨_, rfl⟩, hJs⟩
set_option maxRecDepth 100000 in
set_option maxHeartbeats 1000000 in
theorem Tryz.values1_none (F : Fence) (n : Nat) (h7 : F.fn 165) (hro : F.round = none) (l Bs bo cap : Nat) (a : Option Addr) (J : List (List UInt8) → World → Prop) (W : World) (hBs : W.cell? ⟨Bs, bo, none⟩ = some (.slice a 0 cap)) (h0 : J [] W) :
   CallsIn F n Tryz.prog 165 #[.func (.yield l) #[] #[], .pointer (some ⟨Bs, bo, none⟩)] W fun e W' => (∃ v, e = .returned v) ∧ J [] W' := by
 refine callsIn_of_wp Tryz.func165 rfl h7 ?_ hro
 simp only [Tryz.ntmps165, List.size_toArray, List.length_cons, List.length_nil, Nat.reduceAdd, Nat.reduceSub, Array.replicate_succ, Array.replicate_zero, List.push_toArray, List.append_toArray, List.nil_append, List.cons_append]
 gi_wp2
 gi_loopw [7] (fun i wr => i = .int .i64 0 ∧ J [] wr) (fun _ _ => 0)
 case atStart => exact ⟨rfl, h0⟩
 case round =>
   obtain ⟨rfl, hJs⟩ := hrel
   gi_wp2
   go_end0
   exact ⟨⟨_, rfl⟩, hJs⟩
theorem Tryz.sorts103 (m : Nat) : AnyZ.SortsIn Tryz.prog Tryz.sorted98_ren Fence.wide m :=
 ⟨fun blk off cap ss W hH hblk hsz => callsIn_wide.2 (AnyM.slices_Sort_string Tryz.sort50 blk off cap ss W hH hblk hsz),
  fun p cap W => callsIn_wide.2 (AnyM.slices_Sort_string_none Tryz.sort50 p cap W)⟩
end Go.Proofs
namespace Go.Proofs.YtajeeghgiilhiaaGreat
open Go Go.Abs Go.RowKit Go.Bk Go.Sort Go.Shelf
abbrev sortL (l : List Bs) : List Bs := l.mergeSort fun x y => decide (x ≤ y)
theorem sorted_c (l : List Bs) (hl : l.length ≤ 1000000) : ACalls E 98 [.fn 165 [.rptr [.sl none 1 (l.map str)]]] (fun r t => r = .sl (some 0) 1 ((sortL l).map str) ∧ t = [(sortL l).length]) := by
 refine ACalls.of_strs (ty := Tryz.sorted98_ren.t 26) fun w im vs hE hG hok hpw => ?_
 obtain ⟨hn, hp⟩ := hpw
 obtain ⟨v, rfl⟩ : ∃ v, vs = [v] := by
   match vs, hn with
   | [v], _ => exact ⟨v, rfl⟩
 obtain ⟨us, rfl, hn2, hp2⟩ := (VR.base (c := ⟨[], [], im⟩) (hp 0 _ v rfl rfl)).inv_fn
 obtain ⟨u, rfl⟩ : ∃ u, us = [u] := by
   match us, hn2 with
   | [u], _ => exact ⟨u, rfl⟩
 obtain ⟨Bs, bo, rfl, cv, h1, h2, h3⟩ := (hp2 0 _ u rfl rfl).inv_rptr
 have hc := hok _ _ _ (h1 0 _ rfl)
 have hs := h3 0 _ rfl
 have hBs := World.block_lt_of_cell? w _ hc
 have hbase : ∃ S : List (List UInt8) → Prop, (∀ ss, S ss → ss = l) ∧ SeqB Fence.wide 2 Tryz.prog 165 #[.pointer (some ⟨Bs, bo, none⟩)] encStr S l.length w := by
   obtain ⟨a, cap, hcv, hcap, hd⟩ := hs.inv_sl
   rw [List.length_map] at hcv
   refine ⟨fun ss => ss = l, fun _ h => h, fun lp J W hW hJ hB hY h0 => ?_⟩
   have hc' := (hW.cell (p := ⟨Bs, bo, none⟩) hBs).trans hc
   rw [hcv] at hc'
   rcases hd with hd | ⟨b, o, rfl, hk, cw, g1, g2, g3⟩
   · have : l = [] := by simpa using hd
     subst this
     exact (Tryz.values1_none Fence.wide 2 trivial rfl lp Bs bo cap a J W hc' h0).mono fun e W' ⟨he, hj⟩ => ⟨he, [], rfl, hj⟩
   · have hcell : ∀ j, j < l.length → w.cell? ⟨b, o + j, none⟩ = some (encStr (l[j]?.getD [])) := fun j hj => by
       have e1 : (l.map str)[j]? = some (str (l[j]?.getD [])) := by simp [hj]
       have e2 := g1 j _ 0 _ e1 rfl
       have e3 := g3 j _ 0 _ e1 rfl
       have e5 := (VR.base (c := ⟨[], [], im⟩) e3).inv_v
       have e4 := hok _ _ _ e2
       rw [e5] at e4
       simpa using e4
     rcases Nat.eq_zero_or_pos l.length with hz | hz
     · have : l = [] := List.eq_nil_of_length_eq_zero hz
       subst this
       exact (Tryz.values1_none Fence.wide 2 trivial rfl lp Bs bo cap _ J W hc' h0).mono fun e W' ⟨he, hj⟩ => ⟨he, [], rfl, hj⟩
     · have hb := World.block_lt_of_cell? w _ (hcell 0 hz)
       refine (Tryz.values1_in Fence.wide 2 trivial rfl (by omega) lp Bs bo b o l.length cap l (by omega) w hb J hB hY W hc' hcell h0).mono ?_
       rintro e W' ⟨he, hj⟩
       rw [Tryz.upto_all] at hj
       exact ⟨he, l, rfl, hj⟩
 obtain ⟨S, hS, hseq⟩ := hbase
 refine (callsIn_wide.1 (Sq.sorted_b Tryz.sorted98 Fence.wide 5 trivial trivial trivial trivial rfl (by omega) (Tryz.sorts103 _) (enters_of Tryz.func103 (by kernel_rfl) rfl) 165 #[.pointer (some ⟨Bs, bo, none⟩)] trivial (enters_of Tryz.func165 (by kernel_rfl) rfl) S l.length (by simp [maxLen]; omega) (by omega) w hseq)).mono ?_
 rintro e w' ⟨v, ss, rfl, hss, hrow, _, hbl⟩
 obtain rfl := hS ss hss
 refine ⟨v, rfl, ?_, hbl⟩
 simpa [sortL] using hrow
end Go.Proofs.YtajeeghgiilhiaaGreat
end
section
namespace Go.Proofs.YtajeeghgiilhiaaGreat
open Go Go.Abs Go.RowKit Go.Bk
end Go.Proofs.YtajeeghgiilhiaaGreat
end
section
namespace Go.Proofs.YtajeeghgiilhiaaGreat
open Go Go.Abs Go.RowKit Go.Bk
theorem twice_next {l : List Bs} {i : Nat} {p b : Bs} (hp : l[i]? = some p) (hb : l[i + 1]? = some b) (h : ¬ b = p) : twiceB (l.drop (i + 1)) = twiceB (l.drop i) := by
 rw [drop_of hp, drop_of hb]; simp [twiceB, h]
theorem twice_yes {l : List Bs} {i : Nat} {p b : Bs} (hp : l[i]? = some p) (hb : l[i + 1]? = some b) (h : b = p) : twiceB (l.drop i) = true := by
 rw [drop_of hp, drop_of hb]; simp [twiceB, h]
theorem twice_end {l : List Bs} {i : Nat} (h : l.length ≤ i + 1) : twiceB (l.drop i) = false := by
 cases hd : l.drop i with
 | nil => rfl
 | cons x m =>
   have := congrArg List.length hd
   rw [List.length_drop, List.length_cons] at this
   have : m = [] := List.eq_nil_of_length_eq_zero (by omega)
   subst this; rfl
theorem half_eq {i j : Nat} (h1 : i ≤ 1000000) (h2 : j ≤ 1000000) : IntKind.i64.wrap ((IntKind.u64.wrap (IntKind.i64.wrap ((i : Int) + j))).fdiv (2 ^ (min 1 64))) = (((i + j) / 2 : Nat) : Int) := by
 have e0 : IntKind.i64.wrap ((i : Int) + j) = (i : Int) + j := wrap64_id (by omega) (by omega)
 have e1 : IntKind.u64.wrap ((i : Int) + j) = ((i : Int) + j) := by
   simp only [IntKind.wrap, IntKind.bits, IntKind.signed]
   have : ((i : Int) + j) % 2 ^ 64 = ((i : Int) + j) := by omega
   simp only [this]; simp
 rw [e0, e1, show (2 : Int) ^ (min 1 64) = 2 by decide, Int.fdiv_eq_ediv_of_nonneg _ (by omega)]
 rw [wrap64_id (by omega) (by omega)]; omega
theorem lows {l : List Bs} {x y : Bs} {i m : Nat} (hs : l.Pairwise (fun a b => a ≤ b)) (h3 : ∀ k y, k < i → l[k]? = some y → y < x) (hb : l[m]? = some y) (h : y < x) : ∀ k y, k < m + 1 → l[k]? = some y → y < x := by
 intro k z hk hz
 rcases Nat.lt_or_ge k m with h' | h'
 · obtain ⟨hk1, rfl⟩ := List.getElem?_eq_some_iff.1 hz
   obtain ⟨hm1, rfl⟩ := List.getElem?_eq_some_iff.1 hb
   exact List.lt_of_le_of_lt (List.pairwise_iff_getElem.1 hs k m hk1 hm1 h') h
 · have : k = m := by omega
   subst this
   rw [hb] at hz; cases hz; exact h
theorem highs {l : List Bs} {x y : Bs} {j m : Nat} (hs : l.Pairwise (fun a b => a ≤ b)) (h4 : ∀ k y, j ≤ k → l[k]? = some y → ¬ y < x) (hb : l[m]? = some y) (h : ¬ y < x) : ∀ k y, m ≤ k → l[k]? = some y → ¬ y < x := by
 intro k z hk hz hc
 rcases Nat.lt_or_ge m k with h' | h'
 · obtain ⟨hk1, rfl⟩ := List.getElem?_eq_some_iff.1 hz
   obtain ⟨hm1, rfl⟩ := List.getElem?_eq_some_iff.1 hb
   exact h (List.lt_of_le_of_lt (List.pairwise_iff_getElem.1 hs m k hm1 hk1 h') hc)
 · have : k = m := by omega
   subst this
   rw [hb] at hz; cases hz; exact h hc
theorem found_yes {l : List Bs} {x y : Bs} {i : Nat} (h3 : ∀ k y, k < i → l[k]? = some y → y < x) (h4 : ∀ k y, i ≤ k → l[k]? = some y → ¬ y < x) (hs : l.Pairwise (fun a b => a ≤ b)) (hb : l[i]? = some y) : decide (x ∈ l) = decide (y = x) := by
 by_cases h : y = x
 · subst h; simp [List.mem_of_getElem? hb]
 · have : ¬ x ∈ l := fun hm => by
     obtain ⟨k, hk⟩ := List.mem_iff_getElem?.1 hm
     rcases Nat.lt_trichotomy k i with h' | h' | h'
     · exact List.lt_irrefl x (h3 k x h' hk)
     · subst h'; rw [hk] at hb; cases hb; exact h rfl
     · obtain ⟨hk1, e1⟩ := List.getElem?_eq_some_iff.1 hk
       obtain ⟨hm1, e2⟩ := List.getElem?_eq_some_iff.1 hb
       have := List.pairwise_iff_getElem.1 hs i k hm1 hk1 h'
       rw [e1, e2] at this
       have h5 := h4 i y (Nat.le_refl _) hb
       exact h (List.le_antisymm this (List.not_lt.1 h5))
   simp [this, h]
theorem found_no {l : List Bs} {x : Bs} {i : Nat} (hi : l.length ≤ i) (h3 : ∀ k y, k < i → l[k]? = some y → y < x) : decide (x ∈ l) = false := by
 simp only [decide_eq_false_iff_not]
 intro hm
 obtain ⟨k, hk⟩ := List.mem_iff_getElem?.1 hm
 exact List.lt_irrefl x (h3 k x (by have := get_lt hk; omega) hk)
set_option maxHeartbeats 4000000 in
set_option maxRecDepth 8000 in
theorem twice_c (l : List Bs) (hl : l.length ≤ 9223372036854775807) : ACalls E 100 [.sl none 1 (l.map str)] (fun r t => r = bl (twiceB l) ∧ t = []) := by
 refine ACalls.of_awp (n := 20) (rs := [.tmp 2]) Tryz.func100 rfl Tryz.ntmps100 rfl ?_
 repeat' (first
 | refine AWP.seqk fun K hK => ?_
 | (
  refine AWP.here 4 10 10 rfl ?_
  have hlt : i + 1 < l.length := by omega
  obtain ⟨p, hp⟩ : ∃ p, l[i]? = some p := ⟨_, List.getElem?_eq_getElem (by omega)⟩
  refine AWP.regionO [0, 1, 2, 3, 4, 5, 6, 7, 8, 9] [] (by kernel_rfl) (by kernel_rfl) rfl ?_; simp only [go_sem, hw, hp]
  refine AGet.nth hlt (fun b hb => ?_)
  simp only [hb, go_sem, hw, hp])
 | (refine AWP.region ?_; simp only [go_sem])
 | (refine hK _ ?_; clear hK K)
 | refine AWP.block ?_
 | refine AWP.cond rfl (fun c => ?_) (fun c => ?_) <;> first | (try simp only [dD] at c)
 | refine AWP.skip ?_
 | (refine AWP.exit ?_; simp only [go_sem])
 | ((first | with_reducible refine And.intro ?_ ?_); (focus (first | (simp; done) | fail)); (try simp only [hb, go_sem]))
 | (
  refine AWP.here 2 4 4 rfl ?_
  refine AWP.loopN (ι := Nat) [2, 4, 5, 6, 7, 8, 9, 10, 11, 12, 13, 14, 15, 16, 17, 18, 19] (fun (i : Nat) => [(3, i64 (i + 1 : Nat))]) (fun (i : Nat) => i ≤ l.length ∧ twiceB (l.drop i) = twiceB l) (fun (i : Nat) => l.length - i) (0) ?_ ?_ ?_
  · (try simp only [go_sem]); (repeat' (first | fail))
  · exact ⟨by omega, rfl⟩
  rintro i ⟨h1, h2⟩
  simp only [go_sem]
  have hw : (IntKind.i64.wrap (((i + 1 : Nat) : Int) - 1)) = (i : Int) := by rw [wrap64_id (by omega) (by omega)]; omega)
 | (
  refine ⟨i + 1, ?_, ?_, ?_⟩
  · (try simp only [go_sem]); (try rw [wrap64_id (by omega) (by omega)]); (first | (simp; done))
  · exact ⟨by omega, by rw [← h2]; exact twice_next hp hb (by assumption)⟩
  · (try simp only []); omega)
 | (
  refine AWP.ret ?_
  refine AEnd.is ?_; simp only [go_sem, out_v, out_s, out_n, v_int, v_bool, v_str] <;> (first
  | (rw [← h2, twice_yes hp hb (by assumption)]; done)
  | (rw [← h2, twice_end (by omega)]; done)))
 | refine AWP.fin (by assumption) ?_)
set_option maxHeartbeats 4000000 in
set_option maxRecDepth 8000 in
theorem snan_c (s : Bs) : ACalls E 167 [str s] (fun r t => r = bl false ∧ t = []) := by
 refine ACalls.of_awp (n := 6) (rs := [.tmp 2]) Tryz.func167 rfl Tryz.ntmps167 rfl ?_
 repeat' (first
 | refine AWP.seqk fun K hK => ?_
 | (refine AWP.region ?_; simp only [go_sem])
 | (refine hK _ ?_; clear hK K)
 | (
  refine AWP.ret ?_
  refine AEnd.is ?_; simp only [go_sem, out_v, out_s, out_n, v_int, v_bool, v_str] <;> (simp; done))
 | fail)
set_option maxHeartbeats 4000000 in
set_option maxRecDepth 8000 in
theorem cnan_c (s : Bs) : ACalls E 183 [str s] (fun r t => r = bl false ∧ t = []) := by
 refine ACalls.of_awp (n := 6) (rs := [.tmp 2]) Tryz.func183 rfl Tryz.ntmps183 rfl ?_
 repeat' (first
 | refine AWP.seqk fun K hK => ?_
 | (refine AWP.region ?_; simp only [go_sem])
 | (refine hK _ ?_; clear hK K)
 | (
  refine AWP.ret ?_
  refine AEnd.is ?_; simp only [go_sem, out_v, out_s, out_n, v_int, v_bool, v_str] <;> (simp; done))
 | fail)
set_option maxHeartbeats 4000000 in
set_option maxRecDepth 8000 in
theorem cless_c (s u : Bs) : ACalls E 166 [str s, str u] (fun r t => r = bl (decide (s < u)) ∧ t = []) := by
 refine ACalls.of_awp (n := 17) (rs := [.tmp 4]) Tryz.func166 rfl Tryz.ntmps166 rfl ?_
 repeat' (first
 | refine AWP.seqk fun K hK => ?_
 | (refine AWP.region ?_; simp only [go_sem, Go.Proofs.bytesLess_eq])
 | (refine hK _ ?_; clear hK K)
 | (refine ACall.one (cnan_c _) (by kernel_rfl) rfl ?_; simp only [go_sem, Go.Proofs.bytesLess_eq])
 | (
  refine AWP.ret ?_
  refine AEnd.is ?_; simp only [go_sem, out_v, out_s, out_n, v_int, v_bool, v_str] <;> (simp [Go.Proofs.bytesLess_eq]; done))
 | fail)
set_option maxHeartbeats 4000000 in
set_option maxRecDepth 8000 in
theorem bsearch_c (l : List Bs) (x : Bs) (hs : l.Pairwise (fun a b => a ≤ b)) (hl : l.length ≤ 1000000) : ACalls E 102 [.sl none 1 (l.map str), str x] (fun r t => (∃ n : Int, r = .tup [i64 n, bl (decide (x ∈ l))]) ∧ t = []) := by
 refine ACalls.of_awp (n := 54) (rs := [.tmp 4, .tmp 5]) Tryz.func102 rfl Tryz.ntmps102 rfl ?_
 repeat' (first
 | refine AWP.seqk fun K hK => ?_
 | (
  refine AWP.here 5 22 6 rfl ?_
  rw [half_eq (i := i) (j := j) (by omega) (by omega)]
  refine AWP.region ?_; simp only [go_sem])
 | (refine AWP.region ?_; simp only [go_sem])
 | (refine hK _ ?_; clear hK K)
 | refine AWP.block ?_
 | refine AWP.cond rfl (fun c => ?_) (fun c => ?_) <;> first | (try simp only [dD] at c)
 | refine AWP.skip ?_
 | (refine AWP.exit ?_; simp only [go_sem])
 | (refine ACall.one (cless_c _ _) (by kernel_rfl) rfl ?_; simp only [go_sem])
 | (refine ACall.one (snan_c _) (by kernel_rfl) rfl ?_; simp only [go_sem])
 | (refine AGuard.splitN (fun h => ?_) (fun h => ?_) <;> simp only [h, go_sem] <;> (try simp only [dD] at h))
 | (refine AGuard.split (fun h => ?_) (fun h => ?_) <;> simp only [h, go_sem] <;> (try simp only [dD] at h))
 | (refine AGet.haveM (by assumption) ?_; (try simp only [go_sem]))
 | ((first | refine AGet.nth ?_ (fun b hb => ?_) | with_reducible refine And.intro ?_ ?_); (focus (first | omega | (simp; done) | fail)); (try simp only [hb, go_sem]))
 | (
  refine AWP.here 3 13 3 rfl ?_
  refine AWP.loopN (ι := Nat × Nat) [9, 13, 14, 15, 16, 17, 18, 19, 20, 21, 22, 23, 24, 25, 26, 27, 28, 29, 30] (fun ⟨i, j⟩ => [(7, i64 i), (8, i64 j)]) (fun ⟨i, j⟩ => i ≤ j ∧ j ≤ l.length ∧ (∀ k y, k < i → l[k]? = some y → y < x) ∧ (∀ k y, j ≤ k → l[k]? = some y → ¬ y < x)) (fun ⟨i, j⟩ => j - i) ((0, l.length)) ?_ ?_ ?_
  · (try simp only [go_sem]); (repeat' (first | fail))
  · exact ⟨by simp, by simp, by simp, fun k y h1 h2 => absurd (get_lt h2) (by simpa using h1)⟩
  rintro ⟨i, j⟩ ⟨h1, h2, h3, h4⟩
  simp only [go_sem])
 | (
  first
  | (refine ⟨((i + j) / 2 + 1, j), ?_, ?_, ?_⟩
     · (try simp only [go_sem]); (try rw [wrap64_id (by omega) (by omega)]); simp
     · exact ⟨by show (i + j) / 2 + 1 ≤ j; omega, h2, lows hs h3 hb (by assumption), h4⟩
     · show j - ((i + j) / 2 + 1) < j - i; omega)
  | (refine ⟨(i, (i + j) / 2), ?_, ?_, ?_⟩
     · (try simp only [go_sem]); (try simp)
     · exact ⟨by show i ≤ (i + j) / 2; omega, by show (i + j) / 2 ≤ l.length; omega, h3, highs hs h4 hb (by assumption)⟩
     · show (i + j) / 2 - i < j - i; omega))
 | (
  refine AWP.ret ?_
  simp only [go_sem]
  refine ⟨[], .tup [i64 i, bl (decide (x ∈ l))], rfl, ⟨rfl, ?_, trivial⟩, ⟨i, rfl⟩, rfl⟩
  refine congrArg (fun b => Value.bool b) ?_
  obtain rfl : i = j := by omega
  first | (rw [found_yes h3 h4 hs hb]; simp [*]; done) | exact (found_no (by omega) h3).symm)
 | refine AWP.fin (by assumption) ?_)
end Go.Proofs.YtajeeghgiilhiaaGreat
end
section
namespace Go.Proofs.YtajeeghgiilhiaaGreat
open Go Go.Abs Go.RowKit Go.Bk
theorem cl_sl {l : List Bs} : ∀ x ∈ (AV.agg [.sl none 1 (l.map str)]).leaves, x.clean1 = some x := by
 intro x hx
 simp only [AV.leaves, List.mem_cons, List.not_mem_nil, or_false] at hx
 subst hx; rfl
theorem cl_strs (l : List Bs) : ∀ e ∈ l.map str, ∀ x ∈ e.leaves, x.clean1 = some x := by
 intro e he x hx
 obtain ⟨o, _, rfl⟩ := List.mem_map.1 he
 simp only [AV.leaves, List.mem_cons, List.not_mem_nil, or_false] at hx
 subst hx; rfl
theorem fresh_strs (l : List Bs) : Fresh [l.length] (.sl (some 0) 1 (l.map str)) := by
 refine ⟨by simp, ?_⟩
 intro e he y hy
 obtain ⟨o, _, rfl⟩ := List.mem_map.1 he
 simp only [AV.leaves, List.mem_cons, List.not_mem_nil, or_false] at hy
 exact ⟨_, hy⟩
theorem strs_take {l : List Bs} {m : Nat} : (l.map str ++ spare 1 m).take l.length = l.map str := List.take_left' (by simp)
theorem strs_snoc {l : List Bs} {x : Bs} : l.map str ++ [str x] = (l ++ [x]).map str := by simp
theorem right_b1 {b : Bk} (h : headB b = false) : rightBk b = false := by simp [rightBk, h]
theorem right_b2 {b : Bk} (h : twiceB (srt b.ids) = true) : rightBk b = false := by
 rw [twiceB_srt] at h; simp [rightBk]; intro _ h2; simp [h2] at h
theorem right_b3 {b : Bk} {i : Nat} {f : Dn} (hb : b.fills[i]? = some f) (h : fillB b f = false) : rightBk b = false := by
 have : b.fills.all (fillB b) = false := by
   rw [List.all_eq_false]; exact ⟨f, List.mem_of_getElem? hb, by simp [h]⟩
 unfold rightBk; rw [this]; simp
theorem right_b4 {b : Bk} (h1 : headB b = true) (h2 : twiceB (srt b.ids) = false) (h3 : b.fills.all (fillB b) = true) : (!(!decide (b.fills.map (·.id)).Nodup)) = rightBk b := by
 rw [twiceB_srt] at h2
 unfold rightBk; rw [h1, h3]
 have : decide b.ids.Nodup = true := by simpa using h2
 rw [this]; simp
theorem fill_yes {b : Bk} {f : Dn} (h1 : smallB f.qty = true) (h2 : smallB f.price = true) (h3 : ¬ f.time < 0) (h4 : ¬ b.clock < f.time) (h5 : f.id ∈ sortL b.ids) : fillB b f = true := by
 rw [mem_srt] at h5
 simp [fillB, h1, h2, h5]; omega
theorem fill_no {b : Bk} {f : Dn} (h5 : ¬ f.id ∈ sortL b.ids) : fillB b f = false := by
 rw [mem_srt] at h5
 simp [fillB, h5]
theorem all_take {α : Type} {l : List α} {p : α → Bool} {i : Nat} {x : α} (hb : l[i]? = some x) (h : (l.take i).all p = true) (hx : p x = true) : (l.take (i + 1)).all p = true := by
 rw [take_next hb, List.all_append, h]; simp [hx]
set_option maxHeartbeats 8000000 in
set_option maxRecDepth 8000 in
theorem bright_c (bk : Bk) (ho : bk.orders.length ≤ 9223372036854775807) (hf : bk.fills.length ≤ 9223372036854775807) (hi : bk.ids.length ≤ 9223372036854775807) : ACalls E 39 [bkV bk] (fun r t => r = bl (rightBk bk) ∧ t = []) := by
 refine ACalls.of_awp (n := 100) (rs := [.tmp 2]) Tryz.func39 rfl Tryz.ntmps39 rfl ?_
 repeat' (first
 | refine AWP.seqk fun K hK => ?_
 | (
  refine AWP.here 16 94 2 rfl ?_
  rw [strs_take, strs_snoc]
  refine AWP.renum [0, 1, 4] (by decide) rfl rfl ?_
  simp only [go_sem]
  refine AWP.region ?_; simp only [go_sem])
 | (
  refine AWP.here 17 95 2 rfl ?_
  refine AWP.regionL ?_
  refine AWPL.at 2 1 rfl ?_
  simp only [go_sem]
  refine AWPL.sortS (by kernel_rfl) rfl (fun blk off cap ss w h1 h2 h3 => Go.Proofs.AnyM.slices_Sort_string Go.Proofs.Tryz.sort50 blk off cap ss w h1 h2 h3) (fun p cap w => Go.Proofs.AnyM.slices_Sort_string_none Go.Proofs.Tryz.sort50 p cap w) (id := 2) (l := nl) (sp := spare 1 m) rfl rfl (by omega) ?_
  simp only [go_sem]
  refine AWPL.of ?_
  simp only [go_sem])
 | (refine AWP.here 3 45 5 rfl ?_; refine AWP.regionL ?_; refine AWPL.at 5 2 rfl ?_; simp only [go_sem])
 | (refine AWP.region ?_; simp only [go_sem])
 | (refine hK _ ?_; clear hK K)
 | refine AWP.block ?_
 | refine AWP.cond rfl (fun c => ?_) (fun c => ?_) <;> first | exact Bool.noConfusion c | (try simp only [dD] at c)
 | refine AWP.skip ?_
 | (refine AWP.exit ?_; simp only [go_sem])
 | (refine ACall.one (oright_c _ (by first | assumption | fail)) (by kernel_rfl) rfl ?_; simp only [go_sem])
 | (refine ACall.snap (sorted_c bk.ids (by omega)) (by kernel_rfl) rfl (.cons (.fn (.cons (.ptr (e := .agg [.sl none 1 (bk.ids.map str)]) rfl cl_sl) .nil)) .nil) ?_; rintro r t ⟨rfl, rfl⟩; refine ⟨fresh_strs _, ?_⟩; simp only [go_sem])
 | (refine ACall.one (twice_c _ (by rw [sortL_len]; omega)) (by kernel_rfl) rfl ?_; simp only [go_sem])
 | (refine ACall.snapOne (twice_c (sortL nl) (by rw [sortL_len]; omega)) (by kernel_rfl) rfl (.cons (.one (.mu' rfl (by simp [sortL_len]) (cl_strs _))) .nil) ?_; simp only [go_sem])
 | (refine ACall.one (bamount_c _) (by kernel_rfl) rfl ?_; simp only [go_sem])
 | (refine ACall.of (bsearch_c (sortL bk.ids) _ (srt_sorted _) (by rw [sortL_len]; omega)) (by kernel_rfl) rfl ?_; rintro r t ⟨⟨n, rfl⟩, rfl⟩; simp only [go_sem])
 | (refine AWPL.call (rs := [.tmp 2]) Tryz.func99 rfl Tryz.ntmps99 rfl (by kernel_rfl) rfl rfl ?_; simp only [go_sem])
 | (refine AGuard.splitN (fun h => ?_) (fun h => ?_) <;> simp only [h, go_sem] <;> (try simp only [dD] at h))
 | (refine AGuard.split (fun h => ?_) (fun h => ?_) <;> simp only [h, go_sem] <;> (try simp only [dD] at h))
 | ((first | refine AGet.nth ?_ (fun b hb => ?_) | with_reducible refine And.intro ?_ ?_); (focus (first | omega | (simp; done) | (simp [spare_len]; done) | fail)); (try simp only [hb, go_sem]))
 | (
  refine AWP.here 8 55 1 rfl ?_
  refine AWP.nilMu 4 1 rfl ?_
  simp only [go_sem]
  refine AWP.loopM (ι := Nat × List Bs × Nat) [2, 6, 7, 8, 55, 56, 57, 58, 59, 60, 61, 62, 63, 64, 65, 66, 67, 68, 69, 70, 71, 72, 73, 74, 75, 76, 77, 78, 79, 80, 81, 82, 83, 84, 85, 86, 87, 88, 89, 90, 91, 92, 93, 94] (fun ⟨i, nl, m⟩ => [(54, i64 i), (4, .mu 2 1 0 nl.length (nl.length + m))]) (fun ⟨i, nl, m⟩ => [some [.agg [odsV bk.orders, dnsV bk.fills, .sl none 1 (bk.ids.map str), i64 bk.clock, i64 bk.bad]], some [.agg [.sl none 1 (bk.ids.map str)]], some (nl.map str ++ spare 1 m)]) (fun ⟨i, nl, m⟩ => [(sortL bk.ids).length]) (fun ⟨i, nl, m⟩ => i ≤ bk.fills.length ∧ (bk.fills.take i).all (fillB bk) = true ∧ nl = (bk.fills.take i).map (·.id)) (fun ⟨i, nl, m⟩ => bk.fills.length - i) ((0, [], 0)) ?_ ?_ ?_
  · (try simp only [go_sem]); (repeat' (first | refine And.intro ?_ ?_ | exact .inr (oblA rfl) | exact .inr ⟨rfl, oblA rfl⟩ | fail))
  · exact ⟨Nat.zero_le _, by simp, by simp⟩
  rintro ⟨i, nl, m⟩ ⟨h1, h2, h3⟩
  simp only [go_sem]
  have hnl : nl.length = i := by rw [h3, List.length_map, List.length_take]; omega)
 | (
  refine ⟨(i + 1, nl ++ [b.id], mm), ?_, ?_, ?_⟩
  · (try simp only [go_sem]); (try rw [wrap64_id (by omega) (by omega)]); (repeat' (first | refine And.intro ?_ ?_ | exact .inr rfl | exact .inr (oblA rfl) | exact .inr bel_strs | fail))
  · exact ⟨by show i + 1 ≤ bk.fills.length; omega, all_take (by assumption) h2 (fill_yes (by assumption) (by assumption) (by omega) (by omega) (by assumption)), by rw [h3, take_next (by assumption)]; simp⟩
  · show bk.fills.length - (i + 1) < bk.fills.length - i; omega)
 | (
  refine AWP.ret ?_
  refine AEnd.is ?_; simp only [go_sem, out_v, out_s, out_n, v_int, v_bool, v_str] <;> (first
  | (rw [right_b1 (by first | (simp [headB, *]; done) | (simp [headB]; intros; omega))]; done)
  | (rw [right_b2 (by assumption)]; done)
  | (rw [right_b3 hb (by first | (simp [fillB, *]; done) | (simp [fillB]; intros; omega))]; done)
  | (rw [right_b3 hb (fill_no (by assumption))]; done)
  | (rw [twiceB_srt, h3, List.take_of_length_le (by omega)]; rw [List.take_of_length_le (by omega)] at h2; exact right_b4 (by simp [headB, *]; omega) (by assumption) h2)
  | fail))
 | (refine AWP.ret ?_; refine AInPost.ret rfl ?_; simp only [go_sem])
 | (refine AWPL.of ?_; simp only [go_sem])
 | (refine fun (mm : Nat) => ?_; simp only [go_sem])
 | refine AWP.fin (by assumption) ?_)
end Go.Proofs.YtajeeghgiilhiaaGreat
end
section
namespace Go.Proofs.YtajeeghgiilhiaaGreat
open Go Go.Abs Go.RowKit Go.Bk
abbrev wV (w : Ws) : AV := .agg [i64 w.1, i64 w.2]
theorem nof1 {f : Dn} {acc sym : Bs} (h : f.live = false) : ¬ (f.live = true ∧ f.acc = acc ∧ f.sym = sym) := by simp [h]
theorem nof2 {f : Dn} {acc sym : Bs} (h : ¬ f.acc = acc) : ¬ (f.live = true ∧ f.acc = acc ∧ f.sym = sym) := fun h2 => h h2.2.1
theorem nof3 {f : Dn} {acc sym : Bs} (h : ¬ f.sym = sym) : ¬ (f.live = true ∧ f.acc = acc ∧ f.sym = sym) := fun h2 => h h2.2.2
theorem noo1 {o : Od} {acc sym : Bs} (h : ¬ o.acc = acc) : ¬ (o.acc = acc ∧ o.sym = sym) := fun h2 => h h2.1
theorem noo2 {o : Od} {acc sym : Bs} (h : ¬ o.sym = sym) : ¬ (o.acc = acc ∧ o.sym = sym) := fun h2 => h h2.2
theorem od_same {o : Od} {acc sym : Bs} (h1 : o.acc = acc) (h2 : o.sym = sym) : (⟨o.id, acc, sym, o.buy, o.qty, o.price, o.done, o.opn⟩ : Od) = o := by subst h1; subst h2; rfl
theorem oleft_t {o p : Od} (h : p = o) : ACalls E 111 [odV p] (fun r t => r = i64 (leftF o) ∧ t = []) := by subst h; exact oleft_c p
theorem of_no {b : Bk} {acc sym : Bs} (h : rightBk b = false) : ofF b acc sym = (0, 0) := by unfold ofF; rw [h]; rfl
set_option maxHeartbeats 4000000 in
set_option maxRecDepth 8000 in
theorem plus_c (p q : Ws) : ACalls E 70 [wV p, wV q] (fun r t => r = wV (plusW p q) ∧ t = []) := by
 refine ACalls.of_awp (n := 16) (rs := [.cell 4 45]) Tryz.func70 rfl Tryz.ntmps70 rfl ?_
 repeat' (first
 | refine AWP.seqk fun K hK => ?_
 | (refine AWP.region ?_; simp only [go_sem])
 | (refine hK _ ?_; clear hK K)
 | (
  refine AWP.ret ?_
  refine AEnd.is ?_; simp only [go_sem, out_v, out_s, out_n, v_int, v_bool, v_str] <;> (simp [plusW]; done))
 | fail)
set_option maxHeartbeats 4000000 in
set_option maxRecDepth 8000 in
theorem side_c (y : Bool) (q : Int) : ACalls E 109 [bl y, i64 q] (fun r t => r = wV (sideW y q) ∧ t = []) := by
 refine ACalls.of_awp (n := 10) (rs := [.cell 4 45]) Tryz.func109 rfl Tryz.ntmps109 rfl ?_
 repeat' (first
 | refine AWP.seqk fun K hK => ?_
 | (refine AWP.region ?_; simp only [go_sem])
 | (refine hK _ ?_; clear hK K)
 | refine AWP.cond rfl (fun c => ?_) (fun c => ?_) <;> first | (try simp only [dD] at c)
 | refine AWP.skip ?_
 | (
  refine AWP.ret ?_
  refine AEnd.is ?_; simp only [go_sem, out_v, out_s, out_n, v_int, v_bool, v_str] <;> (simp [sideW, *]; done))
 | fail)
set_option maxHeartbeats 4000000 in
set_option maxRecDepth 8000 in
theorem final_c (bk : Bk) (f : Dn) : ACalls E 110 [bkV bk, dnV f] (fun r t => r = bl (finalF bk f) ∧ t = []) := by
 refine ACalls.of_awp (n := 19) (rs := [.tmp 4]) Tryz.func110 rfl Tryz.ntmps110 rfl ?_
 repeat' (first
 | refine AWP.seqk fun K hK => ?_
 | (refine AWP.region ?_; simp only [go_sem])
 | (refine hK _ ?_; clear hK K)
 | refine AWP.cond rfl (fun c => ?_) (fun c => ?_) <;> first | exact Bool.noConfusion c | (try simp only [dD] at c)
 | refine AWP.skip ?_
 | (refine AGuard.splitN (fun h => ?_) (fun h => ?_) <;> simp only [h, go_sem] <;> (try simp only [dD] at h))
 | (
  refine AWP.ret ?_
  refine AEnd.is ?_; simp only [go_sem, out_v, out_s, out_n, v_int, v_bool, v_str] <;> (first | (unfold finalF; rw [if_pos (by omega)]; done) | (unfold finalF; rw [if_neg (by omega)]; done) | fail))
 | fail)
theorem final_t {bk : Bk} {f g : Dn} (h : g.time = f.time) : ACalls E 110 [bkV bk, dnV g] (fun r t => r = bl (finalF bk f) ∧ t = []) := by
 have e : finalF bk f = finalF bk g := by unfold finalF; rw [h]
 rw [e]; exact final_c bk g
set_option maxHeartbeats 8000000 in
set_option maxRecDepth 8000 in
theorem eof_c (bk : Bk) (acc sym : Bs) (ho : bk.orders.length ≤ 9223372036854775807) (hf : bk.fills.length ≤ 9223372036854775807) (hi : bk.ids.length ≤ 9223372036854775807) : ACalls E 42 [bkV bk, str acc, str sym] (fun r t => r = wV (ofF bk acc sym) ∧ t = []) := by
 refine ACalls.of_awp (n := 84) (rs := [.cell 6 45]) Tryz.func42 rfl Tryz.ntmps42 rfl ?_
 repeat' (first
 | refine AWP.seqk fun K hK => ?_
 | (
  refine AWP.here 6 21 4 rfl ?_
  obtain ⟨f, hb⟩ : ∃ f, bk.fills[i]? = some f := ⟨_, List.getElem?_eq_getElem (by omega)⟩
  refine AWP.region ?_; simp only [go_sem])
 | (
  refine AWP.here 14 63 4 rfl ?_
  obtain ⟨o, hc⟩ : ∃ o, bk.orders[j]? = some o := ⟨_, List.getElem?_eq_getElem (by omega)⟩
  refine AWP.region ?_; simp only [go_sem])
 | (refine AWP.region ?_; simp only [go_sem])
 | (refine AWP.here 8 38 8 rfl ?_; refine AWP.regionO [0, 1, 2, 3, 4, 5, 6, 7] [] (by kernel_rfl) (by kernel_rfl) rfl ?_; simp only [go_sem])
 | (refine AWP.here 10 48 10 rfl ?_; refine AWP.regionO [0, 1, 2, 3, 4, 5, 6, 7, 8, 9] [] (by kernel_rfl) (by kernel_rfl) rfl ?_; simp only [go_sem])
 | (refine AWP.here 16 75 8 rfl ?_; refine AWP.regionO [0, 1, 2, 3, 4, 5, 6, 7] [] (by kernel_rfl) (by kernel_rfl) rfl ?_; simp only [go_sem])
 | (refine hK _ ?_; clear hK K)
 | refine AWP.block ?_
 | refine AWP.cond rfl (fun c => ?_) (fun c => ?_) <;> first | exact Bool.noConfusion c | (try simp only [dD] at c)
 | refine AWP.skip ?_
 | (refine AWP.exit ?_; simp only [go_sem])
 | (refine ACall.one (bright_c bk ho hf hi) (by kernel_rfl) rfl ?_; simp only [go_sem])
 | (refine ACall.one (side_c f.buy f.qty) (by kernel_rfl) rfl ?_; simp only [go_sem])
 | (refine ACall.one (side_c (!f.buy) (IntKind.i64.wrap (0 - f.qty))) (by kernel_rfl) rfl ?_; simp only [go_sem])
 | (refine ACall.one (side_c o.buy (leftF o)) (by kernel_rfl) rfl ?_; simp only [go_sem])
 | (refine ACall.one (plus_c w (sideW f.buy f.qty)) (by kernel_rfl) rfl ?_; simp only [go_sem])
 | (refine ACall.one (plus_c (plusW w (sideW f.buy f.qty)) (sideW (!f.buy) (IntKind.i64.wrap (0 - f.qty)))) (by kernel_rfl) rfl ?_; simp only [go_sem])
 | (refine ACall.one (plus_c u (sideW o.buy (leftF o))) (by kernel_rfl) rfl ?_; simp only [go_sem])
 | (refine ACall.one (final_t (bk := bk) (f := f) (g := ⟨f.id, f.ord, f.acc, f.sym, f.buy, f.qty, f.price, f.time, true⟩) rfl) (by kernel_rfl) rfl ?_; simp only [go_sem])
 | (refine ACall.one (oleft_c o) (by kernel_rfl) rfl ?_; simp only [go_sem])
 | (refine AGuard.split (fun h => ?_) (fun h => ?_) <;> simp only [h, go_sem] <;> (try simp only [dD] at h))
 | (refine AGet.haveM (by assumption) ?_; (try simp only [go_sem]))
 | ((first | with_reducible refine And.intro ?_ ?_); (focus (first | (simp; done) | fail)); (try simp only [hb, go_sem]))
 | (
  refine AWP.here 5 20 1 rfl ?_
  refine AWP.loopM (ι := Nat × Ws) [9, 20, 21, 22, 23, 24, 25, 26, 27, 28, 29, 30, 31, 32, 33, 34, 35, 36, 37, 38, 39, 40, 41, 42, 43, 44, 45, 46, 47, 48, 49, 50, 51, 52, 53, 54, 55, 56, 57] (fun ⟨i, w⟩ => [(19, i64 i)]) (fun ⟨i, w⟩ => [some [.agg [odsV bk.orders, dnsV bk.fills, .sl none 1 (bk.ids.map str), i64 bk.clock, i64 bk.bad]], some [.agg [i64 0, i64 0]], some [.agg [i64 w.1, i64 w.2]]]) (fun ⟨i, w⟩ => []) (fun ⟨i, w⟩ => i ≤ bk.fills.length ∧ w = upF bk acc sym i) (fun ⟨i, w⟩ => bk.fills.length - i) ((0, ((0, 0) : Ws))) ?_ ?_ ?_
  · (try simp only [go_sem]); (repeat' (first | refine And.intro ?_ ?_ | trivial | exact .inr (oblA rfl) | fail)); done
  · exact ⟨Nat.zero_le _, rfl⟩
  rintro ⟨i, w⟩ ⟨h1, h2⟩
  simp only [go_sem]
  have hr : rightBk bk = true := by assumption)
 | (
  refine AWP.here 13 62 1 rfl ?_
  refine AWP.loopM (ι := Nat × Ws) [11, 62, 63, 64, 65, 66, 67, 68, 69, 70, 71, 72, 73, 74, 75, 76, 77, 78, 79, 80, 81, 82] (fun ⟨j, u⟩ => [(61, i64 j)]) (fun ⟨j, u⟩ => [some [.agg [odsV bk.orders, dnsV bk.fills, .sl none 1 (bk.ids.map str), i64 bk.clock, i64 bk.bad]], some [.agg [i64 0, i64 0]], some [.agg [i64 u.1, i64 u.2]]]) (fun ⟨j, u⟩ => []) (fun ⟨j, u⟩ => j ≤ bk.orders.length ∧ u = upO bk acc sym j) (fun ⟨j, u⟩ => bk.orders.length - j) ((0, w)) ?_ ?_ ?_
  · (try simp only [go_sem]); (repeat' (first | refine And.intro ?_ ?_ | trivial | exact .inr (oblA rfl) | fail)); done
  · exact ⟨Nat.zero_le _, upO_zero (by omega) h2⟩
  rintro ⟨j, u⟩ ⟨g1, g2⟩
  simp only [go_sem])
 | (
  first
  | (refine ⟨(i + 1, w), ?_, ⟨by show i + 1 ≤ bk.fills.length; omega, up_no hb h2 (by first | exact nof1 (by assumption) | exact nof2 (by assumption) | exact nof3 (by assumption))⟩, by show bk.fills.length - (i + 1) < bk.fills.length - i; omega⟩
     (try simp only [go_sem]); (try rw [wrap64_id (by omega) (by omega)]); (repeat' (first | refine And.intro ?_ ?_ | exact .inr rfl | trivial | exact .inr (oblA rfl) | fail)); done)
  | (refine ⟨(i + 1, plusW w (sideW f.buy f.qty)), ?_, ⟨by show i + 1 ≤ bk.fills.length; omega, up_yes hr hb h2 ⟨by assumption, by assumption, by assumption⟩ (by assumption)⟩, by show bk.fills.length - (i + 1) < bk.fills.length - i; omega⟩
     (try simp only [go_sem]); (try rw [wrap64_id (by omega) (by omega)]); (repeat' (first | refine And.intro ?_ ?_ | exact .inr rfl | trivial | exact .inr (oblA rfl) | fail)); done)
  | (refine ⟨(i + 1, plusW (plusW w (sideW f.buy f.qty)) (sideW (!f.buy) (IntKind.i64.wrap (0 - f.qty)))), ?_, ⟨by show i + 1 ≤ bk.fills.length; omega, up_fin hr hb h2 ⟨by assumption, by assumption, by assumption⟩ (by assumption)⟩, by show bk.fills.length - (i + 1) < bk.fills.length - i; omega⟩
     (try simp only [go_sem]); (try rw [wrap64_id (by omega) (by omega)]); (repeat' (first | refine And.intro ?_ ?_ | exact .inr rfl | trivial | exact .inr (oblA rfl) | fail)); done))
 | (
  first
  | (refine ⟨(j + 1, u), ?_, ⟨by show j + 1 ≤ bk.orders.length; omega, upO_no hc g2 (by first | exact noo1 (by assumption) | exact noo2 (by assumption))⟩, by show bk.orders.length - (j + 1) < bk.orders.length - j; omega⟩
     (try simp only [go_sem]); (try rw [wrap64_id (by omega) (by omega)]); (repeat' (first | refine And.intro ?_ ?_ | exact .inr rfl | trivial | exact .inr (oblA rfl) | fail)); done)
  | (refine ⟨(j + 1, plusW u (sideW o.buy (leftF o))), ?_, ⟨by show j + 1 ≤ bk.orders.length; omega, upO_yes hr hc g2 ⟨by assumption, by assumption⟩⟩, by show bk.orders.length - (j + 1) < bk.orders.length - j; omega⟩
     (try simp only [go_sem]); (try rw [wrap64_id (by omega) (by omega)]); (repeat' (first | refine And.intro ?_ ?_ | exact .inr rfl | trivial | exact .inr (oblA rfl) | fail)); done))
 | (
  refine AWP.ret ?_
  refine AEnd.is ?_; simp only [go_sem, out_v, out_s, out_n, v_int, v_bool, v_str] <;> (first
  | (rw [← upO_end hr (by omega) g2]; simp; done)
  | (rw [of_no (by assumption)]; simp; done)
  | fail))
 | refine AWP.fin (by assumption) ?_)
end Go.Proofs.YtajeeghgiilhiaaGreat
end
section
namespace Go.Proofs.YtajeeghgiilhiaaGreat
open Go Go.Abs Go.RowKit Go.Bk
theorem sgn_sell {f : Dn} (h : f.buy = false) : sgn f = -f.qty := by unfold sgn; rw [h]; rfl
end Go.Proofs.YtajeeghgiilhiaaGreat
end
section
namespace Go.Proofs.YtajeeghgiilhiaaGreat
open Go Go.Abs Go.RowKit Go.Bk
theorem pl_dn (l : List Dn) : ∀ e ∈ l.map dnV, e.leaves.length = 9 ∧ ∀ y ∈ e.leaves, ∃ z, y = .v z := by
 intro e he
 obtain ⟨o, _, rfl⟩ := List.mem_map.1 he
 refine ⟨rfl, fun x hx => ?_⟩
 simp only [AV.leaves, List.mem_cons, List.not_mem_nil, or_false] at hx
 rcases hx with rfl | rfl | rfl | rfl | rfl | rfl | rfl | rfl | rfl <;> exact ⟨_, rfl⟩
theorem right_facts {b : Bk} (h : rightBk b = true) : headB b = true ∧ (b.orders.length ≤ 64 ∧ b.fills.length ≤ 256 ∧ b.ids.length ≤ 256) ∧ ∀ f ∈ b.fills, 0 ≤ f.time ∧ f.time ≤ 4611686018427387904 := by
 simp only [rightBk, Bool.and_eq_true] at h
 obtain ⟨⟨⟨h1, h2⟩, h3⟩, h4⟩ := h
 refine ⟨h1, ?_, fun f hf => ?_⟩
 · simp only [headB, Bool.and_eq_true, decide_eq_true_eq] at h1
   exact ⟨right_len (by simp [h1]), by omega, by omega⟩
 · have := List.all_eq_true.1 h3 f hf
   simp only [headB, fillB, Bool.and_eq_true, decide_eq_true_eq] at h1 this
   omega
theorem come_no {b : Bk} {x : Ex} (h : rightBk b = false ∨ execB x = false) : comeF b x = (b, 0) := by
 unfold comeF; rcases h with h | h <;> simp [h]
theorem come_yes {b : Bk} {x : Ex} (h1 : rightBk b = true) (h2 : execB x = true) : comeF b x = takeF b x := by
 unfold comeF; simp [h1, h2]
set_option maxHeartbeats 4000000 in
set_option maxRecDepth 8000 in
theorem oclone_p (l : List Od) (hl : l.length ≤ 1000000) : ACalls E 126 [.sl none 8 (l.map odV)] (fun r t => r = .sl none 8 (l.map odV) ∧ t = []) := by
 refine ACalls.of_awp (n := 8) (rs := [.tmp 2]) Tryz.func126 rfl Tryz.ntmps126 rfl ?_
 repeat' (first
 | refine AWP.seqk fun K hK => ?_
 | (refine AWP.region ?_; simp only [go_sem])
 | (refine hK _ ?_; clear hK K)
 | refine AWP.cond rfl (fun c => ?_) (fun c => ?_) <;> first | (try simp only [dD] at c)
 | refine AWP.skip ?_
 | ((first | with_reducible refine And.intro ?_ ?_); (focus (first | omega | (simp; done) | fail)); (try simp only [hb, go_sem]))
 | (
  refine AWP.ret ?_
  refine AEnd.is ?_; simp only [go_sem, out_v, out_s, out_n, v_int, v_bool, v_str] <;> (first
  | (have he : l = [] := by
       apply Classical.byContradiction; intro hne
       have := hbb (by simpa using hne)
       rw [this] at c; exact absurd c (by simp)
     simp [he]; done)
  | fail))
 | (refine fun (bb : Bool) (hbb : _ → bb = false) => ?_)
 | fail)
set_option maxHeartbeats 4000000 in
set_option maxRecDepth 8000 in
theorem dclone_c (l : List Dn) (hl : l.length ≤ 1000000) : ACalls E 127 [.sl none 9 (l.map dnV)] (fun r t => r = .sl (some 0) 9 (l.map dnV) ∧ t = [l.length]) := by
 refine ACalls.of_awp (n := 8) (rs := [.tmp 2]) Tryz.func127 rfl Tryz.ntmps127 rfl ?_
 repeat' (first
 | refine AWP.seqk fun K hK => ?_
 | (refine AWP.region ?_; simp only [go_sem])
 | (refine hK _ ?_; clear hK K)
 | refine AWP.cond rfl (fun c => ?_) (fun c => ?_) <;> first | (try simp only [dD] at c)
 | refine AWP.skip ?_
 | ((first | with_reducible refine And.intro ?_ ?_); (focus (first | omega | (simp; done) | fail)); (try simp only [hb, go_sem]))
 | (
  refine AWP.ret ?_
  simp only [go_sem]
  first
  | (have he : l = [] := by
       apply Classical.byContradiction; intro hne
       have := hbb (by simpa using hne)
       rw [this] at c; exact absurd c (by simp)
     exact ⟨[(false, 9)], .sl (some 0) 9 [], rfl, rfl, by rw [he]; rfl, by rw [he]; rfl⟩)
  | exact ⟨[(true, 0)], .sl (some 0) 9 _, rfl, ⟨rfl, rfl, rfl⟩, by simp, by simp [selLens]⟩)
 | (refine fun (bb : Bool) (hbb : _ → bb = false) => ?_)
 | fail)
set_option maxHeartbeats 4000000 in
set_option maxRecDepth 8000 in
theorem sclone_c (l : List Bs) (hl : l.length ≤ 1000000) : ACalls E 128 [.sl none 1 (l.map str)] (fun r t => r = .sl (some 0) 1 (l.map str) ∧ t = [l.length]) := by
 refine ACalls.of_awp (n := 8) (rs := [.tmp 2]) Tryz.func128 rfl Tryz.ntmps128 rfl ?_
 repeat' (first
 | refine AWP.seqk fun K hK => ?_
 | (refine AWP.region ?_; simp only [go_sem])
 | (refine hK _ ?_; clear hK K)
 | refine AWP.cond rfl (fun c => ?_) (fun c => ?_) <;> first | (try simp only [dD] at c)
 | refine AWP.skip ?_
 | ((first | with_reducible refine And.intro ?_ ?_); (focus (first | omega | (simp; done) | fail)); (try simp only [hb, go_sem]))
 | (
  refine AWP.ret ?_
  simp only [go_sem]
  first
  | (have he : l = [] := by
       apply Classical.byContradiction; intro hne
       have := hbb (by simpa using hne)
       rw [this] at c; exact absurd c (by simp)
     exact ⟨[(false, 1)], .sl (some 0) 1 [], rfl, rfl, by rw [he]; rfl, by rw [he]; rfl⟩)
  | exact ⟨[(true, 0)], .sl (some 0) 1 _, rfl, ⟨rfl, rfl, rfl⟩, by simp, by simp [selLens]⟩)
 | (refine fun (bb : Bool) (hbb : _ → bb = false) => ?_)
 | fail)
end Go.Proofs.YtajeeghgiilhiaaGreat
end
section
namespace Go.Proofs.YtajeeghgiilhiaaGreat
open Go Go.Abs Go.RowKit Go.Bk
set_option maxHeartbeats 8000000 in
set_option maxRecDepth 8000 in
theorem come_c (bk : Bk) (x : Ex) (ho : bk.orders.length ≤ 1000000) (hf : bk.fills.length ≤ 1000000) (hi : bk.ids.length ≤ 1000000) : ACalls E 41 [bkV bk, exV x] (fun r t => r = .tup [bkV (comeF bk x).1, i64 (comeF bk x).2] ∧ t = []) := by
 refine ACalls.of_awp (n := 22) (rs := [.cell 4 26, .tmp 5]) Tryz.func41 rfl Tryz.ntmps41 rfl ?_
 repeat' (first
 | refine AWP.seqk fun K hK => ?_
 | (
  refine AWP.here 2 9 8 rfl ?_
  refine AWP.renum [2, 0, 5, 1] (by decide) rfl rfl ?_
  simp only [go_sem, dn_ren]
  refine AWP.region ?_; simp only [go_sem])
 | (
  refine AWP.here 3 17 3 rfl ?_
  refine AWP.publishLeaf 1 1 (jd := 2) (k := 9) (n := bk.fills.length) (cap := bk.fills.length + m) _ (rowV bk m) (by decide) rfl rfl rfl (by simp [rowV]) (by rw [row_take]; exact cl_dn _) ?_
  rw [row_take]
  simp only [go_sem]
  refine AWP.region ?_; simp only [go_sem])
 | (
  refine AWP.here 5 20 4 rfl ?_
  refine AWP.publishLeaf 1 1 (jd := 2) (k := 9) (n := b2.fills.length) (cap := b2.fills.length + m2) _ (rowV b2 m2) (by decide) rfl rfl rfl (by simp [rowV]) (by rw [row_take]; exact cl_dn _) ?_
  rw [row_take]
  simp only [go_sem]
  refine AWP.region ?_; simp only [go_sem])
 | (
  refine AWP.here 4 18 3 rfl ?_
  have hr := right_facts (by assumption)
  refine AWP.weaken (t := ⟨[.any, .any, .ptr 1 0 0, .ptr 3 0 0, .ptr 0 0 0, .any, .any, .any, .any, .any, .any, .any, .any, .any, .any, .any, .any, .any, .any, .any, .any, .any], [Z0, some [bookV bk m], some (rowV bk m), some [exV x]], [bk.ids.length], fun _ => none, none, []⟩) ⟨⟨.inl rfl, .inl rfl, .inr ⟨rfl, rfl⟩, .inr ⟨rfl, rfl⟩, .inr ⟨rfl, rfl⟩, .inl rfl, .inl rfl, .inl rfl, .inl rfl, .inl rfl, .inl rfl, .inl rfl, .inl rfl, .inl rfl, .inl rfl, .inl rfl, .inl rfl, .inl rfl, .inl rfl, .inl rfl, .inl rfl, .inl rfl, trivial⟩, wkO_bel own_bel1, ⟨rfl, trivial⟩, rfl, rfl, rfl, rfl⟩ ?_
  refine AWP.regionL ?_
  refine AWPL.at 3 1 rfl ?_
  simp only [go_sem]
  refine take_call (b := bk) (x := x) (m := m) rfl rfl (by assumption) hr.2.2 (by omega) (by omega) (by omega) (kpL_app (n := 0) (by decide) rfl rfl) ?_
  intro b2 e2 m2 hb2
  have hlen := takeF_grows bk x
  rw [hb2] at hlen
  refine AWPL.of ?_
  simp only [go_sem])
 | (refine AWP.here 1 7 3 rfl ?_; refine AWP.regionL ?_; refine AWPL.at 3 1 rfl ?_; simp only [go_sem])
 | (refine AWP.region ?_; simp only [go_sem])
 | (refine hK _ ?_; clear hK K)
 | refine AWP.cond rfl (fun c => ?_) (fun c => ?_) <;> first | exact Bool.noConfusion c | (try simp only [dD] at c)
 | refine AWP.skip ?_
 | (refine ACall.snapOne (bright_c bk (by omega) (by omega) (by omega)) (by kernel_rfl) rfl (.cons (.agg (.cons (.clean rfl) (.cons (.mu' rfl (by simp) (cl_dn _)) (.cons (.clean rfl) (.cons (.clean rfl) (.cons (.clean rfl) .nil)))))) .nil) ?_; simp only [go_sem])
 | (refine ACall.one (mexec_c _) (by kernel_rfl) rfl ?_; simp only [go_sem])
 | (refine ACall.one (oclone_p _ (by first | assumption | fail)) (by kernel_rfl) rfl ?_; simp only [go_sem])
 | (refine ACall.take (dclone_c bk.fills (by omega)) (by kernel_rfl) rfl (.cons (.one (.clean rfl)) .nil) ?_; rintro r t ⟨rfl, rfl⟩; refine ⟨0, 9, _, rfl, by simp, pl_dn _, fun m => ?_⟩; simp only [go_sem, List.length_map])
 | (refine ACall.of (sclone_c bk.ids (by omega)) (by kernel_rfl) rfl ?_; rintro r t ⟨rfl, rfl⟩; simp only [go_sem])
 | (refine AWPL.call (rs := [.cell 2 26]) Tryz.func106 rfl Tryz.ntmps106 rfl (by kernel_rfl) rfl rfl ?_; simp only [go_sem])
 | (refine AGuard.split (fun h => ?_) (fun h => ?_) <;> simp only [h, go_sem] <;> (try simp only [dD] at h))
 | (
  refine AWP.ret ?_
  refine AEnd.is ?_; simp only [go_sem, out_v, out_s, out_n, v_int, v_bool, v_str] <;> (first
  | (rw [come_no (.inl (by assumption))]; simp; done)
  | (rw [come_no (.inr (by assumption))]; simp; done)
  | (rw [come_yes (by assumption) (by assumption), hb2]; simp; done)
  | fail))
 | (refine AWP.ret ?_; refine AInPost.ret rfl ?_; simp only [go_sem])
 | (refine AWPL.of ?_; simp only [go_sem])
 | fail)
end Go.Proofs.YtajeeghgiilhiaaGreat
end
section
namespace Go.Proofs.YtajeeghgiilhiaaGreat
open Go Go.Abs Go.RowKit Go.Bk
theorem may_amts {o : Od} (h : mayB o = true) : 0 ≤ o.done ∧ o.done ≤ o.qty ∧ o.qty ≤ 1099511627776 := by
 simp only [mayB, smallB, Bool.and_eq_true, decide_eq_true_eq] at h; omega
theorem all_no {α : Type} {l : List α} {p : α → Bool} {i : Nat} {x : α} (hb : l[i]? = some x) (h : p x = false) : l.all p = false := List.all_eq_false.2 ⟨x, List.mem_of_getElem? hb, by simp [h]⟩
set_option maxHeartbeats 4000000 in
set_option maxRecDepth 8000 in
theorem r11short_c (l : List Od) : ACalls E 32 [odsV l] (fun r t => r = bl (decide (l.length ≤ 80) && l.all (fun o : Od => decide (o.id.length ≤ 100) && decide (o.acc.length ≤ 100) && decide (o.sym.length ≤ 100))) ∧ t = []) := by
 refine ACalls.of_awp (n := 38) (rs := [.tmp 2]) Tryz.func32 rfl Tryz.ntmps32 rfl ?_
 repeat' (first
 | refine AWP.seqk fun K hK => ?_
 | (refine AWP.region ?_; simp only [go_sem])
 | (refine hK _ ?_; clear hK K)
 | refine AWP.block ?_
 | refine AWP.cond rfl (fun c => ?_) (fun c => ?_) <;> first | exact Bool.noConfusion c | (try simp only [dD] at c)
 | refine AWP.skip ?_
 | (refine AWP.exit ?_; simp only [go_sem])
 | (refine AGuard.splitN (fun h => ?_) (fun h => ?_) <;> simp only [h, go_sem] <;> (try simp only [dD] at h))
 | (refine AGet.haveM (by assumption) ?_; (try simp only [go_sem]))
 | ((first | refine AGet.nth ?_ (fun b hb => ?_) | with_reducible refine And.intro ?_ ?_); (focus (first | omega | (simp; done) | fail)); (try simp only [hb, go_sem]))
 | (
  refine AWP.here 4 7 4 rfl ?_
  refine AWP.loopN (ι := Nat) [2, 7, 8, 9, 10, 11, 12, 13, 14, 15, 16, 17, 18, 19, 20, 21, 22, 23, 24, 25, 26, 27, 28, 29, 30, 31, 32, 33, 34, 35, 36, 37] (fun (i : Nat) => [(3, i64 i)]) (fun (i : Nat) => i ≤ l.length ∧ l.length ≤ 80 ∧ (l.take i).all (fun o : Od => decide (o.id.length ≤ 100) && decide (o.acc.length ≤ 100) && decide (o.sym.length ≤ 100)) = true) (fun (i : Nat) => l.length - i) (0) ?_ ?_ ?_
  · (try simp only [go_sem]); (repeat' (first | fail)); done
  · exact ⟨Nat.zero_le _, by omega, by simp⟩
  rintro i ⟨h1, h2, h3⟩
  simp only [go_sem])
 | (
  refine ⟨i + 1, ?_, ?_, ?_⟩
  · (try simp only [go_sem]); (try rw [wrap64_id (by omega) (by omega)]); (repeat' (first | exact .inr rfl | fail)); done
  · exact ⟨by omega, h2, all_take hb h3 (by simp; omega)⟩
  · (try simp only []); omega)
 | (
  refine AWP.ret ?_
  refine AEnd.is ?_; simp only [go_sem, out_v, out_s, out_n, v_int, v_bool, v_str] <;> (first
  | (rw [decide_eq_false (by omega)]; rfl)
  | (rw [all_no hb (by simp; omega), Bool.and_false]; done)
  | (rw [List.take_of_length_le (by omega)] at h3; rw [h3, decide_eq_true (by omega)]; rfl)
  | fail))
 | refine AWP.fin (by assumption) ?_)
set_option maxHeartbeats 4000000 in
set_option maxRecDepth 8000 in
theorem pend_c (l : List Od) (acc sym : Bs) (hl : l.length ≤ 9223372036854775807) : ACalls E 156 [odsV l, str acc, str sym] (fun r t => r = wV (pendF l acc sym) ∧ t = []) := by
 refine ACalls.of_awp (n := 42) (rs := [.cell 6 45]) Tryz.func156 rfl Tryz.ntmps156 rfl ?_
 repeat' (first
 | refine AWP.seqk fun K hK => ?_
 | (
  refine AWP.here 6 18 4 rfl ?_
  obtain ⟨o, hc⟩ : ∃ o, l[j]? = some o := ⟨_, List.getElem?_eq_getElem (by omega)⟩
  have hm := may_amts (right_at hr hc)
  have hw : IntKind.i64.wrap (o.qty - o.done) = o.qty - o.done := wrap64_id (by omega) (by omega)
  refine AWP.region ?_; simp only [go_sem])
 | (
  refine AWP.here 8 30 11 rfl ?_
  refine AWP.regionO [0, 1, 2, 3, 4, 5, 6, 7, 8, 9, 10] [] (by kernel_rfl) (by kernel_rfl) rfl ?_; simp only [go_sem, hw])
 | (refine AWP.region ?_; simp only [go_sem])
 | (refine hK _ ?_; clear hK K)
 | refine AWP.block ?_
 | refine AWP.cond rfl (fun c => ?_) (fun c => ?_) <;> first | exact Bool.noConfusion c | (try simp only [dD] at c)
 | refine AWP.skip ?_
 | (refine AWP.exit ?_; simp only [go_sem])
 | (refine ACall.one (oright_c l hl) (by kernel_rfl) rfl ?_; simp only [go_sem])
 | (refine ACall.one (side_c o.buy (o.qty - o.done)) (by kernel_rfl) rfl ?_; simp only [go_sem])
 | (refine ACall.one (plus_c u (sideW o.buy (o.qty - o.done))) (by kernel_rfl) rfl ?_; simp only [go_sem])
 | (refine AGuard.split (fun h => ?_) (fun h => ?_) <;> simp only [h, go_sem] <;> (try simp only [dD] at h))
 | (refine AGet.haveM (by assumption) ?_; (try simp only [go_sem]))
 | ((first | with_reducible refine And.intro ?_ ?_); (focus (first | (simp; done) | fail)); (try simp only [hb, go_sem]))
 | (
  refine AWP.here 5 17 1 rfl ?_
  refine AWP.loopM (ι := Nat × Ws) [9, 17, 18, 19, 20, 21, 22, 23, 24, 25, 26, 27, 28, 29, 30, 31, 32, 33, 34, 35, 36, 37, 38, 39, 40] (fun ⟨j, u⟩ => [(16, i64 j)]) (fun ⟨j, u⟩ => [some [.agg [i64 0, i64 0]], some [.agg [i64 u.1, i64 u.2]]]) (fun ⟨j, u⟩ => []) (fun ⟨j, u⟩ => j ≤ l.length ∧ u = upP l acc sym j) (fun ⟨j, u⟩ => l.length - j) ((0, ((0, 0) : Ws))) ?_ ?_ ?_
  · (try simp only [go_sem]); (repeat' (first | trivial | fail)); done
  · exact ⟨Nat.zero_le _, rfl⟩
  rintro ⟨j, u⟩ ⟨g1, g2⟩
  simp only [go_sem]
  have hr : rightO l = true := by assumption)
 | (
  first
  | (refine ⟨(j + 1, u), ?_, ⟨by show j + 1 ≤ l.length; omega, upP_no hc g2 (by first | exact noo1 (by assumption) | exact noo2 (by assumption))⟩, by show l.length - (j + 1) < l.length - j; omega⟩
     (try simp only [go_sem]); (try rw [wrap64_id (by omega) (by omega)]); (repeat' (first | refine And.intro ?_ ?_ | exact .inr rfl | trivial | exact .inr (oblA rfl) | fail)); done)
  | (refine ⟨(j + 1, plusW u (sideW o.buy (o.qty - o.done))), ?_, ⟨by show j + 1 ≤ l.length; omega, upP_yes hr hc g2 ⟨by assumption, by assumption⟩⟩, by show l.length - (j + 1) < l.length - j; omega⟩
     (try simp only [go_sem]); (try rw [wrap64_id (by omega) (by omega)]); (repeat' (first | refine And.intro ?_ ?_ | exact .inr rfl | trivial | exact .inr (oblA rfl) | fail)); done))
 | (
  refine AWP.ret ?_
  refine AEnd.is ?_; simp only [go_sem, out_v, out_s, out_n, v_int, v_bool, v_str] <;> (first
  | (rw [← upP_end hr (by omega) g2]; simp; done)
  | (rw [pend_no (by assumption)]; simp; done)
  | fail))
 | refine AWP.fin (by assumption) ?_)
end Go.Proofs.YtajeeghgiilhiaaGreat
end
section
namespace Go.Proofs.YtajeeghgiilhiaaGreat
open Go Go.Abs Go.RowKit Go.Bk
abbrev lmV (x : Lm) : AV := .agg [str x.acc, str x.sym, i64 x.long, i64 x.short, i64 x.qty, i64 x.value]
abbrev lmsV (l : List Lm) : AV := .sl none 6 (l.map lmV)
abbrev vnV (v : Vn) : AV := .agg [odsV v.book.orders, dnsV v.book.fills, .sl none 1 (v.book.ids.map str), i64 v.book.clock, i64 v.book.bad, odsV v.sent, i64 v.last, bl v.gap]
abbrev vnsV (l : List Vn) : AV := .sl none 8 (l.map vnV)
abbrev gtV (g : Gt) : AV := .agg [vnsV g.venues, lmsV g.limits, bl g.kill, i64 g.now, i64 g.pat]
set_option maxHeartbeats 4000000 in
set_option maxRecDepth 8000 in
theorem ccmpg_c (s u : Bs) : ACalls E 132 [str s, str u] (fun r t => r = i64 (cmpS s u) ∧ t = []) := by
 refine ACalls.of_awp (n := 20) (rs := [.tmp 4]) Tryz.func132 rfl Tryz.ntmps132 rfl ?_
 repeat' (first
 | refine AWP.seqk fun K hK => ?_
 | (refine AWP.region ?_; simp only [go_sem, Go.Proofs.bytesLess_eq])
 | (refine hK _ ?_; clear hK K)
 | refine AWP.cond rfl (fun c => ?_) (fun c => ?_) <;> first | exact Bool.noConfusion c | (try simp only [dD] at c)
 | refine AWP.skip ?_
 | (refine ACall.one (cnan_c _) (by kernel_rfl) rfl ?_; simp only [go_sem, Go.Proofs.bytesLess_eq])
 | (
  refine AWP.ret ?_
  refine AEnd.is ?_; simp only [go_sem, out_v, out_s, out_n, v_int, v_bool, v_str] <;> (simp only [cmpS]; (try simp only [decide_eq_true_eq, decide_eq_false_iff_not, Bool.or_eq_true, Bool.or_eq_false_iff, not_or, Bool.not_eq_true, Bool.not_eq_false] at *); first | (rw [if_pos (by assumption)]; done) | (simp_all; done) | (rcases ‹_ ∨ _› with h3 | h3 <;> simp_all; done) | fail))
 | fail)
set_option maxHeartbeats 4000000 in
set_option maxRecDepth 8000 in
theorem lname_c (s : Bs) : ACalls E 189 [str s] (fun r t => r = bl (namedB s) ∧ t = []) := by
 refine ACalls.of_awp (n := 10) (rs := [.tmp 2]) Tryz.func189 rfl Tryz.ntmps189 rfl ?_
 repeat' (first
 | refine AWP.seqk fun K hK => ?_
 | (refine AWP.region ?_; simp only [go_sem])
 | (refine hK _ ?_; clear hK K)
 | (refine AGuard.splitN (fun h => ?_) (fun h => ?_) <;> simp only [h, go_sem] <;> (try simp only [dD] at h))
 | (
  refine AWP.ret ?_
  refine AEnd.is ?_; simp only [go_sem, out_v, out_s, out_n, v_int, v_bool, v_str] <;> (simp_all [namedB] <;> omega))
 | fail)
set_option maxHeartbeats 4000000 in
set_option maxRecDepth 8000 in
theorem lamt_c (n : Int) : ACalls E 190 [i64 n] (fun r t => r = bl (smallB n) ∧ t = []) := by
 refine ACalls.of_awp (n := 9) (rs := [.tmp 2]) Tryz.func190 rfl Tryz.ntmps190 rfl ?_
 repeat' (first
 | refine AWP.seqk fun K hK => ?_
 | (refine AWP.region ?_; simp only [go_sem])
 | (refine hK _ ?_; clear hK K)
 | (refine AGuard.split (fun h => ?_) (fun h => ?_) <;> simp only [h, go_sem] <;> (try simp only [dD] at h))
 | (
  refine AWP.ret ?_
  refine AEnd.is ?_; simp only [go_sem, out_v, out_s, out_n, v_int, v_bool, v_str] <;> (simp_all [smallB] <;> omega))
 | fail)
set_option maxHeartbeats 4000000 in
set_option maxRecDepth 8000 in
theorem lmay_c (x : Lm) : ACalls E 146 [lmV x] (fun r t => r = bl (mayL x) ∧ t = []) := by
 refine ACalls.of_awp (n := 31) (rs := [.tmp 2]) Tryz.func146 rfl Tryz.ntmps146 rfl ?_
 repeat' (first
 | refine AWP.seqk fun K hK => ?_
 | (refine AWP.region ?_; simp only [go_sem])
 | (refine hK _ ?_; clear hK K)
 | (refine ACall.one (lname_c _) (by kernel_rfl) rfl ?_; simp only [go_sem])
 | (refine ACall.one (lamt_c _) (by kernel_rfl) rfl ?_; simp only [go_sem])
 | (refine AGuard.split (fun h => ?_) (fun h => ?_) <;> simp only [h, go_sem] <;> (try simp only [dD] at h))
 | (
  refine AWP.ret ?_
  refine AEnd.is ?_; simp only [go_sem, out_v, out_s, out_n, v_int, v_bool, v_str] <;> (simp_all [mayL]))
 | fail)
set_option maxHeartbeats 4000000 in
set_option maxRecDepth 8000 in
theorem lcmp_c (x y : Lm) : ACalls E 148 [lmV x, lmV y] (fun r t => r = i64 (cmpL x y) ∧ t = []) := by
 refine ACalls.of_awp (n := 19) (rs := [.tmp 4]) Tryz.func148 rfl Tryz.ntmps148 rfl ?_
 repeat' (first
 | refine AWP.seqk fun K hK => ?_
 | (refine AWP.region ?_; simp only [go_sem])
 | (refine hK _ ?_; clear hK K)
 | refine AWP.cond rfl (fun c => ?_) (fun c => ?_) <;> first | (try simp only [dD] at c)
 | refine AWP.skip ?_
 | (refine ACall.one (ccmpg_c _ _) (by kernel_rfl) rfl ?_; simp only [go_sem])
 | (
  refine AWP.ret ?_
  refine AEnd.is ?_; simp only [go_sem, out_v, out_s, out_n, v_int, v_bool, v_str] <;> (simp only [cmpL, cmpN]; simp_all))
 | fail)
set_option maxHeartbeats 4000000 in
set_option maxRecDepth 8000 in
theorem nadd_c (a b : Int) : ACalls E 96 [i64 a, i64 b] (fun r t => r = .tup [i64 (addF a b).1, bl (addF a b).2] ∧ t = []) := by
 refine ACalls.of_awp (n := 24) (rs := [.tmp 4, .tmp 5]) Tryz.func96 rfl Tryz.ntmps96 rfl ?_
 repeat' (first
 | refine AWP.seqk fun K hK => ?_
 | (refine AWP.region ?_; simp only [go_sem])
 | (refine hK _ ?_; clear hK K)
 | refine AWP.cond rfl (fun c => ?_) (fun c => ?_) <;> first | exact Bool.noConfusion c | (try simp only [dD] at c)
 | refine AWP.skip ?_
 | (refine ACall.one (numr_c _) (by kernel_rfl) rfl ?_; simp only [go_sem])
 | (refine AGuard.split (fun h => ?_) (fun h => ?_) <;> simp only [h, go_sem] <;> (try simp only [dD] at h))
 | (
  refine AWP.ret ?_
  refine AEnd.is ?_; simp only [go_sem, out_v, out_s, out_n, v_int, v_bool, v_str] <;> (first | (have e := add_num (a := a) (b := b) (by assumption) (by assumption); simp_all [addF]; done) | (simp_all [addF]; done) | fail))
 | fail)
set_option maxHeartbeats 4000000 in
set_option maxRecDepth 8000 in
theorem near_c (n : Int) : ACalls E 194 [i64 n] (fun r t => r = i64 (nearI n) ∧ t = []) := by
 refine ACalls.of_awp (n := 6) (rs := [.tmp 2]) Tryz.func194 rfl Tryz.ntmps194 rfl ?_
 repeat' (first
 | refine AWP.seqk fun K hK => ?_
 | (refine AWP.region ?_; simp only [go_sem])
 | (refine hK _ ?_; clear hK K)
 | (
  refine AWP.ret ?_
  refine AEnd.is ?_; simp only [go_sem, out_v, out_s, out_n, v_int, v_bool, v_str] <;> (simp [nearI]; split <;> omega))
 | fail)
set_option maxHeartbeats 4000000 in
set_option maxRecDepth 8000 in
theorem lets_c (s : Int) (b : Bool) : ACalls E 153 [i64 s, bl b] (fun r t => r = bl (!b || decide (s = 0)) ∧ t = []) := by
 refine ACalls.of_awp (n := 11) (rs := [.tmp 4]) Tryz.func153 rfl Tryz.ntmps153 rfl ?_
 repeat' (first
 | refine AWP.seqk fun K hK => ?_
 | (refine AWP.region ?_; simp only [go_sem])
 | (refine hK _ ?_; clear hK K)
 | (refine AGuard.split (fun h => ?_) (fun h => ?_) <;> simp only [h, go_sem] <;> (try simp only [dD] at h))
 | (
  refine AWP.ret ?_
  refine AEnd.is ?_; simp only [go_sem, out_v, out_s, out_n, v_int, v_bool, v_str] <;> (simp_all))
 | fail)
set_option maxHeartbeats 4000000 in
set_option maxRecDepth 8000 in
theorem gtime_c (n : Int) : ACalls E 75 [i64 n] (fun r t => r = bl (timeB n) ∧ t = []) := by
 refine ACalls.of_awp (n := 9) (rs := [.tmp 2]) Tryz.func75 rfl Tryz.ntmps75 rfl ?_
 repeat' (first
 | refine AWP.seqk fun K hK => ?_
 | (refine AWP.region ?_; simp only [go_sem])
 | (refine hK _ ?_; clear hK K)
 | (refine AGuard.split (fun h => ?_) (fun h => ?_) <;> simp only [h, go_sem] <;> (try simp only [dD] at h))
 | (
  refine AWP.ret ?_
  refine AEnd.is ?_; simp only [go_sem, out_v, out_s, out_n, v_int, v_bool, v_str] <;> (simp_all [timeB] <;> omega))
 | fail)
set_option maxHeartbeats 4000000 in
set_option maxRecDepth 8000 in
theorem has1_c (o : Od) (id : Bs) : ACalls E 193 [odV o, .rptr [str id]] (fun r t => r = bl (decide (o.id = id)) ∧ t = []) := by
 refine ACalls.of_awp (n := 8) (rs := [.tmp 3]) Tryz.func193 rfl Tryz.ntmps193 rfl ?_
 repeat' (first
 | refine AWP.seqk fun K hK => ?_
 | (refine AWP.region ?_; simp only [go_sem])
 | (refine hK _ ?_; clear hK K)
 | (
  refine AWP.ret ?_
  refine AEnd.is ?_; simp only [go_sem, out_v, out_s, out_n, v_int, v_bool, v_str] <;> (simp_all))
 | fail)
set_option maxHeartbeats 4000000 in
set_option maxRecDepth 8000 in
theorem open1_c (o : Od) (id : Bs) : ACalls E 160 [odV o, .rptr [str id]] (fun r t => r = bl (decide (o.id = id) && o.opn) ∧ t = []) := by
 refine ACalls.of_awp (n := 12) (rs := [.tmp 3]) Tryz.func160 rfl Tryz.ntmps160 rfl ?_
 repeat' (first
 | refine AWP.seqk fun K hK => ?_
 | (refine AWP.region ?_; simp only [go_sem])
 | (refine hK _ ?_; clear hK K)
 | (refine AGuard.split (fun h => ?_) (fun h => ?_) <;> simp only [h, go_sem] <;> (try simp only [dD] at h))
 | (
  refine AWP.ret ?_
  refine AEnd.is ?_; simp only [go_sem, out_v, out_s, out_n, v_int, v_bool, v_str] <;> (simp_all))
 | fail)
end Go.Proofs.YtajeeghgiilhiaaGreat
end
section
namespace Go.Proofs.YtajeeghgiilhiaaGreat
open Go Go.Abs Go.RowKit Go.Bk
set_option maxHeartbeats 4000000 in
set_option maxRecDepth 8000 in
theorem oidxh_c (l : List Od) (id : Bs) (hl : l.length ≤ 9223372036854775807) : ACalls E 154 [odsV l, .fn 193 [.rptr [str id]]] (fun r t => r = i64 (idxP (fun o : Od => decide (o.id = id)) l) ∧ t = []) := by
 refine ACalls.of_awp (n := 19) (rs := [.tmp 4]) Tryz.func154 rfl Tryz.ntmps154 rfl ?_
 repeat' (first
 | refine AWP.seqk fun K hK => ?_
 | (refine AWP.region ?_; simp only [go_sem])
 | (refine hK _ ?_; clear hK K)
 | refine AWP.block ?_
 | refine AWP.cond rfl (fun c => ?_) (fun c => ?_) <;> first | (try simp only [dD] at c)
 | refine AWP.skip ?_
 | (refine AWP.exit ?_; simp only [go_sem])
 | (refine ACall.one (has1_c _ _) (by kernel_rfl) rfl ?_; simp only [go_sem])
 | ((first | refine AGet.nth ?_ (fun b hb => ?_) | with_reducible refine And.intro ?_ ?_); (focus (first | omega | (simp; done) | fail)); (try simp only [hb, go_sem]))
 | (
  refine AWP.here 2 9 1 rfl ?_
  refine AWP.loopN (ι := Nat) [4, 5, 9, 10, 11, 12, 13, 14, 15, 16, 17, 18] (fun (i : Nat) => [(8, i64 i)]) (fun (i : Nat) => i ≤ l.length ∧ (l.take i).all (fun o : Od => !(decide (o.id = id))) = true) (fun (i : Nat) => l.length - i) (0) ?_ ?_ ?_
  · (try simp only [go_sem]); (repeat' (first | fail)); done
  · exact ⟨by omega, by simp⟩
  rintro i ⟨h1, h2⟩
  simp only [go_sem])
 | (
  refine ⟨i + 1, ?_, ?_, ?_⟩
  · (try simp only [go_sem]); (try rw [wrap64_id (by omega) (by omega)]); (repeat' (first | exact .inr rfl | fail)); done
  · exact ⟨by omega, all_next hb h2 (by (try clear hK); by_cases e : b.id = id <;> simp_all)⟩
  · (try simp only []); omega)
 | (
  refine AWP.ret ?_
  refine AEnd.is ?_; simp only [go_sem, out_v, out_s, out_n, v_int, v_bool, v_str] <;> (first | (rw [idxP_of hb (by simp_all) h2]; done) | (rw [idxP_none (by omega) h2]; done) | fail))
 | refine AWP.fin (by assumption) ?_
 | fail)
set_option maxHeartbeats 4000000 in
set_option maxRecDepth 8000 in
theorem oidxo_c (l : List Od) (id : Bs) (hl : l.length ≤ 9223372036854775807) : ACalls E 154 [odsV l, .fn 160 [.rptr [str id]]] (fun r t => r = i64 (idxP (fun o : Od => decide (o.id = id) && o.opn) l) ∧ t = []) := by
 refine ACalls.of_awp (n := 19) (rs := [.tmp 4]) Tryz.func154 rfl Tryz.ntmps154 rfl ?_
 repeat' (first
 | refine AWP.seqk fun K hK => ?_
 | (refine AWP.region ?_; simp only [go_sem])
 | (refine hK _ ?_; clear hK K)
 | refine AWP.block ?_
 | refine AWP.cond rfl (fun c => ?_) (fun c => ?_) <;> first | (try simp only [dD] at c)
 | refine AWP.skip ?_
 | (refine AWP.exit ?_; simp only [go_sem])
 | (refine ACall.one (open1_c _ _) (by kernel_rfl) rfl ?_; simp only [go_sem])
 | ((first | refine AGet.nth ?_ (fun b hb => ?_) | with_reducible refine And.intro ?_ ?_); (focus (first | omega | (simp; done) | fail)); (try simp only [hb, go_sem]))
 | (
  refine AWP.here 2 9 1 rfl ?_
  refine AWP.loopN (ι := Nat) [4, 5, 9, 10, 11, 12, 13, 14, 15, 16, 17, 18] (fun (i : Nat) => [(8, i64 i)]) (fun (i : Nat) => i ≤ l.length ∧ (l.take i).all (fun o : Od => !(decide (o.id = id) && o.opn)) = true) (fun (i : Nat) => l.length - i) (0) ?_ ?_ ?_
  · (try simp only [go_sem]); (repeat' (first | fail)); done
  · exact ⟨by omega, by simp⟩
  rintro i ⟨h1, h2⟩
  simp only [go_sem])
 | (
  refine ⟨i + 1, ?_, ?_, ?_⟩
  · (try simp only [go_sem]); (try rw [wrap64_id (by omega) (by omega)]); (repeat' (first | exact .inr rfl | fail)); done
  · exact ⟨by omega, all_next hb h2 (by (try clear hK); by_cases e : b.id = id <;> simp_all)⟩
  · (try simp only []); omega)
 | (
  refine AWP.ret ?_
  refine AEnd.is ?_; simp only [go_sem, out_v, out_s, out_n, v_int, v_bool, v_str] <;> (first | (rw [idxP_of hb (by simp_all) h2]; done) | (rw [idxP_none (by omega) h2]; done) | fail))
 | refine AWP.fin (by assumption) ?_
 | fail)
set_option maxHeartbeats 4000000 in
set_option maxRecDepth 8000 in
theorem ocfh_c (l : List Od) (id : Bs) (hl : l.length ≤ 9223372036854775807) : ACalls E 159 [odsV l, .fn 193 [.rptr [str id]]] (fun r t => r = bl (decide (0 ≤ idxP (fun o : Od => decide (o.id = id)) l)) ∧ t = []) := by
 refine ACalls.of_awp (n := 9) (rs := [.tmp 4]) Tryz.func159 rfl Tryz.ntmps159 rfl ?_
 repeat' (first
 | refine AWP.seqk fun K hK => ?_
 | (refine AWP.region ?_; simp only [go_sem])
 | (refine hK _ ?_; clear hK K)
 | (refine ACall.snapOne (oidxh_c l id hl) (by kernel_rfl) rfl (.cons (.one (.clean rfl)) (.cons (.fn (.cons (.clean rfl) .nil)) .nil)) ?_; simp only [go_sem])
 | (
  refine AWP.ret ?_
  refine AEnd.is ?_; simp only [go_sem, out_v, out_s, out_n, v_int, v_bool, v_str] <;> rfl)
 | fail)
set_option maxHeartbeats 4000000 in
set_option maxRecDepth 8000 in
theorem ocfo_c (l : List Od) (id : Bs) (hl : l.length ≤ 9223372036854775807) : ACalls E 159 [odsV l, .fn 160 [.rptr [str id]]] (fun r t => r = bl (decide (0 ≤ idxP (fun o : Od => decide (o.id = id) && o.opn) l)) ∧ t = []) := by
 refine ACalls.of_awp (n := 9) (rs := [.tmp 4]) Tryz.func159 rfl Tryz.ntmps159 rfl ?_
 repeat' (first
 | refine AWP.seqk fun K hK => ?_
 | (refine AWP.region ?_; simp only [go_sem])
 | (refine hK _ ?_; clear hK K)
 | (refine ACall.snapOne (oidxo_c l id hl) (by kernel_rfl) rfl (.cons (.one (.clean rfl)) (.cons (.fn (.cons (.clean rfl) .nil)) .nil)) ?_; simp only [go_sem])
 | (
  refine AWP.ret ?_
  refine AEnd.is ?_; simp only [go_sem, out_v, out_s, out_n, v_int, v_bool, v_str] <;> rfl)
 | fail)
set_option maxHeartbeats 4000000 in
set_option maxRecDepth 8000 in
theorem ghas_c (l : List Od) (id : Bs) (hl : l.length ≤ 9223372036854775807) : ACalls E 152 [odsV l, str id] (fun r t => r = bl (hasB l id) ∧ t = []) := by
 refine ACalls.of_awp (n := 8) (rs := [.tmp 4]) Tryz.func152 rfl Tryz.ntmps152 rfl ?_
 repeat' (first
 | refine AWP.seqk fun K hK => ?_
 | (refine AWP.region ?_; simp only [go_sem])
 | (refine hK _ ?_; clear hK K)
 | (refine ACall.snapOne (ocfh_c l id hl) (by kernel_rfl) rfl (.cons (.one (.clean rfl)) (.cons (.fn (.cons (.ptr (e := .agg [str id]) rfl (cl_str id)) .nil)) .nil)) ?_; simp only [go_sem])
 | (
  refine AWP.ret ?_
  refine AEnd.is ?_; simp only [go_sem, out_v, out_s, out_n, v_int, v_bool, v_str] <;> (first | exact hasB_idx l id | fail))
 | fail)
set_option maxHeartbeats 4000000 in
set_option maxRecDepth 8000 in
theorem gopen_c (l : List Od) (id : Bs) (hl : l.length ≤ 9223372036854775807) : ACalls E 92 [odsV l, str id] (fun r t => r = bl (openB l id) ∧ t = []) := by
 refine ACalls.of_awp (n := 8) (rs := [.tmp 4]) Tryz.func92 rfl Tryz.ntmps92 rfl ?_
 repeat' (first
 | refine AWP.seqk fun K hK => ?_
 | (refine AWP.region ?_; simp only [go_sem])
 | (refine hK _ ?_; clear hK K)
 | (refine ACall.snapOne (ocfo_c l id hl) (by kernel_rfl) rfl (.cons (.one (.clean rfl)) (.cons (.fn (.cons (.ptr (e := .agg [str id]) rfl (cl_str id)) .nil)) .nil)) ?_; simp only [go_sem])
 | (
  refine AWP.ret ?_
  refine AEnd.is ?_; simp only [go_sem, out_v, out_s, out_n, v_int, v_bool, v_str] <;> (first | exact openB_idx l id | fail))
 | fail)
set_option maxHeartbeats 4000000 in
set_option maxRecDepth 8000 in
theorem lright_c (l : List Lm) (hl : l.length ≤ 9223372036854775807) : ACalls E 119 [lmsV l] (fun r t => r = bl (rightL l) ∧ t = []) := by
 refine ACalls.of_awp (n := 33) (rs := [.tmp 2]) Tryz.func119 rfl Tryz.ntmps119 rfl ?_
 repeat' (first
 | refine AWP.seqk fun K hK => ?_
 | (
  refine AWP.here 5 12 6 rfl ?_
  obtain ⟨x, hx⟩ : ∃ x, l[i]? = some x := ⟨_, List.getElem?_eq_getElem (by omega)⟩
  refine AWP.region ?_; simp only [go_sem])
 | (refine AWP.region ?_; simp only [go_sem])
 | (refine AWP.here 6 15 17 rfl ?_; refine AWP.regionO [0, 1, 2, 3, 4, 5, 6, 7, 8, 9, 10, 11, 12, 13, 14, 15, 16] [] (by kernel_rfl) (by kernel_rfl) rfl ?_; simp only [go_sem])
 | (refine hK _ ?_; clear hK K)
 | refine AWP.block ?_
 | refine AWP.cond rfl (fun c => ?_) (fun c => ?_) <;> first | exact Bool.noConfusion c | (try simp only [dD] at c)
 | refine AWP.skip ?_
 | (refine AWP.exit ?_; simp only [go_sem])
 | (refine ACall.one (lmay_c x) (by kernel_rfl) rfl ?_; simp only [go_sem])
 | (refine ACall.one (lcmp_c b x) (by kernel_rfl) rfl ?_; simp only [go_sem])
 | (refine AGuard.split (fun h => ?_) (fun h => ?_) <;> simp only [h, go_sem] <;> (try simp only [dD] at h))
 | (refine AGet.haveM (by assumption) ?_; (try simp only [go_sem]))
 | ((first | refine AGet.nth ?_ (fun b hb => ?_) | with_reducible refine And.intro ?_ ?_); (focus (first | (rw [wrap64_id (by omega) (by omega)]; omega) | (simp; done) | fail)); (try simp only [hb, go_sem]))
 | (
  refine AWP.here 4 11 1 rfl ?_
  refine AWP.loopN (ι := Nat) [2, 3, 4, 11, 12, 13, 14, 15, 16, 17, 18, 19, 20, 21, 22, 23, 24, 25, 26, 27, 28, 29, 30, 31, 32] (fun (i : Nat) => [(10, i64 i)]) (fun (i : Nat) => i ≤ l.length ∧ l.length ≤ 32 ∧ ∀ k, k < i → okL l k = true) (fun (i : Nat) => l.length - i) (0) ?_ ?_ ?_
  · (try simp only [go_sem]); (repeat' (first | fail)); done
  · exact ⟨by omega, by omega, fun k hk => by omega⟩
  rintro i ⟨h1, h2, h3⟩
  simp only [go_sem])
 | (
  refine ⟨i + 1, ?_, ?_, ?_⟩
  · (try simp only [go_sem]); (try rw [wrap64_id (by omega) (by omega)]); (repeat' (first | exact .inr rfl | fail)); done
  · exact ⟨by omega, h2, upto_next h3 (by first | exact okL_ok0 hx (by omega) (by assumption) | (rw [wrap_pred (by omega) (by omega)] at hb; exact okL_ok hx hb (by assumption) (by omega)))⟩
  · (try simp only []); omega)
 | (
  refine AWP.ret ?_
  refine AEnd.is ?_; simp only [go_sem, out_v, out_s, out_n, v_int, v_bool, v_str] <;> (first | (rw [rightL_no hx (okL_bad1 hx (by assumption))]; done) | (rw [wrap_pred (by omega) (by omega)] at hb; rw [rightL_no hx (okL_bad2 hx (by omega) hb (by omega))]; done) | (rw [rightL_long (by omega)]; done) | (rw [rightL_yes h2 (by omega) h3]; done) | fail))
 | refine AWP.fin (by assumption) ?_
 | fail)
end Go.Proofs.YtajeeghgiilhiaaGreat
end
