/- Texts of one chain, put together (X4, X5, Le, X6, X7, Xa, Xb, Xc, Xd, ShelfS). -/
import Derived.Test.YtfchlkeekmabfaaGreatDoorKaF
import Derived.Shelf.SlIter.Sorted
import Derived.Test.YtfchlkeekmabfaaGreatDoorKaD
import Derived.Shelf.Strings.Builder1
import Derived.Shelf.Strings.Builder2
import Derived.Shelf.Strings.OnBuilder
import Derived.Shelf.Small.Strs
import Derived.Shelf.Small.Wraps
import Derived.Shelf.Strings.Builder2Cap
import Derived.Shelf.Strconv.Itoa0
import Derived.Shelf.Strconv.Itoa1
import Derived.Shelf.LaysM
import Derived.Shelf.Strconv.Itoa2
import Derived.Shelf.Strconv.Itoa3
import Derived.Shelf.Strconv.Itoa4
import Derived.Ground.MpProg
import Derived.Shelf.Pu.ParseUintPublic10
import Derived.Shelf.Pu.ErrVarParseUint
import Derived.Shelf.Strings.Search1
import Derived.Shelf.Strings.Search2
import Derived.Shelf.Strings.Search3
import Derived.Shelf.Strings.Count
import Derived.Shelf.Strings.Shaped
import Derived.Shelf.Strings.Prefix
import Derived.Shelf.Strings.Split
import Derived.Shelf.Strings.SplitShaped
import Derived.Shelf.Unicode.DecodeSlow
import Derived.Shelf.Bytes.SlIndexSmall
import Derived.Ground.SlbNamesProg
import Derived.Shelf.Bytes.SlCountOne
import Derived.Shelf.Bytes.SlIndexAt
import Derived.Shelf.Bytes.Small
import Derived.Shelf.Bytes.IndexByte
import Derived.Test.YtfchlkeekmabfaaGreatDoorProg
section
set_option linter.unusedVariables false
set_option linter.unusedSimpArgs false
namespace Go.Proofs.YtfchlkeekmabfaaGreatDoor
open Go Go.Abs Go.RowKit Go.Bk Go.Msg Go.Txt
def gU (b : UInt8) : AV := u8 (turn12 b)
theorem rep_cut {l : List UInt8} {s i : Nat} (h : i < l.count 1) (h3 : (l.take s).count 1 = i) : ∃ a r, l.drop s = a ++ 1 :: r ∧ (1 : UInt8) ∉ a := by
  have hc : 0 < (l.drop s).count 1 := by
    have : l.count 1 = (l.take s).count 1 + (l.drop s).count 1 := by rw [← List.count_append, List.take_append_drop]
    omega
  have hm : (1 : UInt8) ∈ l.drop s := List.count_pos_iff.1 hc
  cases hcut : Fld.cutB 1 (l.drop s) with
  | none => exact absurd hm (Fld.cutB_none.1 hcut)
  | some p =>
    obtain ⟨e1, e2⟩ := Fld.cutB_some.1 (show Fld.cutB 1 (l.drop s) = some (p.1, p.2) from hcut)
    exact ⟨p.1, p.2, e1, e2⟩
theorem rep_len {l a r : List UInt8} {s : Nat} (h : l.drop s = a ++ 1 :: r) : s + a.length + 1 ≤ l.length := by
  have := congrArg List.length h
  simp at this
  omega
theorem rep_piece {l a r : List UInt8} {s : Nat} (h : l.drop s = a ++ 1 :: r) : (l.take (s + a.length)).drop s = a := by
  rw [List.drop_take, h, Nat.add_sub_cancel_left, List.take_left']; rfl
theorem rep_idx {l a r : List UInt8} {s : Nat} (h : l.drop s = a ++ 1 :: r) (ha : (1 : UInt8) ∉ a) : Lib.indexByte (l.drop s) 1 = (a.length : Int) := by
  rw [Fld.index_cut, h, Fld.cutB_at r ha]
theorem rep_take {l a r : List UInt8} {s : Nat} (h : l.drop s = a ++ 1 :: r) : l.take (s + a.length + 1) = l.take s ++ (a ++ [1]) := by
  rw [show s + a.length + 1 = s + (a.length + 1) by omega, List.take_add, h]
  congr 1
  rw [show a ++ (1 : UInt8) :: r = (a ++ [1]) ++ r by simp]
  exact List.take_left' (by simp)
theorem rep_count {l a r : List UInt8} {s i : Nat} (h : l.drop s = a ++ 1 :: r) (h3 : (l.take s).count 1 = i) (ha : (1 : UInt8) ∉ a := by assumption) : (l.take (s + a.length + 1)).count 1 = i + 1 := by
  rw [rep_take h, List.count_append, List.count_append, h3, List.count_eq_zero.2 ha]; simp
theorem ins_at {P A : List AV} {z : AV} {q s : Nat} (hs : P.length = s) (hA : A.length ≤ q) : (P ++ List.replicate q z).take s ++ (A ++ (P ++ List.replicate q z).drop (s + A.length)) = P ++ A ++ List.replicate (q - A.length) z := by
  subst hs
  rw [List.take_left, List.drop_length_add_append, List.drop_replicate, List.append_assoc]
theorem rep_row {l a r : List UInt8} {s : Nat} (h : l.drop s = a ++ 1 :: r) (ha : (1 : UInt8) ∉ a) : (l.take s).map gU ++ a.map u8 ++ [u8 2] ++ List.replicate (l.length - s - a.length - 1) (u8 0) = (l.take (s + a.length + 1)).map gU ++ List.replicate (l.length - (s + a.length + 1)) (u8 0) := by
  have e : a.map u8 = a.map gU := List.map_congr_left fun b hb => by
    unfold gU turn12; rw [if_neg (fun e => ha (by rw [← e]; exact hb))]
  rw [rep_take h, e]
  simp only [List.map_append, List.map_cons, List.map_nil, List.append_assoc]
  rw [show gU 1 = u8 2 from rfl, show l.length - s - a.length - 1 = l.length - (s + a.length + 1) by omega]
theorem bel_rep {no nt n : Nat} {l : List UInt8} : ∀ es, some (l.map gU ++ List.replicate n (u8 0)) = some es → ∀ e ∈ es, ∀ z ∈ e.leaves, z.bel no nt = true := by
  intro es he e hm z hz
  simp only [Option.some.injEq] at he
  subst he
  rcases List.mem_append.1 hm with h | h
  · obtain ⟨b, _, rfl⟩ := List.mem_map.1 h
    have hz2 : z ∈ [gU b] := hz
    rw [List.mem_singleton] at hz2
    subst hz2; rfl
  · have h := (List.mem_replicate.1 h).2
    subst h
    have hz2 : z ∈ [u8 0] := hz
    rw [List.mem_singleton] at hz2
    subst hz2; rfl
theorem rep_none {l : List UInt8} (h : l.count 1 = 0) : l.map turn12 = l := by
  conv => rhs; rw [← List.map_id l]
  apply List.map_congr_left
  intro b hb
  unfold turn12
  rw [if_neg (fun e => List.count_eq_zero.1 h (by rw [← e]; exact hb))]; rfl
theorem cl_gU {l : List UInt8} : ∀ e ∈ l.map gU, ∀ x ∈ e.leaves, x.clean1 = some x := by
  intro e he x hx
  obtain ⟨b, _, rfl⟩ := List.mem_map.1 he
  have hz2 : x ∈ [gU b] := hx
  rw [List.mem_singleton] at hz2
  subst hz2; rfl
theorem rep_map {l : List UInt8} : l.map gU = (l.map turn12).map u8 := by rw [List.map_map]; rfl
theorem rep_end {l : List UInt8} {s : Nat} : ∀ (h : s = l.length), ((l.take s).map gU ++ List.replicate (l.length - s) (u8 0)) = l.map gU := by
  rintro rfl; simp
theorem rep_end2 {l : List UInt8} {s : Nat} (h : (l.take s).count 1 = l.count 1) : (l.take s).map gU ++ (l.drop s).map u8 ++ List.replicate (l.length - s - ((l.drop s).map u8).length) (u8 0) = l.map gU := by
  have hc : (l.drop s).count 1 = 0 := by
    have : l.count 1 = (l.take s).count 1 + (l.drop s).count 1 := by rw [← List.count_append, List.take_append_drop]
    omega
  have e : (l.drop s).map u8 = (l.drop s).map gU := List.map_congr_left fun b hb => by
    unfold gU turn12; rw [if_neg (fun e => List.count_eq_zero.1 hc (by rw [← e]; exact hb))]
  rw [List.length_map, List.length_drop, Nat.sub_self, List.replicate_zero, List.append_nil, e, ← List.map_append, List.take_append_drop]

set_option maxHeartbeats 4000000 in
set_option maxRecDepth 8000 in
theorem repl_c (l : List UInt8) (hl : l ≠ []) (hlen : l.length ≤ 5000) : ACalls E 94 [bytesV l, .sl none 1 [u8 1], .sl none 1 [u8 2], i64 (-1)] (fun r t => r = bytesV (l.map turn12) ∧ t = []) := by -- bytes.Replace
  have hlp := List.length_pos_iff.2 hl
  have hcl := List.count_le_length (a := (1 : UInt8)) (l := l)
  refine ACalls.of_awp (n := 132) (rs := [.tmp 8]) Tryz.func94 rfl Tryz.ntmps94 rfl ?_
  repeat' (first
    | refine AWP.seqk fun K hK => ?_
    | (
        refine AWP.here 14 51 8 rfl ?_
        obtain ⟨a, r, hd, ha⟩ := rep_cut (s := p) (by omega : i < l.count 1) h3
        have hal : p + a.length + 1 ≤ l.length := rep_len hd
        have hpiece := rep_piece hd
        have hidx := rep_idx hd ha
        have hw1 : IntKind.i64.wrap ((p : Int) + (a.length : Int)) = ((p + a.length : Nat) : Int) := by rw [wrap64_id (by omega) (by omega)]; omega
        have hw2b : (((p + a.length : Nat) : Int) + 1) = ((p + a.length + 1 : Nat) : Int) := by omega
        have hw3 : IntKind.i64.wrap ((i : Int) + 1) = ((i + 1 : Nat) : Int) := by rw [wrap64_id (by omega) (by omega)]; omega
        refine AWP.region ?_; simp only [go_sem, hidx, hw1])
    | (
        refine AWP.here 8 34 12 rfl ?_
        refine AWP.regionL ?_
        refine AWPL.at 12 10 rfl ?_
        simp only [go_sem]
        (repeat (refine ⟨⟨_, rfl⟩, ?_⟩))
        have hwl : IntKind.i64.wrap (l.length : Int) = (l.length : Int) := wrap64_id (by omega) (by omega)
        simp only [wl0, Int.mul_zero, Int.add_zero, hwl]
        refine AWPL.makeMu (m := l.length) (zs := [u8 0]) (z := u8 0) ap55 (by kernel_rfl) rfl rfl rfl (by omega) (by decide) (by decide) ?_
        simp only [go_sem]
        refine AWPL.of ?_
        (try simp only [go_sem]))
    | (
        refine AWP.here 15 58 11 rfl ?_
        simp only [hidx, hw1]
        refine AWP.regionFlow [[], [], [], [1, 2], [], [], [], [4, 5, 6], [1, 2, 3, 4, 5, 6, 7], [0, 1, 2, 3, 4, 5, 6, 7, 8], [0, 1, 2, 3, 4, 5, 6, 7, 8, 9]] [i64 (p : Int), .mu 0 1 0 l.length l.length, i64 (p : Int), .mu 0 1 (0 + p) (l.length - p) (l.length - p), bytesV l, i64 (p : Int), i64 ((p + a.length : Nat) : Int), .sl none 1 (a.map u8), i64 (a.length : Nat), i64 ((p + a.length : Nat) : Int), i64 ((p + a.length : Nat) : Int)] [8] (fun k => [[some ((l.take p).map gU ++ List.replicate (l.length - p) (u8 0))], [some ((l.take p).map gU ++ a.map u8 ++ List.replicate (l.length - p - a.length) (u8 0))]].getD k []) (by kernel_rfl) (by kernel_rfl) rfl rfl rfl ?_ ?_ ?_
        · intro i o ho hi s hg how htk hrs hr
          rcases i with _ | i
          · simp only [List.getElem?_toArray, List.getElem?_cons_zero, List.getElem?_cons_succ, Option.some.injEq] at ho; subst ho
            have e11 := (hr 11 (by decide)).trans (rfl : _ = (i64 (p : Int) : AV))
            refine FOp.list ?_
            simp only [go_sem, e11]
            first | done | rfl | exact ⟨_, rfl⟩ | skip
          rcases i with _ | i
          · simp only [List.getElem?_toArray, List.getElem?_cons_zero, List.getElem?_cons_succ, Option.some.injEq] at ho; subst ho
            have e10 := (hr 10 (by decide)).trans (rfl : _ = (.mu 0 1 0 l.length l.length : AV))
            refine FOp.list ?_
            simp only [go_sem, e10]
            first | done | rfl | exact ⟨_, rfl⟩ | skip
          rcases i with _ | i
          · simp only [List.getElem?_toArray, List.getElem?_cons_zero, List.getElem?_cons_succ, Option.some.injEq] at ho; subst ho
            have e11 := (hr 11 (by decide)).trans (rfl : _ = (i64 (p : Int) : AV))
            refine FOp.list ?_
            simp only [go_sem, e11]
            first | done | rfl | exact ⟨_, rfl⟩ | skip
          rcases i with _ | i
          · simp only [List.getElem?_toArray, List.getElem?_cons_zero, List.getElem?_cons_succ, Option.some.injEq] at ho; subst ho
            have e59 := (hr 59 (by decide)).trans (rfl : _ = (.mu 0 1 0 l.length l.length : AV))
            have e60 := (hr 60 (by decide)).trans (rfl : _ = (i64 (p : Int) : AV))
            refine FOp.call fun Q hQ => ?_
            refine AWPL.sliceMu (e := 5) (l := p) (k := 1) (off := 0) (len := l.length) (cap := l.length) (by kernel_rfl) (by kernel_rfl) e59 e60 (by omega) (by omega) (by omega) ?_
            exact hQ
          rcases i with _ | i
          · simp only [List.getElem?_toArray, List.getElem?_cons_zero, List.getElem?_cons_succ, Option.some.injEq] at ho; subst ho
            have e0 := (hr 0 (by decide)).trans (rfl : _ = (bytesV l : AV))
            refine FOp.list ?_
            simp only [go_sem, e0]
            first | done | rfl | exact ⟨_, rfl⟩ | skip
          rcases i with _ | i
          · simp only [List.getElem?_toArray, List.getElem?_cons_zero, List.getElem?_cons_succ, Option.some.injEq] at ho; subst ho
            have e12 := (hr 12 (by decide)).trans (rfl : _ = (i64 (p : Int) : AV))
            refine FOp.list ?_
            simp only [go_sem, e12]
            first | done | rfl | exact ⟨_, rfl⟩ | skip
          rcases i with _ | i
          · simp only [List.getElem?_toArray, List.getElem?_cons_zero, List.getElem?_cons_succ, Option.some.injEq] at ho; subst ho
            have e13 := (hr 13 (by decide)).trans (rfl : _ = (i64 ((p + a.length : Nat) : Int) : AV))
            refine FOp.list ?_
            simp only [go_sem, e13]
            first | done | rfl | exact ⟨_, rfl⟩ | skip
          rcases i with _ | i
          · simp only [List.getElem?_toArray, List.getElem?_cons_zero, List.getElem?_cons_succ, Option.some.injEq] at ho; subst ho
            have e62 := (hr 62 (by decide)).trans (rfl : _ = (bytesV l : AV))
            have e63 := (hr 63 (by decide)).trans (rfl : _ = (i64 (p : Int) : AV))
            have e64 := (hr 64 (by decide)).trans (rfl : _ = (i64 ((p + a.length : Nat) : Int) : AV))
            refine FOp.list ?_
            simp only [go_sem, e62, e63, e64]
            (try rw [hpiece])
            first | done | exact ⟨by omega, by omega, rfl⟩ | skip
          rcases i with _ | i
          · exact absurd (by decide) hi
          rcases i with _ | i
          · simp only [List.getElem?_toArray, List.getElem?_cons_zero, List.getElem?_cons_succ, Option.some.injEq] at ho; subst ho
            have e58 := (hr 58 (by decide)).trans (rfl : _ = (i64 (p : Int) : AV))
            have e66 := (hr 66 (by decide)).trans (rfl : _ = (i64 (a.length : Nat) : AV))
            refine FOp.list ?_
            simp only [go_sem, e58, e66]
            rw [wrap64_id (by omega) (by omega)]
            rfl
          rcases i with _ | i
          · simp only [List.getElem?_toArray, List.getElem?_cons_zero, List.getElem?_cons_succ, Option.some.injEq] at ho; subst ho
            have e67 := (hr 67 (by decide)).trans (rfl : _ = (i64 ((p + a.length : Nat) : Int) : AV))
            refine FOp.list ?_
            simp only [go_sem, e67]
            first | done | rfl | exact ⟨_, rfl⟩ | skip
          · exact absurd ho (by simp)
        · intro k i o hk ho s hg how htk hrs hup hpp hr
          rcases k with _ | k
          · obtain rfl := Option.some.inj hk
            simp only [List.getElem?_toArray, List.getElem?_cons_zero, List.getElem?_cons_succ, Option.some.injEq] at ho; subst ho
            have e61 := (hr 61 (by decide)).trans (rfl : _ = (.mu 0 1 (0 + p) (l.length - p) (l.length - p) : AV))
            have e65 := (hr 65 (by decide)).trans (rfl : _ = (.sl none 1 (a.map u8) : AV))
            clear hr
            obtain ⟨tm, ow0, tk0, gl0, rsv0, up0⟩ := s
            simp only [] at hg how htk hrs hup hpp; subst hg; subst how; subst htk; subst hrs; subst hup
            refine FOp.call fun Q hQ => ?_
            refine AWPL.copyMu (id := 0) (es := ((l.take p).map gU ++ List.replicate (l.length - p) (u8 0))) (xs := a.map u8) ap55 e61 ((congrArg (fun z => ASrc z 1) e65).trans rfl) rfl (by simp; omega) (by simp; omega) (by omega) ?_
            rw [Nat.zero_add, ins_at (by simp; omega) (by simp; omega), List.length_map]
            exact hQ
          · exact absurd hk (by simp)
        simp only [go_sem, Go.Abs.setAll, Go.Abs.dstsOf, List.map_cons, List.map_nil])
    | (
        refine AWP.here 16 68 8 rfl ?_
        have hrow := rep_row (l := l) hd ha
        refine AWP.regionL ?_
        refine AWPL.at 8 3 rfl ?_
        simp only [go_sem]
        (repeat (refine ⟨⟨_, rfl⟩, ?_⟩))
        refine AWPL.sliceMu (e := 5) (l := p + a.length) (k := 1) (off := 0) (len := l.length) (cap := l.length) (by kernel_rfl) (by kernel_rfl) rfl rfl (by omega) (by omega) (by omega) ?_
        refine AWPL.at 4 1 rfl ?_
        simp only [go_sem]
        (repeat (refine ⟨⟨_, rfl⟩, ?_⟩))
        refine AWPL.copyMu (id := 0) (es := ((l.take p).map gU ++ a.map u8 ++ List.replicate (l.length - p - a.length) (u8 0))) (xs := [u8 2]) ap55 rfl rfl rfl (by simp; omega) (by simp; omega) (by omega) ?_
        (try rw [Nat.zero_add])
        rw [ins_at (by simp; omega) (by simp; omega), show ([u8 2] : List AV).length = 1 from rfl, hrow]
        simp only [go_sem]
        refine AWPL.of ?_
        (try simp only [go_sem]))
    | (
        refine AWP.here 28 120 10 rfl ?_
        have hrowE2 := rep_end2 (l := l) (s := p) (by omega)
        rcases Nat.lt_or_ge p l.length with hlt | hge
        refine AWP.regionFlow [[], [], [], [1, 2], [], [], [4, 5], [1, 2, 3, 4, 5, 6], [0, 1, 2, 3, 4, 5, 6, 7], [0, 1, 2, 3, 4, 5, 6, 7, 8]] [i64 (p : Int), .mu 0 1 0 l.length l.length, i64 (p : Int), .mu 0 1 (0 + p) (l.length - p) (l.length - p), bytesV l, i64 (p : Int), .sl none 1 ((l.drop p).map u8), i64 ((l.length - p : Nat) : Int), i64 (l.length : Int), i64 (l.length : Int)] [7] (fun k => [[some ((l.take p).map gU ++ List.replicate (l.length - p) (u8 0))], [some (l.map gU)]].getD k []) (by kernel_rfl) (by kernel_rfl) rfl rfl rfl ?_ ?_ ?_
        · intro i o ho hi s hg how htk hrs hr
          rcases i with _ | i
          · simp only [List.getElem?_toArray, List.getElem?_cons_zero, List.getElem?_cons_succ, Option.some.injEq] at ho; subst ho
            have e11 := (hr 11 (by decide)).trans (rfl : _ = (i64 (p : Int) : AV))
            refine FOp.list ?_
            simp only [go_sem, e11]
            first | done | rfl | exact ⟨_, rfl⟩ | skip
          rcases i with _ | i
          · simp only [List.getElem?_toArray, List.getElem?_cons_zero, List.getElem?_cons_succ, Option.some.injEq] at ho; subst ho
            have e10 := (hr 10 (by decide)).trans (rfl : _ = (.mu 0 1 0 l.length l.length : AV))
            refine FOp.list ?_
            simp only [go_sem, e10]
            first | done | rfl | exact ⟨_, rfl⟩ | skip
          rcases i with _ | i
          · simp only [List.getElem?_toArray, List.getElem?_cons_zero, List.getElem?_cons_succ, Option.some.injEq] at ho; subst ho
            have e11 := (hr 11 (by decide)).trans (rfl : _ = (i64 (p : Int) : AV))
            refine FOp.list ?_
            simp only [go_sem, e11]
            first | done | rfl | exact ⟨_, rfl⟩ | skip
          rcases i with _ | i
          · simp only [List.getElem?_toArray, List.getElem?_cons_zero, List.getElem?_cons_succ, Option.some.injEq] at ho; subst ho
            have e121 := (hr 121 (by decide)).trans (rfl : _ = (.mu 0 1 0 l.length l.length : AV))
            have e122 := (hr 122 (by decide)).trans (rfl : _ = (i64 (p : Int) : AV))
            refine FOp.call fun Q hQ => ?_
            refine AWPL.sliceMu (e := 5) (l := p) (k := 1) (off := 0) (len := l.length) (cap := l.length) (by kernel_rfl) (by kernel_rfl) e121 e122 (by omega) (by omega) (by omega) ?_
            exact hQ
          rcases i with _ | i
          · simp only [List.getElem?_toArray, List.getElem?_cons_zero, List.getElem?_cons_succ, Option.some.injEq] at ho; subst ho
            have e0 := (hr 0 (by decide)).trans (rfl : _ = (bytesV l : AV))
            refine FOp.list ?_
            simp only [go_sem, e0]
            first | done | rfl | exact ⟨_, rfl⟩ | skip
          rcases i with _ | i
          · simp only [List.getElem?_toArray, List.getElem?_cons_zero, List.getElem?_cons_succ, Option.some.injEq] at ho; subst ho
            have e12 := (hr 12 (by decide)).trans (rfl : _ = (i64 (p : Int) : AV))
            refine FOp.list ?_
            simp only [go_sem, e12]
            first | done | rfl | exact ⟨_, rfl⟩ | skip
          rcases i with _ | i
          · simp only [List.getElem?_toArray, List.getElem?_cons_zero, List.getElem?_cons_succ, Option.some.injEq] at ho; subst ho
            have e124 := (hr 124 (by decide)).trans (rfl : _ = (bytesV l : AV))
            have e125 := (hr 125 (by decide)).trans (rfl : _ = (i64 (p : Int) : AV))
            refine FOp.list ?_
            simp only [go_sem, e124, e125]
            first | done | exact ⟨by omega, by omega, rfl⟩ | exact ⟨by omega, rfl⟩ | omega | skip
          rcases i with _ | i
          · exact absurd (by decide) hi
          rcases i with _ | i
          · simp only [List.getElem?_toArray, List.getElem?_cons_zero, List.getElem?_cons_succ, Option.some.injEq] at ho; subst ho
            have e120 := (hr 120 (by decide)).trans (rfl : _ = (i64 (p : Int) : AV))
            have e127 := (hr 127 (by decide)).trans (rfl : _ = (i64 ((l.length - p : Nat) : Int) : AV))
            refine FOp.list ?_
            simp only [go_sem, e120, e127]
            rw [wrap64_id (by omega) (by omega)]
            rw [show ((p : Int) + ((l.length - p : Nat) : Int)) = (l.length : Int) by omega]
          rcases i with _ | i
          · simp only [List.getElem?_toArray, List.getElem?_cons_zero, List.getElem?_cons_succ, Option.some.injEq] at ho; subst ho
            have e128 := (hr 128 (by decide)).trans (rfl : _ = (i64 (l.length : Int) : AV))
            refine FOp.list ?_
            simp only [go_sem, e128]
            first | done | rfl | exact ⟨_, rfl⟩ | skip
          · exact absurd ho (by simp)
        · intro k i o hk ho s hg how htk hrs hup hpp hr
          rcases k with _ | k
          · obtain rfl := Option.some.inj hk
            simp only [List.getElem?_toArray, List.getElem?_cons_zero, List.getElem?_cons_succ, Option.some.injEq] at ho; subst ho
            have e123 := (hr 123 (by decide)).trans (rfl : _ = (.mu 0 1 (0 + p) (l.length - p) (l.length - p) : AV))
            have e126 := (hr 126 (by decide)).trans (rfl : _ = (.sl none 1 ((l.drop p).map u8) : AV))
            clear hr
            obtain ⟨tm, ow0, tk0, gl0, rsv0, up0⟩ := s
            simp only [] at hg how htk hrs hup hpp; subst hg; subst how; subst htk; subst hrs; subst hup
            refine FOp.call fun Q hQ => ?_
            refine AWPL.copyMu (id := 0) (es := ((l.take p).map gU ++ List.replicate (l.length - p) (u8 0))) (xs := (l.drop p).map u8) ap55 e123 ((congrArg (fun z => ASrc z 1) e126).trans rfl) rfl (by simp; omega) (by simp) (by omega) ?_
            (try rw [Nat.zero_add])
            rw [ins_at (by simp; omega) (by simp), hrowE2, List.length_map, List.length_drop]
            exact hQ
          · exact absurd hk (by simp)
        simp only [go_sem, Go.Abs.setAll, Go.Abs.dstsOf, List.map_cons, List.map_nil]
        rotate_left
        have hlt : p = l.length := by omega
        have hrowE := rep_end (l := l) (s := p) hlt
        refine AWP.regionFlow [[], [], [], [1, 2], [], [], [4, 5], [1, 2, 3, 4, 5, 6], [0, 1, 2, 3, 4, 5, 6, 7], [0, 1, 2, 3, 4, 5, 6, 7, 8]] [i64 (p : Int), .mu 0 1 0 l.length l.length, i64 (p : Int), .mu 0 1 0 0 0, bytesV l, i64 (p : Int), .sl none 1 ((l.drop p).map u8), i64 ((l.length - p : Nat) : Int), i64 (l.length : Int), i64 (l.length : Int)] [7] (fun k => [[some ((l.take p).map gU ++ List.replicate (l.length - p) (u8 0))], [some (l.map gU)]].getD k []) (by kernel_rfl) (by kernel_rfl) rfl rfl rfl ?_ ?_ ?_
        · intro i o ho hi s hg how htk hrs hr
          rcases i with _ | i
          · simp only [List.getElem?_toArray, List.getElem?_cons_zero, List.getElem?_cons_succ, Option.some.injEq] at ho; subst ho
            have e11 := (hr 11 (by decide)).trans (rfl : _ = (i64 (p : Int) : AV))
            refine FOp.list ?_
            simp only [go_sem, e11]
            first | done | rfl | exact ⟨_, rfl⟩ | skip
          rcases i with _ | i
          · simp only [List.getElem?_toArray, List.getElem?_cons_zero, List.getElem?_cons_succ, Option.some.injEq] at ho; subst ho
            have e10 := (hr 10 (by decide)).trans (rfl : _ = (.mu 0 1 0 l.length l.length : AV))
            refine FOp.list ?_
            simp only [go_sem, e10]
            first | done | rfl | exact ⟨_, rfl⟩ | skip
          rcases i with _ | i
          · simp only [List.getElem?_toArray, List.getElem?_cons_zero, List.getElem?_cons_succ, Option.some.injEq] at ho; subst ho
            have e11 := (hr 11 (by decide)).trans (rfl : _ = (i64 (p : Int) : AV))
            refine FOp.list ?_
            simp only [go_sem, e11]
            first | done | rfl | exact ⟨_, rfl⟩ | skip
          rcases i with _ | i
          · simp only [List.getElem?_toArray, List.getElem?_cons_zero, List.getElem?_cons_succ, Option.some.injEq] at ho; subst ho
            have e121 := (hr 121 (by decide)).trans (rfl : _ = (.mu 0 1 0 l.length l.length : AV))
            have e122 := (hr 122 (by decide)).trans (rfl : _ = (i64 (p : Int) : AV))
            refine FOp.call fun Q hQ => ?_
            refine AWPL.sliceMuEnd (e := 5) (k := 1) (off := 0) (cap := l.length) (by kernel_rfl) (by kernel_rfl) e121 (e122.trans (by rw [hlt])) (by omega) ?_
            exact hQ
          rcases i with _ | i
          · simp only [List.getElem?_toArray, List.getElem?_cons_zero, List.getElem?_cons_succ, Option.some.injEq] at ho; subst ho
            have e0 := (hr 0 (by decide)).trans (rfl : _ = (bytesV l : AV))
            refine FOp.list ?_
            simp only [go_sem, e0]
            first | done | rfl | exact ⟨_, rfl⟩ | skip
          rcases i with _ | i
          · simp only [List.getElem?_toArray, List.getElem?_cons_zero, List.getElem?_cons_succ, Option.some.injEq] at ho; subst ho
            have e12 := (hr 12 (by decide)).trans (rfl : _ = (i64 (p : Int) : AV))
            refine FOp.list ?_
            simp only [go_sem, e12]
            first | done | rfl | exact ⟨_, rfl⟩ | skip
          rcases i with _ | i
          · simp only [List.getElem?_toArray, List.getElem?_cons_zero, List.getElem?_cons_succ, Option.some.injEq] at ho; subst ho
            have e124 := (hr 124 (by decide)).trans (rfl : _ = (bytesV l : AV))
            have e125 := (hr 125 (by decide)).trans (rfl : _ = (i64 (p : Int) : AV))
            refine FOp.list ?_
            simp only [go_sem, e124, e125]
            first | done | exact ⟨by omega, by omega, rfl⟩ | exact ⟨by omega, rfl⟩ | omega | skip
          rcases i with _ | i
          · exact absurd (by decide) hi
          rcases i with _ | i
          · simp only [List.getElem?_toArray, List.getElem?_cons_zero, List.getElem?_cons_succ, Option.some.injEq] at ho; subst ho
            have e120 := (hr 120 (by decide)).trans (rfl : _ = (i64 (p : Int) : AV))
            have e127 := (hr 127 (by decide)).trans (rfl : _ = (i64 ((l.length - p : Nat) : Int) : AV))
            refine FOp.list ?_
            simp only [go_sem, e120, e127]
            rw [wrap64_id (by omega) (by omega)]
            rw [show ((p : Int) + ((l.length - p : Nat) : Int)) = (l.length : Int) by omega]
          rcases i with _ | i
          · simp only [List.getElem?_toArray, List.getElem?_cons_zero, List.getElem?_cons_succ, Option.some.injEq] at ho; subst ho
            have e128 := (hr 128 (by decide)).trans (rfl : _ = (i64 (l.length : Int) : AV))
            refine FOp.list ?_
            simp only [go_sem, e128]
            first | done | rfl | exact ⟨_, rfl⟩ | skip
          · exact absurd ho (by simp)
        · intro k i o hk ho s hg how htk hrs hup hpp hr
          rcases k with _ | k
          · obtain rfl := Option.some.inj hk
            simp only [List.getElem?_toArray, List.getElem?_cons_zero, List.getElem?_cons_succ, Option.some.injEq] at ho; subst ho
            have e123 := (hr 123 (by decide)).trans (rfl : _ = (.mu 0 1 0 0 0 : AV))
            have e126 := (hr 126 (by decide)).trans (rfl : _ = (.sl none 1 ((l.drop p).map u8) : AV))
            clear hr
            obtain ⟨tm, ow0, tk0, gl0, rsv0, up0⟩ := s
            simp only [] at hg how htk hrs hup hpp; subst hg; subst how; subst htk; subst hrs; subst hup
            refine FOp.call fun Q hQ => ?_
            refine AWPL.copyNone ap55 e123 ((congrArg (fun z => ASrc z 1) e126).trans (by rw [hlt, List.drop_length]; rfl)) ?_
            rw [show goInt 0 = .int .i64 ((l.length - p : Nat) : Int) by rw [hlt, Nat.sub_self]; rfl]
            rw [hrowE]
            exact hQ
          · exact absurd hk (by simp)
        simp only [go_sem, Go.Abs.setAll, Go.Abs.dstsOf, List.map_cons, List.map_nil])
    | (
        refine AWP.here 29 129 4 rfl ?_
        refine AWP.regionL ?_
        refine AWPL.at 4 2 rfl ?_
        simp only [go_sem]
        (repeat (refine ⟨⟨_, rfl⟩, ?_⟩))
        refine AWPL.slice2Mu (e := 5) (l' := 0) (h' := l.length) (k := 1) (off := 0) (cap := l.length) (by kernel_rfl) (by kernel_rfl) rfl rfl rfl (by omega) (by omega) (by omega) ?_
        simp only [Nat.add_zero, Nat.sub_zero]
        simp only [go_sem]
        refine AWPL.of ?_
        (try simp only [go_sem]))
    | (refine AWP.region ?_; simp only [go_sem])
    | (refine AWP.here 15 58 11 rfl ?_; refine AWP.regionO [0, 1, 2, 3, 4, 5, 6, 7, 8, 9, 10] [] (by kernel_rfl) (by kernel_rfl) rfl ?_; simp only [go_sem])
    | (refine AWP.here 24 101 11 rfl ?_; refine AWP.regionO [0, 1, 2, 3, 4, 5, 6, 7, 8, 9, 10] [] (by kernel_rfl) (by kernel_rfl) rfl ?_; simp only [go_sem])
    | (refine AWP.here 28 120 10 rfl ?_; refine AWP.regionO [0, 1, 2, 3, 4, 5, 6, 7, 8, 9] [] (by kernel_rfl) (by kernel_rfl) rfl ?_; simp only [go_sem])
    | (refine hK _ ?_; clear hK K)
    | refine AWP.block ?_
    | refine AWP.cond rfl (fun c => ?_) (fun c => ?_) <;> first | exact Bool.noConfusion c | (try simp only [dD] at c)
    | refine AWP.skip ?_
    | (refine AWP.exit ?_; simp only [go_sem])
    | (refine ACall.one (bcount_c l 1 hl) (by kernel_rfl) rfl ?_; simp only [go_sem])
    | (refine ACall.one (bindex_c (l.drop p) 1 (by rw [hd]; simp)) (by kernel_rfl) rfl ?_; simp only [go_sem])
    | (refine AGuard.splitN (fun h => ?_) (fun h => ?_) <;> simp only [h, go_sem] <;> (try simp only [dD] at h))
    | (refine AGuard.split (fun h => ?_) (fun h => ?_) <;> simp only [h, go_sem] <;> (try simp only [dD] at h))
    | (refine AGet.haveM (by assumption) ?_; (try simp only [go_sem]))
    | (refine AGet.have' (by assumption) ?_; (try simp only [go_sem]))
    | ((first | refine AGet.nth ?_ (fun b hb => ?_) | refine AGet.nth1 ?_ (fun b hb => ?_) | with_reducible refine And.intro ?_ ?_); (focus (first | omega | assumption | exact List.length_pos_iff.2 (by assumption) | (simp only [List.length_append, List.length_cons, List.length_nil, List.length_map, List.length_take, List.length_drop] at *; omega) | (rw [wrap64_id (by omega) (by omega)]; omega) | (simp; done) | (simp [spare_len]; done) | (exact ⟨by omega, by omega⟩))); (try simp only [hb, go_sem]))
    | (
        refine AWP.here 13 50 1 rfl ?_
        refine AWP.loopM (ι := Nat × Nat) [13, 50, 51, 52, 53, 54, 55, 56, 57, 58, 59, 60, 61, 62, 63, 64, 65, 66, 67, 68, 69, 70, 71, 72, 73, 74, 75, 76, 77, 78, 79] (fun ⟨i, p⟩ => [(11, i64 (p : Int)), (12, i64 (p : Int)), (49, i64 (i : Int))]) (fun ⟨i, p⟩ => [some ((l.take p).map gU ++ List.replicate (l.length - p) (u8 0))]) (fun ⟨i, p⟩ => []) (fun ⟨i, p⟩ => i ≤ l.count 1 ∧ p ≤ l.length ∧ (l.take p).count 1 = i) (fun ⟨i, p⟩ => l.count 1 - i) ((0, 0)) ?_ ?_ ?_
        · (try simp only [go_sem]); (repeat' (first | exact .inr bel_rep | exact .inr ⟨rfl, bel_rep⟩ | refine And.intro ?_ ?_ | exact .inl rfl | exact .inr rfl | exact .inr ⟨rfl, rfl⟩ | trivial | exact .inr (oblA rfl) | exact .inr ⟨rfl, oblA rfl⟩ | exact .inr bel_strs | exact .inr ⟨rfl, bel_strs⟩ | exact .inr ⟨by simp, bel_strs⟩ | (simp; done) | exact .inr ⟨rfl, by simp⟩ | exact .inr ⟨by simp, by simp⟩)); done
        · exact ⟨by omega, by omega, by simp⟩
        rintro ⟨i, p⟩ ⟨h1, h2, h3⟩
        simp only [go_sem])
    | (
        refine ⟨(i + 1, p + a.length + 1), ?_, ?_, ?_⟩
        · (try simp only [go_sem]); (try rw [wrap64_id (by omega) (by omega)]); (try simp only [hw2b, hw3]); (repeat' (first | exact .inr bel_rep | exact .inr ⟨rfl, bel_rep⟩ | refine And.intro ?_ ?_ | exact .inl rfl | exact .inr rfl | exact .inr ⟨rfl, rfl⟩ | trivial | exact .inr (oblA rfl) | exact .inr ⟨rfl, oblA rfl⟩ | exact .inr bel_strs | exact .inr ⟨rfl, bel_strs⟩ | exact .inr ⟨by simp, bel_strs⟩ | (simp; done) | exact .inr ⟨rfl, by simp⟩ | exact .inr ⟨by simp, by simp⟩)); done
        · (try dsimp only); exact ⟨by omega, by omega, rep_count hd h3 ha⟩
        · (try simp only []); omega)
    | (
        refine AWP.publishSl 8 0 1 l.length (l.map gU) (by simp) rfl cl_gU ?_
        (try simp only [go_sem])
        refine AWP.ret ?_
        refine AEnd.is ?_
        simp only [go_sem, out_v, out_s, out_n, v_int, v_bool, v_str] <;> (first | rfl | (rw [rep_none (by omega)]; done) | (simp [rep_none (l := l) (by omega)]; done) | exact rep_map | skip))
    | (
        refine AWP.ret ?_
        refine AEnd.is ?_
        simp only [go_sem, out_v, out_s, out_n, v_int, v_bool, v_str] <;> (first | rfl | (rw [rep_none (by omega)]; done) | (simp [rep_none (l := l) (by omega)]; done) | exact rep_map | skip))
    | refine AWP.fin (by assumption) ?_
    | fail)


end Go.Proofs.YtfchlkeekmabfaaGreatDoor
end
section
set_option linter.unusedVariables false
set_option linter.unusedSimpArgs false
namespace Go.Proofs.YtfchlkeekmabfaaGreatDoor
open Go Go.Abs Go.RowKit Go.Bk Go.Msg Go.Txt
theorem report_body {x : Ex} (h : execB x = true) : (putM (reportM x)).1 ≠ [] ∧ (putM (reportM x)).1.length ≤ 5000 := by
  obtain ⟨h1, h2, _⟩ := report_len h
  unfold reportA at h1 h2
  rw [List.length_map] at h1 h2
  exact ⟨List.length_pos_iff.1 h1, by omega⟩
theorem exec_may {a : Ak} (h : mayA a = true) (k : a.kind = 3) : execB a.exec = true := by
  rw [may3 k] at h; simp only [Bool.and_eq_true] at h; exact h.2
theorem putK_ok {a : Ak} (h : mayA a = true) : putK a = (Fld.encL (fieldsA a), 0) := by unfold putK; rw [if_pos h]
theorem putK_no {a : Ak} (h : mayA a = false) : putK a = ([], 1) := by unfold putK; rw [h]; rfl
theorem fput_k {a : Ak} (h : mayA a = true) : ACalls E 36 [fldsV (fieldsA a)] (fun r t => r = .tup [.sl (some 0) 1 ((Fld.encL (fieldsA a)).map u8), i64 0] ∧ t = [(Fld.encL (fieldsA a)).length]) := by
  have := fput_c (fieldsA a)
  rw [put_fields h] at this
  exact this
theorem fields_k1 {a : Ak} (k : a.kind = 1) : fieldsA a = [(1, Fld.showF a.kind), (2, Fld.showF a.venue), (3, a.ord.id), (4, a.ord.acc), (5, a.ord.sym), (6, flagW a.ord.buy), (7, Fld.showF a.ord.qty), (8, Fld.showF a.ord.price)] := by unfold fieldsA; rw [if_pos k]
theorem fields_k2 {a : Ak} (k : a.kind = 2) : fieldsA a = [(1, Fld.showF a.kind), (2, Fld.showF a.venue), (3, a.id), (4, a.ord.id), (7, Fld.showF a.ord.qty), (8, Fld.showF a.ord.price)] := by unfold fieldsA; rw [if_neg (by omega), if_pos k]
theorem fields_k3 {a : Ak} (k : a.kind = 3) : fieldsA a = [(1, Fld.showF a.kind), (2, Fld.showF a.venue), (9, reportA a.exec)] := by unfold fieldsA; rw [if_neg (by omega), if_neg (by omega), if_pos k]
theorem fields_k4 {a : Ak} (k : a.kind = 4) : fieldsA a = [(1, Fld.showF a.kind), (10, Fld.showF a.now)] := by unfold fieldsA; rw [if_neg (by omega), if_neg (by omega), if_neg (by omega), if_pos k]
theorem fields_k5 {a : Ak} (k : a.kind = 5) : fieldsA a = [(1, Fld.showF a.kind), (11, flagW a.on)] := by unfold fieldsA; rw [if_neg (by omega), if_neg (by omega), if_neg (by omega), if_neg (by omega), if_pos k]
theorem fields_k6 {a : Ak} (k : a.kind = 6) : fieldsA a = [(1, Fld.showF a.kind), (2, Fld.showF a.venue), (11, flagW a.on)] := by unfold fieldsA; rw [if_neg (by omega), if_neg (by omega), if_neg (by omega), if_neg (by omega), if_neg (by omega), if_pos k]
theorem fields_k8 {a : Ak} (k : a.kind = 8) : fieldsA a = [(1, Fld.showF a.kind), (4, a.lim.acc), (5, a.lim.sym), (12, Fld.showF a.lim.long), (13, Fld.showF a.lim.short), (7, Fld.showF a.lim.qty), (8, Fld.showF a.lim.value)] := by unfold fieldsA; rw [if_neg (by omega), if_neg (by omega), if_neg (by omega), if_neg (by omega), if_neg (by omega), if_neg (by omega), if_pos k]
theorem fields_k7 {a : Ak} (k : ¬ a.kind = 1 ∧ ¬ a.kind = 2 ∧ ¬ a.kind = 3 ∧ ¬ a.kind = 4 ∧ ¬ a.kind = 5 ∧ ¬ a.kind = 6 ∧ ¬ a.kind = 8) : fieldsA a = [(1, Fld.showF a.kind), (2, Fld.showF a.venue)] := by
  obtain ⟨h1, h2, h3, h4, h5, h6, h8⟩ := k
  unfold fieldsA; rw [if_neg h1, if_neg h2, if_neg h3, if_neg h4, if_neg h5, if_neg h6, if_neg h8]

set_option maxHeartbeats 4000000 in
set_option maxRecDepth 8000 in
theorem repall_c (l : List UInt8) (hl : l ≠ []) (hlen : l.length ≤ 5000) : ACalls E 79 [bytesV l, .sl none 1 [u8 1], .sl none 1 [u8 2]] (fun r t => r = bytesV (l.map turn12) ∧ t = []) := by -- bytes.ReplaceAll
  refine ACalls.of_awp (n := 11) (rs := [.tmp 6]) Tryz.func79 rfl Tryz.ntmps79 rfl ?_
  repeat' (first
    | refine AWP.seqk fun K hK => ?_
    | (refine AWP.region ?_; simp only [go_sem])
    | (refine hK _ ?_; clear hK K)
    | refine AWP.block ?_
    | refine AWP.cond rfl (fun c => ?_) (fun c => ?_) <;> first | exact Bool.noConfusion c | (try simp only [dD] at c)
    | refine AWP.skip ?_
    | (refine AWP.exit ?_; simp only [go_sem])
    | (refine ACall.one (repl_c l hl hlen) (by kernel_rfl) rfl ?_; simp only [go_sem])
    | (refine AGet.haveM (by assumption) ?_; (try simp only [go_sem]))
    | (refine AGet.have' (by assumption) ?_; (try simp only [go_sem]))
    | ((first | refine AGet.nth ?_ (fun b hb => ?_) | refine AGet.nth1 ?_ (fun b hb => ?_) | with_reducible refine And.intro ?_ ?_); (focus (first | omega | assumption | exact List.length_pos_iff.2 (by assumption) | (simp only [List.length_append, List.length_cons, List.length_nil, List.length_map, List.length_take, List.length_drop] at *; omega) | (rw [wrap64_id (by omega) (by omega)]; omega) | (simp; done) | (simp [spare_len]; done) | (exact ⟨by omega, by omega⟩))); (try simp only [hb, go_sem]))
    | (
        refine AWP.ret ?_
        refine AEnd.is ?_; simp only [go_sem, out_v, out_s, out_n, v_int, v_bool, v_str] <;> rfl)
    | refine AWP.fin (by assumption) ?_
    | fail)

set_option maxHeartbeats 4000000 in
set_option maxRecDepth 8000 in
theorem kreport_c (x : Ex) (hx : execB x = true) : ACalls E 60 [exV x] (fun r t => r = str (reportA x) ∧ t = []) := by -- checkroll/keep.report
  obtain ⟨hr1, hr2⟩ := report_body hx
  refine ACalls.of_awp (n := 16) (rs := [.tmp 2]) Tryz.func60 rfl Tryz.ntmps60 rfl ?_
  repeat' (first
    | refine AWP.seqk fun K hK => ?_
    | (refine AWP.region ?_; simp only [go_sem])
    | (refine hK _ ?_; clear hK K)
    | refine AWP.block ?_
    | refine AWP.cond rfl (fun c => ?_) (fun c => ?_) <;> first | exact Bool.noConfusion c | (try simp only [dD] at c)
    | refine AWP.skip ?_
    | (refine AWP.exit ?_; simp only [go_sem])
    | (refine ACall.one (mput_c (reportM x)) (by kernel_rfl) rfl ?_; simp only [go_sem])
    | (refine ACall.one (repall_c (putM (reportM x)).1 hr1 hr2) (by kernel_rfl) rfl ?_; simp only [go_sem])
    | (refine AGet.haveM (by assumption) ?_; (try simp only [go_sem]))
    | (refine AGet.have' (by assumption) ?_; (try simp only [go_sem]))
    | ((first | refine AGet.nth ?_ (fun b hb => ?_) | refine AGet.nth1 ?_ (fun b hb => ?_) | with_reducible refine And.intro ?_ ?_); (focus (first | omega | assumption | exact List.length_pos_iff.2 (by assumption) | (simp only [List.length_append, List.length_cons, List.length_nil, List.length_map, List.length_take, List.length_drop] at *; omega) | (rw [wrap64_id (by omega) (by omega)]; omega) | (simp; done) | (simp [spare_len]; done) | (exact ⟨by omega, by omega⟩))); (try simp only [hb, go_sem]))
    | (
        refine AWP.ret ?_
        refine AEnd.is ?_; simp only [go_sem, out_v, out_s, out_n, v_int, v_bool, v_str] <;> (first | rfl | (simp [reportA]; done) | skip))
    | refine AWP.fin (by assumption) ?_
    | fail)

set_option maxHeartbeats 4000000 in
set_option maxRecDepth 8000 in
theorem kfields_c (a : Ak) (ha : mayA a = true) : ACalls E 37 [akV a] (fun r t => r = .sl none 2 ((fieldsA a).map fldV) ∧ t = []) := by -- checkroll/keep.fields
  refine ACalls.of_awp (n := 115) (rs := [.tmp 2]) Tryz.func37 rfl Tryz.ntmps37 rfl ?_
  repeat' (first
    | refine AWP.seqk fun K hK => ?_
    | (refine AWP.region ?_; simp only [go_sem])
    | (refine AWP.here 1 7 8 rfl ?_; apply AWP.regionAnyJ (.take 0 (.take 1 (.take 2 (.fork (.alt 3 (.take 4 (.take 5 (.take 6 (.take 7 .done)))) (.alt 4 (.fork (.alt 3 (.take 5 (.take 6 (.take 7 .done))) (.alt 5 (.fork (.alt 3 (.take 6 (.take 7 .done)) (.alt 6 (.take 3 (.take 7 .done)) .ends))) .ends))) (.alt 5 (.fork (.alt 3 (.take 4 (.take 6 (.take 7 .done))) (.alt 4 (.fork (.alt 3 (.take 6 (.take 7 .done)) (.alt 6 (.take 3 (.take 7 .done)) .ends))) .ends))) .ends))))))) [[], [0], [], [2], [], [], [0, 1, 4, 5], [0, 1, 2, 3, 4, 5, 6]] [3, 4] (by kernel_rfl) (by kernel_rfl) (by decide); simp only [go_sem])
    | (refine AWP.here 2 11 10 rfl ?_; refine AWP.regionO [0, 1, 3, 4, 6, 7, 2, 5, 8, 9] [5, 6] (by kernel_rfl) (by kernel_rfl) rfl ?_; simp only [go_sem])
    | (refine AWP.here 5 21 22 rfl ?_; refine AWP.regionAs [0, 1, 2, 3, 5, 6, 8, 9, 11, 12, 14, 15, 17, 18, 4, 7, 10, 13, 16, 19, 20, 21] [[], [], [], [2], [2, 3], [], [5], [2, 3, 4, 5, 6], [], [8], [2, 3, 4, 5, 6, 7, 8, 9], [], [11], [2, 3, 4, 5, 6, 7, 8, 9, 10, 11, 12], [], [14], [2, 3, 4, 5, 6, 7, 8, 9, 10, 11, 12, 13, 14, 15], [], [17], [2, 3, 4, 5, 6, 7, 8, 9, 10, 11, 12, 13, 14, 15, 16, 17, 18], [0, 1, 2, 3, 4, 5, 6, 7, 8, 9, 10, 11, 12, 13, 14, 15, 16, 17, 18, 19], [0, 1, 2, 3, 4, 5, 6, 7, 8, 9, 10, 11, 12, 13, 14, 15, 16, 17, 18, 19, 20]] [] (by kernel_rfl) (by kernel_rfl) (by decide) rfl ?_; simp only [go_sem])
    | (refine AWP.here 7 44 16 rfl ?_; refine AWP.regionO [0, 1, 2, 3, 5, 6, 8, 9, 11, 12, 4, 7, 10, 13, 14, 15] [] (by kernel_rfl) (by kernel_rfl) rfl ?_; simp only [go_sem])
    | (refine AWP.here 9 61 8 rfl ?_; refine AWP.regionO [0, 1, 2, 3, 4, 5, 6, 7] [] (by kernel_rfl) (by kernel_rfl) rfl ?_; simp only [go_sem])
    | (refine AWP.here 11 70 6 rfl ?_; refine AWP.regionO [0, 1, 2, 3, 4, 5] [] (by kernel_rfl) (by kernel_rfl) rfl ?_; simp only [go_sem])
    | (refine AWP.here 13 77 6 rfl ?_; refine AWP.regionO [0, 1, 2, 3, 4, 5] [] (by kernel_rfl) (by kernel_rfl) rfl ?_; simp only [go_sem])
    | (refine AWP.here 15 84 7 rfl ?_; refine AWP.regionO [0, 1, 2, 3, 4, 5, 6] [] (by kernel_rfl) (by kernel_rfl) rfl ?_; simp only [go_sem])
    | (refine AWP.here 17 92 21 rfl ?_; refine AWP.regionAs [0, 1, 2, 4, 5, 7, 8, 10, 11, 13, 14, 16, 17, 3, 6, 9, 12, 15, 18, 19, 20] [[], [], [1], [1, 2], [], [4], [1, 2, 3, 4, 5], [], [7], [1, 2, 3, 4, 5, 6, 7, 8], [], [10], [1, 2, 3, 4, 5, 6, 7, 8, 9, 10, 11], [], [13], [1, 2, 3, 4, 5, 6, 7, 8, 9, 10, 11, 12, 13, 14], [], [16], [1, 2, 3, 4, 5, 6, 7, 8, 9, 10, 11, 12, 13, 14, 15, 16, 17], [0, 1, 2, 3, 4, 5, 6, 7, 8, 9, 10, 11, 12, 13, 14, 15, 16, 17, 18], [0, 1, 2, 3, 4, 5, 6, 7, 8, 9, 10, 11, 12, 13, 14, 15, 16, 17, 18, 19]] [] (by kernel_rfl) (by kernel_rfl) (by decide) rfl ?_; simp only [go_sem])
    | (refine hK _ ?_; clear hK K)
    | refine AWP.block ?_
    | refine AWP.cond rfl (fun c => ?_) (fun c => ?_) <;> first | exact Bool.noConfusion c | (try simp only [dD] at c)
    | refine AWP.skip ?_
    | (refine AWP.exit ?_; simp only [go_sem])
    | (refine ACall.one (knumber_c _ _) (by kernel_rfl) rfl ?_; simp only [go_sem])
    | (refine ACall.one (kword_c _ _) (by kernel_rfl) rfl ?_; simp only [go_sem])
    | (refine ACall.one (kflag_c _ _) (by kernel_rfl) rfl ?_; simp only [go_sem])
    | (refine ACall.one (kreport_c a.exec (exec_may ha (by assumption))) (by kernel_rfl) rfl ?_; simp only [go_sem])
    | (refine AGet.haveM (by assumption) ?_; (try simp only [go_sem]))
    | (refine AGet.have' (by assumption) ?_; (try simp only [go_sem]))
    | ((first | refine AGet.nth ?_ (fun b hb => ?_) | refine AGet.nth1 ?_ (fun b hb => ?_) | with_reducible refine And.intro ?_ ?_); (focus (first | omega | assumption | exact List.length_pos_iff.2 (by assumption) | (simp only [List.length_append, List.length_cons, List.length_nil, List.length_map, List.length_take, List.length_drop] at *; omega) | (rw [wrap64_id (by omega) (by omega)]; omega) | (simp; done) | (simp [spare_len]; done) | (exact ⟨by omega, by omega⟩))); (try simp only [hb, go_sem]))
    | exact rfl
    | refine And.intro (a := ACall _ _ _ _ _ _ _ _) ?_ ?_
    | refine And.intro (a := AGet _ _) ?_ ?_
    | refine And.intro (a := AGuard _ _ _ _ _ _ _) ?_ ?_
    | (
        refine AWP.ret ?_
        refine AEnd.is ?_; simp only [go_sem, out_v, out_s, out_n, v_int, v_bool, v_str] <;> (first
        | (rw [fields_k1 (by assumption)]; rfl) | (rw [fields_k2 (by assumption)]; rfl) | (rw [fields_k3 (by assumption)]; rfl) | (rw [fields_k4 (by assumption)]; rfl) | (rw [fields_k5 (by assumption)]; rfl) | (rw [fields_k6 (by assumption)]; rfl) | (rw [fields_k8 (by assumption)]; rfl)
        | (rw [fields_k7 ⟨by omega, by omega, by omega, by omega, by omega, by omega, by omega⟩]; rfl) | skip))
    | refine AWP.fin (by assumption) ?_
    | fail)

set_option maxHeartbeats 4000000 in
set_option maxRecDepth 8000 in
theorem kput_c (a : Ak) : ACalls E 17 [akV a] (fun r t => r = .tup [bytesV (putK a).1, i64 (putK a).2] ∧ t = []) := by -- checkroll/keep.Put
  refine ACalls.of_awp (n := 18) (rs := [.tmp 2, .tmp 3]) Tryz.func17 rfl Tryz.ntmps17 rfl ?_
  repeat' (first
    | refine AWP.seqk fun K hK => ?_
    | (refine AWP.region ?_; simp only [go_sem])
    | (refine hK _ ?_; clear hK K)
    | refine AWP.block ?_
    | refine AWP.cond rfl (fun c => ?_) (fun c => ?_) <;> first | exact Bool.noConfusion c | (try simp only [dD] at c)
    | refine AWP.skip ?_
    | (refine AWP.exit ?_; simp only [go_sem])
    | (refine ACall.one (kmay_c a) (by kernel_rfl) rfl ?_; simp only [go_sem])
    | (refine ACall.one (kfields_c a (by assumption)) (by kernel_rfl) rfl ?_; simp only [go_sem])
    | (refine ACall.of (fput_k (by assumption)) (by kernel_rfl) rfl ?_; rintro r t ⟨rfl, rfl⟩; simp only [go_sem])
    | (refine AGet.haveM (by assumption) ?_; (try simp only [go_sem]))
    | (refine AGet.have' (by assumption) ?_; (try simp only [go_sem]))
    | ((first | refine AGet.nth ?_ (fun b hb => ?_) | refine AGet.nth1 ?_ (fun b hb => ?_) | with_reducible refine And.intro ?_ ?_); (focus (first | omega | assumption | exact List.length_pos_iff.2 (by assumption) | (simp only [List.length_append, List.length_cons, List.length_nil, List.length_map, List.length_take, List.length_drop] at *; omega) | (rw [wrap64_id (by omega) (by omega)]; omega) | (simp; done) | (simp [spare_len]; done) | (exact ⟨by omega, by omega⟩))); (try simp only [hb, go_sem]))
    | (
        refine AWP.ret ?_
        refine AEnd.is ?_; simp only [go_sem, out_v, out_s, out_n, v_int, v_bool, v_str] <;> (first | (rw [putK_ok (by assumption)]; simp; done) | (rw [putK_no (by assumption)]; exact ⟨trivial, rfl⟩) | skip))
    | refine AWP.fin (by assumption) ?_
    | fail)


end Go.Proofs.YtfchlkeekmabfaaGreatDoor
end
section
/- The layer, the plain facts: several texts of one chain, put together (SqA, SqB, SqC). -/
/- slices.Sorted against an iterator that reads what lay before: the library's own proofs, turned: the caller's invariant tells that nothing old has turned. -/
namespace Go.Proofs
open Go.RowKit Go.Maps Go.Sort Go.Shelf
set_option linter.unusedVariables false
set_option linter.unusedSimpArgs false
variable {P : Program} {ρ : Ren}
end Go.Proofs

/- A contract whose row is new memory, told by its content; strings as cells. -/
set_option linter.unusedVariables false
set_option linter.unusedSimpArgs false
namespace Go.Abs
open Go Go.RowKit Go.Sort Go.Proofs Go.Maps

/-- Where nothing is own. -/
theorem Rel.start {w : World} {im : Im} (E : Env) (hG : GOK E im) (hok : ∀ (b o : Nat) (x : Value), im b o = some x → w.cell? ⟨b, o, none⟩ = some x) :
    Rel w ⟨im, [], E.dr⟩ ⟨[], [], im⟩ ⟨[], [], [], E.gl, none, []⟩ { tmps := #[], defers := [] } w :=
  ⟨⟨rfl, fun b o hb => by
      cases h : im b o with
      | none => exact h
      | some x => exact absurd (World.block_lt_of_cell? w ⟨b, o, none⟩ (hok b o x h)) (Nat.not_lt.2 hb)⟩, rfl, by simp, Below.refl _ _, .refl _, fun _ _ _ => rfl, hok, rfl, by simp, rfl, by simp, by simp, ⟨by simp, by simp, by simp⟩, fun g cs h => hG g cs h, ⟨rfl, by simp⟩, fun l d i h => by simp at h⟩
theorem ACalls.of_rel {E : Env} {f : FuncId} {args : List AV} {R : AV → List Nat → Prop}
    (h : ∀ (w : World) (im : Im) (vs : List Value), E.ok w → GOK E im → (∀ (b o : Nat) (x : Value), im b o = some x → w.cell? ⟨b, o, none⟩ = some x) → Pw0 im args vs → Calls E.P f vs.toArray w fun e w' => ∃ v, e = .returned v ∧
      ∃ c st a, Rel w ⟨im, [], E.dr⟩ c st a w' ∧ ∃ x, VR c x v ∧ ∃ sel y, selOK st.tk.length sel = true ∧ OutT sel x y ∧ R y (selLens st.tk sel)) : ACalls E f args R := by
  intro w im vs hE hG hok hpw
  refine (h w im vs hE hG hok hpw).mono ?_
  rintro e w' ⟨v, rfl, c', st', a, r', x, hv, sel, y, h3, h4, h5⟩
  refine ⟨v, y, selTk c' sel, c'.im, rfl, r'.below, r'.imle, r'.imold, r'.imok, selToks r' h3, outT_ok r' h3 hv h4, ?_⟩
  rw [selLens_eq r' h3]; exact h5
theorem cells_strs {im : Im} {l : List (List UInt8)} {cs : List Value} (h : cs.take l.length = l.map encStr) : Cells im 1 (l.map str) cs := by
  refine ⟨fun i e he => ?_, fun i e j c he hc => ?_⟩
  · rw [List.getElem?_map] at he
    cases hl : l[i]? with
    | none => simp [hl] at he
    | some b => simp only [hl, Option.map_some, Option.some.injEq] at he; subst he; rfl
  · rw [List.getElem?_map] at he
    cases hl : l[i]? with
    | none => simp [hl] at he
    | some b =>
      simp only [hl, Option.map_some, Option.some.injEq] at he; subst he
      have hlt : i < l.length := (List.getElem?_eq_some_iff.1 hl).1
      have h1 : (cs.take l.length)[i]? = cs[i]? := by rw [List.getElem?_take, if_pos hlt]
      cases j with
      | succ j => simp [AV.leaves] at hc
      | zero =>
        simp only [AV.leaves, List.getElem?_cons_zero, Option.some.injEq] at hc; subst hc
        refine ⟨encStr b, ?_, .v _, rfl⟩
        rw [Nat.mul_one, Nat.add_zero, ← h1, h]
        simp [hl]
/-- A row of strings in new memory. -/
theorem ACalls.of_strs {E : Env} {f : FuncId} {args : List AV} {l : List (List UInt8)} {ty : TypeId}
    (h : ∀ (w : World) (im : Im) (vs : List Value), E.ok w → GOK E im → (∀ (b o : Nat) (x : Value), im b o = some x → w.cell? ⟨b, o, none⟩ = some x) → Pw0 im args vs → Calls E.P f vs.toArray w fun e w' => ∃ v, e = .returned v ∧
      w'.ownsRow w.heap.size ty 1 v l.length (l.map encStr) ∧ Go.RowKit.Below w.heap.size w w') (hdr : ¬ E.dr := by exact fun h => h) : ACalls E f args (fun r t => r = .sl (some 0) 1 (l.map str) ∧ t = [l.length]) := by
  refine ACalls.of_rel fun w im vs hE hG hok hpw => (h w im vs hE hG hok hpw).mono ?_
  rintro e w' ⟨v, rfl, hrow, hb0⟩
  have hb : Below E.dr w.heap.size w w' := ⟨hb0, fun d => absurd d hdr⟩
  have r0 := Rel.start E hG hok
  refine ⟨v, rfl, ?_⟩
  rcases hrow.2 with ⟨rfl, hz⟩ | ⟨g, cap, cur, rfl, hbase, hg, h1, h2, h3, h4⟩
  · have hl : l = [] := List.eq_nil_of_length_eq_zero hz
    subst hl
    exact ⟨_, _, _, r0.ext hb, .nilS, .base .nilS, [(false, 1)], .sl (some 0) 1 [], rfl, rfl, rfl, rfl⟩
  · obtain ⟨c', hle, r1, hv⟩ := r0.newTok (k := 1) (cap := cap) (es := l.map str) (cs := cur) hb hbase hg (.inl rfl) (by rw [h3]; exact Nat.le_refl _) (by simpa using h1) (cells_strs (by simpa using h4))
    rw [List.length_map] at hv r1
    refine ⟨c', _, _, r1, _, hv, [(true, 0)], .sl (some 0) 1 (l.map str), rfl, ⟨rfl, rfl, rfl⟩, rfl, ?_⟩
    simp [selLens]
end Go.Abs

/- slices.Sort on an own row of strings. -/
set_option linter.unusedVariables false
set_option linter.unusedSimpArgs false
namespace Go.Abs
open Go Go.RowKit Go.Sort Go.Proofs Go.Maps

end Go.Abs
end
section
set_option linter.unusedVariables false
set_option linter.unusedSimpArgs false
namespace Go.Proofs.YtfchlkeekmabfaaGreatDoor
open Go Go.Abs Go.RowKit Go.Bk Go.Msg Go.Txt
theorem place_next {tb : List (List UInt8)} {w b : List UInt8} {i : Nat} {p : Int} (hb : (tb.drop i)[0]? = some b) (h : p = placeGo w (tb.drop i) i) (hn : ¬ b = w) : p = placeGo w (tb.drop (i + 1)) (i + 1) := by
  rw [h, Fld.drop_at (by rw [List.getElem?_drop, Nat.add_zero] at hb; exact hb), placeGo, if_neg hn]
theorem place_hit {tb : List (List UInt8)} {w b : List UInt8} {i : Nat} {p : Int} (hb : (tb.drop i)[0]? = some b) (h : p = placeGo w (tb.drop i) i) (hn : b = w) : p = (i : Int) := by
  rw [h, Fld.drop_at (by rw [List.getElem?_drop, Nat.add_zero] at hb; exact hb), placeGo, if_pos hn]
theorem place_end {tb : List (List UInt8)} {w : List UInt8} {i : Nat} {p : Int} (h : p = placeGo w (tb.drop i) i) (hi : tb.length ≤ i) : p = 0 := by
  rw [h, List.drop_eq_nil_of_le hi, placeGo]
theorem strs_leafy (l : List (List UInt8)) : (l.map str).all AV.leafy = true := by
  rw [List.all_eq_true]; intro x hx; obtain ⟨s, _, rfl⟩ := List.mem_map.1 hx; rfl
theorem strs_bel (l : List (List UInt8)) {no nt : Nat} : (l.map str).all (AV.bel1 no nt) = true := by
  rw [List.all_eq_true]; intro x hx; obtain ⟨s, _, rfl⟩ := List.mem_map.1 hx; rfl
theorem strs_box (l : List (List UInt8)) {no nt : Nat} : ∀ es, some [AV.agg (l.map str)] = some es → ∀ e ∈ es, ∀ z ∈ e.leaves, z.bel no nt = true := by
  intro es he e hm z hz
  simp only [Option.some.injEq] at he
  subst he
  rw [List.mem_singleton] at hm
  subst hm
  have hz : z ∈ l.map str := hz
  obtain ⟨s, _, rfl⟩ := List.mem_map.1 hz; rfl
theorem name_at {l : List (List UInt8)} {k : Int} (hl : l.length = 9) (h : 0 ≤ k ∧ k ≤ 8) : (List.drop k.toNat (tabV l))[0]? = some (str (nameW l k)) := by
  have hlt : k.toNat < l.length := by omega
  rw [List.getElem?_drop, Nat.add_zero]
  unfold tabV nameW
  rw [List.getElem?_map, List.getElem?_eq_getElem hlt, List.getD_eq_getElem?_getD, List.getElem?_eq_getElem hlt]; rfl
theorem split_lib (c : UInt8) : ∀ (k : Nat) (s : List UInt8), s.count c ≤ k → Lib.splitK [c] 0 k s = splitW c s
  | 0, s, h => by
    rw [Lib.splitK, split_none (List.count_eq_zero.1 (Nat.le_zero.1 h))]
  | k + 1, s, h => by
    rw [Lib.splitK, Lib.index_one, Fld.index_cut]
    cases hc : Fld.cutB c s with
    | none => simp only [beq_self_eq_true, if_true]; rw [split_none (Fld.cutB_none.1 hc)]
    | some p =>
      obtain ⟨e1, e2⟩ := Fld.cutB_some.1 (show Fld.cutB c s = some (p.1, p.2) from hc)
      have hne : ¬ (((p.1.length : Int)) == -1) = true := by rw [beq_iff_eq]; omega
      simp only [if_neg hne, Int.toNat_natCast, Nat.add_zero]
      have hcnt : p.2.count c ≤ k := by
        rw [e1, List.count_append, List.count_cons_self] at h; omega
      rw [e1, List.take_left, split_at e2]
      congr 1
      have : List.drop (p.1.length + [c].length) (p.1 ++ c :: p.2) = p.2 := by simp
      rw [this]; exact split_lib c k p.2 hcnt
theorem join_lib (c : UInt8) : ∀ l : List (List UInt8), Lib.join l [c] = joinW c l
  | [] => rfl
  | [a] => Lib.join_one a [c]
  | a :: b :: l => by
    have ih := join_lib c (b :: l)
    unfold Lib.join at ih ⊢
    rw [joinW, ← ih]
    simp [List.intercalate, List.intersperse]
theorem tsplit_c (s : List UInt8) (c : UInt8) (hs : s.length < 4294967281) : ACalls E 20 [str s, str [c]] (fun r t => r = .sl (some 0) 1 ((splitW c s).map str) ∧ t = [(splitW c s).length]) := by
  refine ACalls.of_strs (ty := 9) fun w im vs hok hg him hpw => ?_
  obtain ⟨hn, hp⟩ := hpw
  match vs, hn with
  | [v0, v1], _ =>
    have h0 := hp 0 _ v0 rfl rfl
    have h1 := hp 1 _ v1 rfl rfl
    cases h0; cases h1
    obtain ⟨m, hm⟩ := hok.1.2.2
    have hsz : (⟨s.toArray⟩ : ByteArray).size = s.length := by simp [ByteArray.size]
    refine (Tryz.strings_Split ⟨s.toArray⟩ ⟨[c].toArray⟩ m w (by rw [hsz]; exact hs) hm (by simp [ByteArray.size])).mono ?_
    rintro e w' ⟨rfl, rfl⟩
    have hcnt : Lib.countB ⟨s.toArray⟩ ⟨[c].toArray⟩ = s.count c := Lib.count_one c s
    have hd := Lib.splitB_data ⟨[c].toArray⟩ 0 (s.count c) ⟨s.toArray⟩
    have hd2 : (Lib.splitB ⟨[c].toArray⟩ 0 (s.count c) ⟨s.toArray⟩).map (·.data.toList) = splitW c s := hd.trans (split_lib c _ s (Nat.le_refl _))
    have hv : (Lib.splitB ⟨[c].toArray⟩ 0 (s.count c) ⟨s.toArray⟩).map Value.string = (splitW c s).map Go.Proofs.encStr := by
      rw [← hd2, List.map_map]
      exact List.map_congr_left fun b _ => by simp [Go.Proofs.encStr]
    rw [hcnt, hv]
    have hl : (splitW c s).length = s.count c + 1 := split_len c s
    have hcl := List.count_le_length (a := c) (l := s)
    refine ⟨_, rfl, ?_, (Go.RowKit.Below.refl _ w).alloc (Nat.le_refl _) _⟩
    rw [← hl]
    refine ⟨by simp, .inr ⟨w.heap.size, (splitW c s).length, _, rfl, Nat.le_refl _, World.alloc_heap_new w _, Nat.le_refl _, ?_, by simp, List.take_of_length_le (by simp)⟩⟩
    rw [hl]
    exact Nat.le_trans (by omega : s.count c + 1 ≤ 4294967282) (by decide)
theorem sl_strs {im : Im} {w : World} (him : ∀ (b o : Nat) (x : Value), im b o = some x → w.cell? ⟨b, o, none⟩ = some x) {l : List (List UInt8)} (hne : l ≠ []) {v : Value} (h0 : VR0 im (.sl none 1 (l.map str)) v) :
    ∃ b o cap, v = .slice (some ⟨b, o, none⟩) l.length cap ∧ l.length ≤ cap ∧ ∀ i s, l[i]? = some s → w.cell? ⟨b, o + i, none⟩ = some (.string ⟨s.toArray⟩) := by
  obtain ⟨a, cap, rfl, hcap, hes⟩ := h0.inv_sl
  rcases hes with h | ⟨b, o, rfl, hk, cv, hm, h1, hv⟩
  · exact absurd (by simpa using h) hne
  refine ⟨b, o, cap, by simp, by simpa using hcap, fun i s hi => ?_⟩
  have he : (l.map str)[i]? = some (str s) := by rw [List.getElem?_map, hi]; rfl
  have h2 := hm i _ 0 _ he rfl
  have h3 := hv i _ 0 _ he rfl
  have h4 := him _ _ _ h2
  generalize cv i 0 = z at h3 h4
  cases h3
  simpa using h4
theorem tjoin_c (l : List (List UInt8)) (c : UInt8) (hne : l ≠ []) (hn : l.length ≤ 1000) (hj : (joinW c l).length ≤ 100000) : ACalls E 18 [.sl none 1 (l.map str), str [c]] (fun r t => r = str (joinW c l) ∧ t = []) := by
  intro w im vs hok hg him hpw
  obtain ⟨hn', hp⟩ := hpw
  match vs, hn' with
  | [v0, v1], _ =>
    have h0 := hp 0 _ v0 rfl rfl
    have h1 := hp 1 _ v1 rfl rfl
    cases h1
    obtain ⟨b, o, cap, rfl, hcap, hcell⟩ := sl_strs him hne h0
    have hdl : (l.map fun s => (⟨s.toArray⟩ : ByteArray)).map (·.data.toList) = l := by
      rw [List.map_map]; conv => rhs; rw [← List.map_id l]
      exact List.map_congr_left fun b _ => by simp
    have hlt : b < w.heap.size := by
      obtain ⟨x, r, hl⟩ := List.exists_cons_of_ne_nil hne
      exact World.block_lt_of_cell? _ ⟨b, o + 0, none⟩ (hcell 0 x (by rw [hl]; rfl))
    have hlen : (l.map fun s => (⟨s.toArray⟩ : ByteArray)).length = l.length := List.length_map _
    have key := Tryz.strings_Join b o cap (l.map fun s => (⟨s.toArray⟩ : ByteArray)) ⟨[c].toArray⟩ w (fun j x hx => by
      rw [List.getElem?_map] at hx
      cases hj' : l[j]? with
      | none => simp [hj'] at hx
      | some s =>
        simp only [hj', Option.map_some, Option.some.injEq] at hx
        subst hx
        exact hcell j s hj') hlt (by rw [hlen]; omega) (by rw [hlen]; exact hcap) (by rw [hdl, show ([c].toArray).toList = [c] from rfl, join_lib]; omega)
    rw [hlen] at key
    refine key.mono ?_
    rintro e w' ⟨rfl, hb⟩
    rw [hdl, show ([c].toArray).toList = [c] from rfl, join_lib]
    exact ⟨_, _, [], im, rfl, kb hb, .refl _, fun _ _ _ => rfl, fun b o x h => cell_mono hb (him b o x h), ⟨by simp, by simp⟩, .base (.v _), rfl, rfl⟩
theorem may_of {a : Ak} (h : (putK a).2 = 0) : mayA a = true := by
  cases hm : mayA a
  · rw [putK_no hm] at h; exact absurd h (by decide)
  · rfl
theorem join_words {a : Ak} (h : mayA a = true) : ACalls E 18 [.sl none 1 ((wordsA a).map str), str [32]] (fun r t => r = str (joinW 32 (wordsA a)) ∧ t = []) :=
  tjoin_c (wordsA a) 32 (words_ne a) (by have := (clean_words h).2.1; omega) (by have := show_short h; omega)
theorem showA_ok {a : Ak} (h : (putK a).2 = 0) : showA a = (joinW 32 (wordsA a), 0) := by unfold showA; rw [if_pos (may_of h)]
theorem showA_no {a : Ak} (h : ¬ (putK a).2 = 0) : showA a = ([], 1) := by
  unfold showA; rw [if_neg]; intro hm; rw [putK_ok hm] at h; exact h rfl

set_option maxHeartbeats 4000000 in
set_option maxRecDepth 8000 in
theorem place_c (tb : List (List UInt8)) (w : List UInt8) (ht : tb.length = 9) : ACalls E 21 [.agg (tb.map str), str w] (fun r t => r = i64 (placeF tb w) ∧ t = []) := by -- checkroll/text.place
  refine ACalls.of_awp (n := 16) (rs := [.tmp 4]) Tryz.func21 rfl Tryz.ntmps21 rfl ?_
  repeat' (first
    | refine AWP.seqk fun K hK => ?_
    | (refine AWP.region ?_; simp only [go_sem])
    | (refine hK _ ?_; clear hK K)
    | refine AWP.block ?_
    | refine AWP.cond rfl (fun c => ?_) (fun c => ?_) <;> first | exact Bool.noConfusion c | (try simp only [dD] at c)
    | refine AWP.skip ?_
    | (refine AWP.exit ?_; simp only [go_sem])
    | (refine AGet.haveM (by assumption) ?_; (try simp only [go_sem]))
    | (refine AGet.have' (by assumption) ?_; (try simp only [go_sem]))
    | ((first | refine AGet.nth ?_ (fun b hb => ?_) | refine AGet.nth1 ?_ (fun b hb => ?_) | with_reducible refine And.intro ?_ ?_); (focus (first | omega | assumption | exact List.length_pos_iff.2 (by assumption) | (simp only [List.length_append, List.length_cons, List.length_nil, List.length_map, List.length_take, List.length_drop] at *; omega) | (rw [wrap64_id (by omega) (by omega)]; omega) | (simp; done) | (simp [spare_len]; done) | (exact ⟨by omega, by omega⟩))); (try simp only [hb, go_sem]))
    | (
        refine AWP.here 2 6 2 rfl ?_
        refine AWP.loopN (ι := Nat) [4, 6, 7, 8, 9, 10, 11, 12, 13, 14, 15] (fun (i : Nat) => [(5, i64 (i : Int))]) (fun (i : Nat) => 1 ≤ i ∧ i ≤ 9 ∧ placeF tb w = placeGo w (tb.drop i) i) (fun (i : Nat) => 9 - i) (1) ?_ ?_ ?_
        · (try simp only [go_sem]); (repeat' (first | exact .inr (strs_bel _) | exact .inr ⟨rfl, strs_bel _⟩ | exact .inr (strs_box _) | exact .inr ⟨rfl, strs_box _⟩ | refine And.intro ?_ ?_ | exact .inl rfl | exact .inr rfl | exact .inr ⟨rfl, rfl⟩ | trivial | exact .inr (oblA rfl) | exact .inr ⟨rfl, oblA rfl⟩ | exact .inr bel_strs | exact .inr ⟨rfl, bel_strs⟩ | exact .inr ⟨by simp, bel_strs⟩ | (simp; done) | exact .inr ⟨rfl, by simp⟩ | exact .inr ⟨by simp, by simp⟩)); done
        · exact ⟨by omega, by omega, rfl⟩
        rintro i ⟨h1, h2, h3⟩
        simp only [go_sem])
    | (
        refine ⟨i + 1, ?_, ?_, ?_⟩
        · (try simp only [go_sem]); (try rw [wrap64_id (by omega) (by omega)]); (repeat' (first | exact .inr (strs_bel _) | exact .inr ⟨rfl, strs_bel _⟩ | exact .inr (strs_box _) | exact .inr ⟨rfl, strs_box _⟩ | refine And.intro ?_ ?_ | exact .inl rfl | exact .inr rfl | exact .inr ⟨rfl, rfl⟩ | trivial | exact .inr (oblA rfl) | exact .inr ⟨rfl, oblA rfl⟩ | exact .inr bel_strs | exact .inr ⟨rfl, bel_strs⟩ | exact .inr ⟨by simp, bel_strs⟩ | (simp; done) | exact .inr ⟨rfl, by simp⟩ | exact .inr ⟨by simp, by simp⟩)); done
        · exact ⟨by omega, by omega, place_next hb h3 (by assumption)⟩
        · (try simp only []); omega)
    | (
        refine AWP.ret ?_
        refine AEnd.is ?_; simp only [go_sem, out_v, out_s, out_n, v_int, v_bool, v_str] <;> (first | (rw [place_hit hb h3 (by assumption)]; done) | (rw [place_end h3 (by omega)]; done) | skip))
    | (refine ⟨strs_leafy _, ?_⟩; (try simp only [go_sem]))
    | refine AWP.fin (by assumption) ?_
    | fail)

set_option maxHeartbeats 4000000 in
set_option maxRecDepth 8000 in
theorem number_c (s : List UInt8) : ACalls E 45 [str s] (fun r t => r = i64 (numW s) ∧ t = []) := by -- checkroll/text.number
  refine ACalls.of_awp (n := 13) (rs := [.tmp 2]) Tryz.func45 rfl Tryz.ntmps45 rfl ?_
  repeat' (first
    | refine AWP.seqk fun K hK => ?_
    | (refine AWP.region ?_; simp only [go_sem])
    | (refine hK _ ?_; clear hK K)
    | refine AWP.block ?_
    | refine AWP.cond rfl (fun c => ?_) (fun c => ?_) <;> first | exact Bool.noConfusion c | (try simp only [dD] at c)
    | refine AWP.skip ?_
    | (refine AWP.exit ?_; simp only [go_sem])
    | (refine ACall.one (nparse_c s) (by kernel_rfl) rfl ?_; simp only [go_sem])
    | (refine AGet.haveM (by assumption) ?_; (try simp only [go_sem]))
    | (refine AGet.have' (by assumption) ?_; (try simp only [go_sem]))
    | ((first | refine AGet.nth ?_ (fun b hb => ?_) | refine AGet.nth1 ?_ (fun b hb => ?_) | with_reducible refine And.intro ?_ ?_); (focus (first | omega | assumption | exact List.length_pos_iff.2 (by assumption) | (simp only [List.length_append, List.length_cons, List.length_nil, List.length_map, List.length_take, List.length_drop] at *; omega) | (rw [wrap64_id (by omega) (by omega)]; omega) | (simp; done) | (simp [spare_len]; done) | (exact ⟨by omega, by omega⟩))); (try simp only [hb, go_sem]))
    | (
        refine AWP.ret ?_
        refine AEnd.is ?_; simp only [go_sem, out_v, out_s, out_n, v_int, v_bool, v_str] <;> (first | (rw [nb_neg (by assumption)]; done) | (rw [nb_eq (by assumption)]; done) | skip))
    | refine AWP.fin (by assumption) ?_
    | fail)

set_option maxHeartbeats 4000000 in
set_option maxRecDepth 8000 in
theorem words_c (a : Ak) (ha : mayA a = true) : ACalls E 19 [akV a] (fun r t => r = .sl none 1 ((wordsA a).map str) ∧ t = []) := by -- checkroll/text.words
  have hk := may_kind ha
  have hkn := name_at (l := Txt.askN) (k := a.kind) rfl (by omega)
  refine ACalls.of_awp (n := 138) (rs := [.tmp 2]) Tryz.func19 rfl Tryz.ntmps19 rfl ?_
  repeat' (first
    | refine AWP.seqk fun K hK => ?_
    | (
        refine AWP.here 2 14 9 rfl ?_
        refine AWP.regionO [0, 1, 2, 3, 4, 5, 6, 7, 8] [] (by kernel_rfl) (by kernel_rfl) rfl ?_; simp only [go_sem, hkn])
    | (
        refine AWP.here 9 60 34 rfl ?_
        have hxk := (exec_ok (exec_may ha (by assumption))).kind
        have hxn := name_at (l := Txt.exN) (k := a.exec.kind) rfl (by have := (exec_ok (exec_may ha (by assumption))).kind; omega)
        refine AWP.regionAs [0, 1, 2, 3, 4, 5, 6, 7, 8, 9, 10, 11, 12, 14, 15, 16, 17, 18, 19, 20, 21, 23, 24, 26, 27, 29, 30, 13, 22, 25, 28, 31, 32, 33] [[], [], [], [2], [2, 3], [2, 3, 4], [], [6], [], [8], [8, 9], [], [11], [8, 9, 10, 11, 12], [], [14], [], [16], [], [18], [], [20], [8, 9, 10, 11, 12, 13, 20, 21], [], [23], [8, 9, 10, 11, 12, 13, 20, 21, 22, 23, 24], [], [26], [8, 9, 10, 11, 12, 13, 20, 21, 22, 23, 24, 25, 26, 27], [], [29], [8, 9, 10, 11, 12, 13, 20, 21, 22, 23, 24, 25, 26, 27, 28, 29, 30], [0, 1, 2, 3, 4, 5, 6, 7, 8, 9, 10, 11, 12, 13, 14, 15, 16, 17, 18, 19, 20, 21, 22, 23, 24, 25, 26, 27, 28, 29, 30, 31], [0, 1, 2, 3, 4, 5, 6, 7, 8, 9, 10, 11, 12, 13, 14, 15, 16, 17, 18, 19, 20, 21, 22, 23, 24, 25, 26, 27, 28, 29, 30, 31, 32]] [] (by kernel_rfl) (by kernel_rfl) (by decide) rfl ?_; simp only [go_sem, hxn])
    | (refine AWP.region ?_; simp only [go_sem])
    | (refine AWP.here 1 8 12 rfl ?_; apply AWP.regionAnyJ (.take 0 (.take 1 (.take 2 (.take 4 (.fork (.alt 3 (.fork (.alt 5 (.take 6 (.take 7 (.take 8 (.take 9 (.take 10 (.take 11 .done)))))) (.alt 6 (.fork (.alt 5 (.take 7 (.take 8 (.take 9 (.take 10 (.take 11 .done))))) (.alt 7 (.fork (.alt 5 (.take 8 (.take 9 (.take 10 (.take 11 .done)))) (.alt 8 (.fork (.alt 5 (.take 9 (.take 10 (.take 11 .done))) (.alt 9 (.fork (.alt 5 (.take 10 (.take 11 .done)) (.alt 10 (.take 5 (.take 11 .done)) .ends))) .ends))) .ends))) (.alt 8 (.fork (.alt 5 (.take 7 (.take 9 (.take 10 (.take 11 .done)))) (.alt 7 (.fork (.alt 5 (.take 9 (.take 10 (.take 11 .done))) (.alt 9 (.fork (.alt 5 (.take 10 (.take 11 .done)) (.alt 10 (.take 5 (.take 11 .done)) .ends))) .ends))) .ends))) .ends)))) (.alt 7 (.fork (.alt 5 (.take 6 (.take 8 (.take 9 (.take 10 (.take 11 .done))))) (.alt 6 (.fork (.alt 5 (.take 8 (.take 9 (.take 10 (.take 11 .done)))) (.alt 8 (.fork (.alt 5 (.take 9 (.take 10 (.take 11 .done))) (.alt 9 (.fork (.alt 5 (.take 10 (.take 11 .done)) (.alt 10 (.take 5 (.take 11 .done)) .ends))) .ends))) .ends))) (.alt 8 (.fork (.alt 5 (.take 6 (.take 9 (.take 10 (.take 11 .done)))) (.alt 6 (.fork (.alt 5 (.take 9 (.take 10 (.take 11 .done))) (.alt 9 (.fork (.alt 5 (.take 10 (.take 11 .done)) (.alt 10 (.take 5 (.take 11 .done)) .ends))) .ends))) .ends))) .ends)))) (.alt 8 (.fork (.alt 5 (.take 6 (.take 7 (.take 9 (.take 10 (.take 11 .done))))) (.alt 6 (.fork (.alt 5 (.take 7 (.take 9 (.take 10 (.take 11 .done)))) (.alt 7 (.fork (.alt 5 (.take 9 (.take 10 (.take 11 .done))) (.alt 9 (.fork (.alt 5 (.take 10 (.take 11 .done)) (.alt 10 (.take 5 (.take 11 .done)) .ends))) .ends))) .ends))) (.alt 7 (.fork (.alt 5 (.take 6 (.take 9 (.take 10 (.take 11 .done)))) (.alt 6 (.fork (.alt 5 (.take 9 (.take 10 (.take 11 .done))) (.alt 9 (.fork (.alt 5 (.take 10 (.take 11 .done)) (.alt 10 (.take 5 (.take 11 .done)) .ends))) .ends))) .ends))) .ends)))) .ends))))) (.alt 5 (.fork (.alt 3 (.take 6 (.take 7 (.take 8 (.take 9 (.take 10 (.take 11 .done)))))) (.alt 6 (.fork (.alt 3 (.take 7 (.take 8 (.take 9 (.take 10 (.take 11 .done))))) (.alt 7 (.fork (.alt 3 (.take 8 (.take 9 (.take 10 (.take 11 .done)))) (.alt 8 (.fork (.alt 3 (.take 9 (.take 10 (.take 11 .done))) (.alt 9 (.take 3 (.take 10 (.take 11 .done))) .ends))) .ends))) (.alt 8 (.fork (.alt 3 (.take 7 (.take 9 (.take 10 (.take 11 .done)))) (.alt 7 (.fork (.alt 3 (.take 9 (.take 10 (.take 11 .done))) (.alt 9 (.take 3 (.take 10 (.take 11 .done))) .ends))) .ends))) .ends)))) (.alt 7 (.fork (.alt 3 (.take 6 (.take 8 (.take 9 (.take 10 (.take 11 .done))))) (.alt 6 (.fork (.alt 3 (.take 8 (.take 9 (.take 10 (.take 11 .done)))) (.alt 8 (.fork (.alt 3 (.take 9 (.take 10 (.take 11 .done))) (.alt 9 (.take 3 (.take 10 (.take 11 .done))) .ends))) .ends))) (.alt 8 (.fork (.alt 3 (.take 6 (.take 9 (.take 10 (.take 11 .done)))) (.alt 6 (.fork (.alt 3 (.take 9 (.take 10 (.take 11 .done))) (.alt 9 (.take 3 (.take 10 (.take 11 .done))) .ends))) .ends))) .ends)))) (.alt 8 (.fork (.alt 3 (.take 6 (.take 7 (.take 9 (.take 10 (.take 11 .done))))) (.alt 6 (.fork (.alt 3 (.take 7 (.take 9 (.take 10 (.take 11 .done)))) (.alt 7 (.fork (.alt 3 (.take 9 (.take 10 (.take 11 .done))) (.alt 9 (.take 3 (.take 10 (.take 11 .done))) .ends))) .ends))) (.alt 7 (.fork (.alt 3 (.take 6 (.take 9 (.take 10 (.take 11 .done)))) (.alt 6 (.fork (.alt 3 (.take 9 (.take 10 (.take 11 .done))) (.alt 9 (.take 3 (.take 10 (.take 11 .done))) .ends))) .ends))) .ends)))) .ends))))) (.alt 6 (.fork (.alt 3 (.fork (.alt 5 (.take 7 (.take 8 (.take 9 (.take 10 (.take 11 .done))))) (.alt 7 (.fork (.alt 5 (.take 8 (.take 9 (.take 10 (.take 11 .done)))) (.alt 8 (.fork (.alt 5 (.take 9 (.take 10 (.take 11 .done))) (.alt 9 (.fork (.alt 5 (.take 10 (.take 11 .done)) (.alt 10 (.take 5 (.take 11 .done)) .ends))) .ends))) .ends))) (.alt 8 (.fork (.alt 5 (.take 7 (.take 9 (.take 10 (.take 11 .done)))) (.alt 7 (.fork (.alt 5 (.take 9 (.take 10 (.take 11 .done))) (.alt 9 (.fork (.alt 5 (.take 10 (.take 11 .done)) (.alt 10 (.take 5 (.take 11 .done)) .ends))) .ends))) .ends))) .ends)))) (.alt 5 (.fork (.alt 3 (.take 7 (.take 8 (.take 9 (.take 10 (.take 11 .done))))) (.alt 7 (.fork (.alt 3 (.take 8 (.take 9 (.take 10 (.take 11 .done)))) (.alt 8 (.fork (.alt 3 (.take 9 (.take 10 (.take 11 .done))) (.alt 9 (.take 3 (.take 10 (.take 11 .done))) .ends))) .ends))) (.alt 8 (.fork (.alt 3 (.take 7 (.take 9 (.take 10 (.take 11 .done)))) (.alt 7 (.fork (.alt 3 (.take 9 (.take 10 (.take 11 .done))) (.alt 9 (.take 3 (.take 10 (.take 11 .done))) .ends))) .ends))) .ends)))) (.alt 7 (.fork (.alt 3 (.fork (.alt 5 (.take 8 (.take 9 (.take 10 (.take 11 .done)))) (.alt 8 (.fork (.alt 5 (.take 9 (.take 10 (.take 11 .done))) (.alt 9 (.fork (.alt 5 (.take 10 (.take 11 .done)) (.alt 10 (.take 5 (.take 11 .done)) .ends))) .ends))) .ends))) (.alt 5 (.fork (.alt 3 (.take 8 (.take 9 (.take 10 (.take 11 .done)))) (.alt 8 (.fork (.alt 3 (.take 9 (.take 10 (.take 11 .done))) (.alt 9 (.take 3 (.take 10 (.take 11 .done))) .ends))) .ends))) (.alt 8 (.fork (.alt 3 (.fork (.alt 5 (.take 9 (.take 10 (.take 11 .done))) (.alt 9 (.fork (.alt 5 (.take 10 (.take 11 .done)) (.alt 10 (.take 5 (.take 11 .done)) .ends))) .ends))) (.alt 5 (.fork (.alt 3 (.take 9 (.take 10 (.take 11 .done))) (.alt 9 (.take 3 (.take 10 (.take 11 .done))) .ends))) (.alt 9 (.take 3 (.fork (.alt 5 (.take 10 (.take 11 .done)) (.alt 10 (.take 5 (.take 11 .done)) .ends)))) .ends)))) .ends)))) (.alt 8 (.fork (.alt 3 (.fork (.alt 5 (.take 7 (.take 9 (.take 10 (.take 11 .done)))) (.alt 7 (.fork (.alt 5 (.take 9 (.take 10 (.take 11 .done))) (.alt 9 (.fork (.alt 5 (.take 10 (.take 11 .done)) (.alt 10 (.take 5 (.take 11 .done)) .ends))) .ends))) .ends))) (.alt 5 (.fork (.alt 3 (.take 7 (.take 9 (.take 10 (.take 11 .done)))) (.alt 7 (.fork (.alt 3 (.take 9 (.take 10 (.take 11 .done))) (.alt 9 (.take 3 (.take 10 (.take 11 .done))) .ends))) .ends))) (.alt 7 (.fork (.alt 3 (.fork (.alt 5 (.take 9 (.take 10 (.take 11 .done))) (.alt 9 (.fork (.alt 5 (.take 10 (.take 11 .done)) (.alt 10 (.take 5 (.take 11 .done)) .ends))) .ends))) (.alt 5 (.fork (.alt 3 (.take 9 (.take 10 (.take 11 .done))) (.alt 9 (.take 3 (.take 10 (.take 11 .done))) .ends))) (.alt 9 (.take 3 (.fork (.alt 5 (.take 10 (.take 11 .done)) (.alt 10 (.take 5 (.take 11 .done)) .ends)))) .ends)))) .ends)))) .ends))))) (.alt 7 (.fork (.alt 3 (.fork (.alt 5 (.take 6 (.take 8 (.take 9 (.take 10 (.take 11 .done))))) (.alt 6 (.fork (.alt 5 (.take 8 (.take 9 (.take 10 (.take 11 .done)))) (.alt 8 (.fork (.alt 5 (.take 9 (.take 10 (.take 11 .done))) (.alt 9 (.fork (.alt 5 (.take 10 (.take 11 .done)) (.alt 10 (.take 5 (.take 11 .done)) .ends))) .ends))) .ends))) (.alt 8 (.fork (.alt 5 (.take 6 (.take 9 (.take 10 (.take 11 .done)))) (.alt 6 (.fork (.alt 5 (.take 9 (.take 10 (.take 11 .done))) (.alt 9 (.fork (.alt 5 (.take 10 (.take 11 .done)) (.alt 10 (.take 5 (.take 11 .done)) .ends))) .ends))) .ends))) .ends)))) (.alt 5 (.fork (.alt 3 (.take 6 (.take 8 (.take 9 (.take 10 (.take 11 .done))))) (.alt 6 (.fork (.alt 3 (.take 8 (.take 9 (.take 10 (.take 11 .done)))) (.alt 8 (.fork (.alt 3 (.take 9 (.take 10 (.take 11 .done))) (.alt 9 (.take 3 (.take 10 (.take 11 .done))) .ends))) .ends))) (.alt 8 (.fork (.alt 3 (.take 6 (.take 9 (.take 10 (.take 11 .done)))) (.alt 6 (.fork (.alt 3 (.take 9 (.take 10 (.take 11 .done))) (.alt 9 (.take 3 (.take 10 (.take 11 .done))) .ends))) .ends))) .ends)))) (.alt 6 (.fork (.alt 3 (.fork (.alt 5 (.take 8 (.take 9 (.take 10 (.take 11 .done)))) (.alt 8 (.fork (.alt 5 (.take 9 (.take 10 (.take 11 .done))) (.alt 9 (.fork (.alt 5 (.take 10 (.take 11 .done)) (.alt 10 (.take 5 (.take 11 .done)) .ends))) .ends))) .ends))) (.alt 5 (.fork (.alt 3 (.take 8 (.take 9 (.take 10 (.take 11 .done)))) (.alt 8 (.fork (.alt 3 (.take 9 (.take 10 (.take 11 .done))) (.alt 9 (.take 3 (.take 10 (.take 11 .done))) .ends))) .ends))) (.alt 8 (.fork (.alt 3 (.fork (.alt 5 (.take 9 (.take 10 (.take 11 .done))) (.alt 9 (.fork (.alt 5 (.take 10 (.take 11 .done)) (.alt 10 (.take 5 (.take 11 .done)) .ends))) .ends))) (.alt 5 (.fork (.alt 3 (.take 9 (.take 10 (.take 11 .done))) (.alt 9 (.take 3 (.take 10 (.take 11 .done))) .ends))) (.alt 9 (.take 3 (.fork (.alt 5 (.take 10 (.take 11 .done)) (.alt 10 (.take 5 (.take 11 .done)) .ends)))) .ends)))) .ends)))) (.alt 8 (.fork (.alt 3 (.fork (.alt 5 (.take 6 (.take 9 (.take 10 (.take 11 .done)))) (.alt 6 (.fork (.alt 5 (.take 9 (.take 10 (.take 11 .done))) (.alt 9 (.fork (.alt 5 (.take 10 (.take 11 .done)) (.alt 10 (.take 5 (.take 11 .done)) .ends))) .ends))) .ends))) (.alt 5 (.fork (.alt 3 (.take 6 (.take 9 (.take 10 (.take 11 .done)))) (.alt 6 (.fork (.alt 3 (.take 9 (.take 10 (.take 11 .done))) (.alt 9 (.take 3 (.take 10 (.take 11 .done))) .ends))) .ends))) (.alt 6 (.fork (.alt 3 (.fork (.alt 5 (.take 9 (.take 10 (.take 11 .done))) (.alt 9 (.fork (.alt 5 (.take 10 (.take 11 .done)) (.alt 10 (.take 5 (.take 11 .done)) .ends))) .ends))) (.alt 5 (.fork (.alt 3 (.take 9 (.take 10 (.take 11 .done))) (.alt 9 (.take 3 (.take 10 (.take 11 .done))) .ends))) (.alt 9 (.take 3 (.fork (.alt 5 (.take 10 (.take 11 .done)) (.alt 10 (.take 5 (.take 11 .done)) .ends)))) .ends)))) .ends)))) .ends))))) (.alt 8 (.fork (.alt 3 (.fork (.alt 5 (.take 6 (.take 7 (.take 9 (.take 10 (.take 11 .done))))) (.alt 6 (.fork (.alt 5 (.take 7 (.take 9 (.take 10 (.take 11 .done)))) (.alt 7 (.fork (.alt 5 (.take 9 (.take 10 (.take 11 .done))) (.alt 9 (.fork (.alt 5 (.take 10 (.take 11 .done)) (.alt 10 (.take 5 (.take 11 .done)) .ends))) .ends))) .ends))) (.alt 7 (.fork (.alt 5 (.take 6 (.take 9 (.take 10 (.take 11 .done)))) (.alt 6 (.fork (.alt 5 (.take 9 (.take 10 (.take 11 .done))) (.alt 9 (.fork (.alt 5 (.take 10 (.take 11 .done)) (.alt 10 (.take 5 (.take 11 .done)) .ends))) .ends))) .ends))) .ends)))) (.alt 5 (.fork (.alt 3 (.take 6 (.take 7 (.take 9 (.take 10 (.take 11 .done))))) (.alt 6 (.fork (.alt 3 (.take 7 (.take 9 (.take 10 (.take 11 .done)))) (.alt 7 (.fork (.alt 3 (.take 9 (.take 10 (.take 11 .done))) (.alt 9 (.take 3 (.take 10 (.take 11 .done))) .ends))) .ends))) (.alt 7 (.fork (.alt 3 (.take 6 (.take 9 (.take 10 (.take 11 .done)))) (.alt 6 (.fork (.alt 3 (.take 9 (.take 10 (.take 11 .done))) (.alt 9 (.take 3 (.take 10 (.take 11 .done))) .ends))) .ends))) .ends)))) (.alt 6 (.fork (.alt 3 (.fork (.alt 5 (.take 7 (.take 9 (.take 10 (.take 11 .done)))) (.alt 7 (.fork (.alt 5 (.take 9 (.take 10 (.take 11 .done))) (.alt 9 (.fork (.alt 5 (.take 10 (.take 11 .done)) (.alt 10 (.take 5 (.take 11 .done)) .ends))) .ends))) .ends))) (.alt 5 (.fork (.alt 3 (.take 7 (.take 9 (.take 10 (.take 11 .done)))) (.alt 7 (.fork (.alt 3 (.take 9 (.take 10 (.take 11 .done))) (.alt 9 (.take 3 (.take 10 (.take 11 .done))) .ends))) .ends))) (.alt 7 (.fork (.alt 3 (.fork (.alt 5 (.take 9 (.take 10 (.take 11 .done))) (.alt 9 (.fork (.alt 5 (.take 10 (.take 11 .done)) (.alt 10 (.take 5 (.take 11 .done)) .ends))) .ends))) (.alt 5 (.fork (.alt 3 (.take 9 (.take 10 (.take 11 .done))) (.alt 9 (.take 3 (.take 10 (.take 11 .done))) .ends))) (.alt 9 (.take 3 (.fork (.alt 5 (.take 10 (.take 11 .done)) (.alt 10 (.take 5 (.take 11 .done)) .ends)))) .ends)))) .ends)))) (.alt 7 (.fork (.alt 3 (.fork (.alt 5 (.take 6 (.take 9 (.take 10 (.take 11 .done)))) (.alt 6 (.fork (.alt 5 (.take 9 (.take 10 (.take 11 .done))) (.alt 9 (.fork (.alt 5 (.take 10 (.take 11 .done)) (.alt 10 (.take 5 (.take 11 .done)) .ends))) .ends))) .ends))) (.alt 5 (.fork (.alt 3 (.take 6 (.take 9 (.take 10 (.take 11 .done)))) (.alt 6 (.fork (.alt 3 (.take 9 (.take 10 (.take 11 .done))) (.alt 9 (.take 3 (.take 10 (.take 11 .done))) .ends))) .ends))) (.alt 6 (.fork (.alt 3 (.fork (.alt 5 (.take 9 (.take 10 (.take 11 .done))) (.alt 9 (.fork (.alt 5 (.take 10 (.take 11 .done)) (.alt 10 (.take 5 (.take 11 .done)) .ends))) .ends))) (.alt 5 (.fork (.alt 3 (.take 9 (.take 10 (.take 11 .done))) (.alt 9 (.take 3 (.take 10 (.take 11 .done))) .ends))) (.alt 9 (.take 3 (.fork (.alt 5 (.take 10 (.take 11 .done)) (.alt 10 (.take 5 (.take 11 .done)) .ends)))) .ends)))) .ends)))) .ends))))) .ends)))))))))) [[], [0], [], [2], [], [4], [], [], [], [0, 1, 6, 7, 8], [0, 1, 2, 3, 6, 7, 8, 9], [0, 1, 2, 3, 4, 5, 6, 7, 8, 9, 10]] [3, 4, 5] (by kernel_rfl) (by kernel_rfl) (by decide); simp only [go_sem])
    | (refine AWP.here 2 14 9 rfl ?_; refine AWP.regionO [0, 1, 2, 3, 4, 5, 6, 7, 8] [] (by kernel_rfl) (by kernel_rfl) rfl ?_; simp only [go_sem])
    | (refine AWP.here 5 25 19 rfl ?_; refine AWP.regionO [0, 1, 2, 3, 4, 5, 6, 7, 8, 9, 11, 12, 14, 15, 10, 13, 16, 17, 18] [] (by kernel_rfl) (by kernel_rfl) rfl ?_; simp only [go_sem])
    | (refine AWP.here 7 45 14 rfl ?_; refine AWP.regionO [0, 1, 2, 3, 4, 5, 6, 7, 9, 10, 8, 11, 12, 13] [] (by kernel_rfl) (by kernel_rfl) rfl ?_; simp only [go_sem])
    | (refine AWP.here 9 60 34 rfl ?_; refine AWP.regionAs [0, 1, 2, 3, 4, 5, 6, 7, 8, 9, 10, 11, 12, 14, 15, 16, 17, 18, 19, 20, 21, 23, 24, 26, 27, 29, 30, 13, 22, 25, 28, 31, 32, 33] [[], [], [], [2], [2, 3], [2, 3, 4], [], [6], [], [8], [8, 9], [], [11], [8, 9, 10, 11, 12], [], [14], [], [16], [], [18], [], [20], [8, 9, 10, 11, 12, 13, 20, 21], [], [23], [8, 9, 10, 11, 12, 13, 20, 21, 22, 23, 24], [], [26], [8, 9, 10, 11, 12, 13, 20, 21, 22, 23, 24, 25, 26, 27], [], [29], [8, 9, 10, 11, 12, 13, 20, 21, 22, 23, 24, 25, 26, 27, 28, 29, 30], [0, 1, 2, 3, 4, 5, 6, 7, 8, 9, 10, 11, 12, 13, 14, 15, 16, 17, 18, 19, 20, 21, 22, 23, 24, 25, 26, 27, 28, 29, 30, 31], [0, 1, 2, 3, 4, 5, 6, 7, 8, 9, 10, 11, 12, 13, 14, 15, 16, 17, 18, 19, 20, 21, 22, 23, 24, 25, 26, 27, 28, 29, 30, 31, 32]] [] (by kernel_rfl) (by kernel_rfl) (by decide) rfl ?_; simp only [go_sem])
    | (refine AWP.here 17 117 19 rfl ?_; refine AWP.regionO [0, 1, 2, 3, 4, 5, 6, 8, 9, 11, 12, 14, 15, 7, 10, 13, 16, 17, 18] [] (by kernel_rfl) (by kernel_rfl) rfl ?_; simp only [go_sem])
    | (refine hK _ ?_; clear hK K)
    | refine AWP.block ?_
    | refine AWP.cond rfl (fun c => ?_) (fun c => ?_) <;> first | exact Bool.noConfusion c | (try simp only [dD] at c)
    | refine AWP.skip ?_
    | (refine AWP.exit ?_; simp only [go_sem])
    | (refine ACall.one (nshow_c _) (by kernel_rfl) rfl ?_; simp only [go_sem])
    | (refine ACall.one (choose_c _ _ _) (by kernel_rfl) rfl ?_; simp only [go_sem])
    | (refine AGet.haveM (by assumption) ?_; (try simp only [go_sem]))
    | (refine AGet.have' (by assumption) ?_; (try simp only [go_sem]))
    | ((first | refine AGet.nth ?_ (fun b hb => ?_) | refine AGet.nth1 ?_ (fun b hb => ?_) | with_reducible refine And.intro ?_ ?_); (focus (first | omega | assumption | exact List.length_pos_iff.2 (by assumption) | (simp only [List.length_append, List.length_cons, List.length_nil, List.length_map, List.length_take, List.length_drop] at *; omega) | (rw [wrap64_id (by omega) (by omega)]; omega) | (simp; done) | (simp [spare_len]; done) | (exact ⟨by omega, by omega⟩))); (try simp only [hb, go_sem]))
    | exact rfl
    | refine And.intro (a := ACall _ _ _ _ _ _ _ _) ?_ ?_
    | refine And.intro (a := AGet _ _) ?_ ?_
    | refine And.intro (a := AGuard _ _ _ _ _ _ _) ?_ ?_
    | (
        refine AWP.ret ?_
        refine AEnd.is ?_; simp only [go_sem, out_v, out_s, out_n, v_int, v_bool, v_str] <;> (first
        | (rw [words1 (by assumption)]; simp [*, sideW]; done) | (rw [words2 (by assumption)]; simp [*]; done) | (rw [words3 (by assumption)]; simp [*, sideW, refW]; done) | (rw [words4 (by assumption)]; simp [*]; done) | (rw [words5 (by assumption)]; simp [*, onW]; done) | (rw [words6 (by assumption)]; simp [*, onW]; done) | (rw [words8 (by assumption)]; simp [*]; done)
        | (have k7 : a.kind = 7 := by omega
           rw [words7 k7]; simp [k7]; done) | skip))
    | refine AWP.fin (by assumption) ?_
    | fail)

set_option maxHeartbeats 4000000 in
set_option maxRecDepth 8000 in
theorem tshow_c (a : Ak) : ACalls E 8 [akV a] (fun r t => r = .tup [str (showA a).1, i64 (showA a).2] ∧ t = []) := by -- checkroll/text.Show
  refine ACalls.of_awp (n := 16) (rs := [.tmp 2, .tmp 3]) Tryz.func8 rfl Tryz.ntmps8 rfl ?_
  repeat' (first
    | refine AWP.seqk fun K hK => ?_
    | (refine AWP.region ?_; simp only [go_sem])
    | (refine hK _ ?_; clear hK K)
    | refine AWP.block ?_
    | refine AWP.cond rfl (fun c => ?_) (fun c => ?_) <;> first | exact Bool.noConfusion c | (try simp only [dD] at c)
    | refine AWP.skip ?_
    | (refine AWP.exit ?_; simp only [go_sem])
    | (refine ACall.one (kput_c a) (by kernel_rfl) rfl ?_; simp only [go_sem])
    | (refine ACall.one (words_c a (may_of (by assumption))) (by kernel_rfl) rfl ?_; simp only [go_sem])
    | (refine ACall.one (join_words (may_of (by assumption))) (by kernel_rfl) rfl ?_; simp only [go_sem])
    | (refine AGet.haveM (by assumption) ?_; (try simp only [go_sem]))
    | (refine AGet.have' (by assumption) ?_; (try simp only [go_sem]))
    | ((first | refine AGet.nth ?_ (fun b hb => ?_) | refine AGet.nth1 ?_ (fun b hb => ?_) | with_reducible refine And.intro ?_ ?_); (focus (first | omega | assumption | exact List.length_pos_iff.2 (by assumption) | (simp only [List.length_append, List.length_cons, List.length_nil, List.length_map, List.length_take, List.length_drop] at *; omega) | (rw [wrap64_id (by omega) (by omega)]; omega) | (simp; done) | (simp [spare_len]; done) | (exact ⟨by omega, by omega⟩))); (try simp only [hb, go_sem]))
    | (
        refine AWP.ret ?_
        refine AEnd.is ?_; simp only [go_sem, out_v, out_s, out_n, v_int, v_bool, v_str] <;> (first | (rw [showA_no (by assumption)]; simp; done) | (rw [showA_ok (by assumption)]; simp; done) | skip))
    | refine AWP.fin (by assumption) ?_
    | fail)


end Go.Proofs.YtfchlkeekmabfaaGreatDoor
end
section
set_option linter.unusedVariables false
set_option linter.unusedSimpArgs false
namespace Go.Proofs.YtfchlkeekmabfaaGreatDoor
open Go Go.Abs Go.RowKit Go.Bk Go.Msg Go.Txt
theorem tab_ex : (9 ≤ (tabV Txt.exN).length) = True := eq_true (by decide)
theorem tab_ask : (9 ≤ (tabV Txt.askN).length) = True := eq_true (by decide)
theorem wd_at {l : List (List UInt8)} {i : Nat} {b : List UInt8} (h : l[i]? = some b) : wd l i = b := by unfold wd; rw [List.getD_eq_getElem?_getD, h]; rfl
theorem wd_end {l : List (List UInt8)} {i : Nat} (h : l.length ≤ i) : wd l i = [] := by unfold wd; rw [List.getD_eq_getElem?_getD, List.getElem?_eq_none h]; rfl
theorem split_le (c : UInt8) (s : List UInt8) : (splitW c s).length ≤ s.length + 1 := by rw [split_len]; have := List.count_le_length (a := c) (l := s); omega
theorem asked_k1 {k : Int} {l : List (List UInt8)} (h : k = 1) : askedA k l = ⟨1, numW (wd l 1), ⟨wd l 2, wd l 3, wd l 4, decide (wd l 5 = [98, 117, 121]), numW (wd l 6), numW (wd l 7), 0, false⟩, [], zeroX, 0, false, Txt.zeroL⟩ := by unfold askedA; rw [if_pos h]
theorem asked_k2 {k : Int} {l : List (List UInt8)} (h : k = 2) : askedA k l = ⟨2, numW (wd l 1), ⟨wd l 3, [], [], false, numW (wd l 4), numW (wd l 5), 0, false⟩, wd l 2, zeroX, 0, false, Txt.zeroL⟩ := by unfold askedA; rw [if_neg (by omega), if_pos h]
theorem asked_k3 {k : Int} {l : List (List UInt8)} (h : k = 3) : askedA k l = ⟨3, numW (wd l 1), Txt.zeroO, [], ⟨wd l 3, refB (wd l 4), wd l 5, wd l 6, wd l 7, Txt.placeF exN (wd l 2), decide (wd l 8 = [98, 117, 121]), numW (wd l 9), numW (wd l 10), numW (wd l 11)⟩, 0, false, Txt.zeroL⟩ := by unfold askedA; rw [if_neg (by omega), if_neg (by omega), if_pos h]
theorem asked_k4 {k : Int} {l : List (List UInt8)} (h : k = 4) : askedA k l = ⟨4, 0, Txt.zeroO, [], zeroX, numW (wd l 1), false, Txt.zeroL⟩ := by unfold askedA; rw [if_neg (by omega), if_neg (by omega), if_neg (by omega), if_pos h]
theorem asked_k5 {k : Int} {l : List (List UInt8)} (h : k = 5) : askedA k l = ⟨5, 0, Txt.zeroO, [], zeroX, 0, decide (wd l 1 = [111, 110]), Txt.zeroL⟩ := by unfold askedA; rw [if_neg (by omega), if_neg (by omega), if_neg (by omega), if_neg (by omega), if_pos h]
theorem asked_k6 {k : Int} {l : List (List UInt8)} (h : k = 6) : askedA k l = ⟨6, numW (wd l 1), Txt.zeroO, [], zeroX, 0, decide (wd l 2 = [111, 110]), Txt.zeroL⟩ := by unfold askedA; rw [if_neg (by omega), if_neg (by omega), if_neg (by omega), if_neg (by omega), if_neg (by omega), if_pos h]
theorem asked_k8 {k : Int} {l : List (List UInt8)} (h : k = 8) : askedA k l = ⟨8, 0, Txt.zeroO, [], zeroX, 0, false, ⟨wd l 1, wd l 2, numW (wd l 3), numW (wd l 4), numW (wd l 5), numW (wd l 6)⟩⟩ := by unfold askedA; rw [if_neg (by omega), if_neg (by omega), if_neg (by omega), if_neg (by omega), if_neg (by omega), if_neg (by omega), if_pos h]
theorem asked_k7 {k : Int} {l : List (List UInt8)} (h : k = 7) : askedA k l = ⟨k, numW (wd l 1), Txt.zeroO, [], zeroX, 0, false, Txt.zeroL⟩ := by unfold askedA; rw [if_neg (by omega), if_neg (by omega), if_neg (by omega), if_neg (by omega), if_neg (by omega), if_neg (by omega), if_neg (by omega)]

set_option maxHeartbeats 4000000 in
set_option maxRecDepth 8000 in
theorem word_c (l : List (List UInt8)) (i : Nat) (hl : l.length ≤ 100000) : ACalls E 44 [i64 (i : Int), .rptr [.sl none 1 (l.map str)]] (fun r t => r = str (wd l i) ∧ t = []) := by -- checkroll/text.asked$1
  refine ACalls.of_awp (n := 12) (rs := [.tmp 3]) Tryz.func44 rfl Tryz.ntmps44 rfl ?_
  repeat' (first
    | refine AWP.seqk fun K hK => ?_
    | (refine AWP.region ?_; simp only [go_sem])
    | (refine hK _ ?_; clear hK K)
    | refine AWP.block ?_
    | refine AWP.cond rfl (fun c => ?_) (fun c => ?_) <;> first | exact Bool.noConfusion c | (try simp only [dD] at c)
    | refine AWP.skip ?_
    | (refine AWP.exit ?_; simp only [go_sem])
    | (refine AGet.haveM (by assumption) ?_; (try simp only [go_sem]))
    | (refine AGet.have' (by assumption) ?_; (try simp only [go_sem]))
    | ((first | refine AGet.nth ?_ (fun b hb => ?_) | refine AGet.nth1 ?_ (fun b hb => ?_) | with_reducible refine And.intro ?_ ?_); (focus (first | omega | assumption | exact List.length_pos_iff.2 (by assumption) | (simp only [List.length_append, List.length_cons, List.length_nil, List.length_map, List.length_take, List.length_drop] at *; omega) | (rw [wrap64_id (by omega) (by omega)]; omega) | (simp; done) | (simp [spare_len]; done) | (exact ⟨by omega, by omega⟩))); (try simp only [hb, go_sem]))
    | (
        refine AWP.ret ?_
        refine AEnd.is ?_; simp only [go_sem, out_v, out_s, out_n, v_int, v_bool, v_str] <;> (first | (rw [wd_at hb]; done) | (rw [wd_end (by omega)]) | skip))
    | refine AWP.fin (by assumption) ?_
    | fail)


end Go.Proofs.YtfchlkeekmabfaaGreatDoor
end
section
set_option linter.unusedVariables false
set_option linter.unusedSimpArgs false
namespace Go.Proofs.YtfchlkeekmabfaaGreatDoor
open Go Go.Abs Go.RowKit Go.Bk Go.Msg Go.Txt
theorem word_z (l : List (List UInt8)) (z : Int) (hz : 0 ≤ z) (hl : l.length ≤ 100000) : ACalls E 44 [i64 z, .rptr [.sl none 1 (l.map str)]] (fun r t => r = str (wd l z.toNat) ∧ t = []) := by
  have := word_c l z.toNat hl
  rwa [Int.toNat_of_nonneg hz] at this

set_option maxHeartbeats 4000000 in
set_option maxRecDepth 8000 in
theorem asked_1 (l : List (List UInt8)) (hl : l.length ≤ 100000) : ACalls E 22 [i64 1, .sl none 1 (l.map str)] (fun r t => r = akV (askedA 1 l) ∧ t = []) := by -- #ask1
  refine ACalls.of_awp (n := 131) (rs := [.cell 4 29]) Tryz.func22 rfl Tryz.ntmps22 rfl ?_
  repeat' (first
    | refine AWP.seqk fun K hK => ?_
    | (
        refine AWP.here 1 7 2 rfl ?_
        refine AWP.publish 3 0 (.agg [.sl none 1 (l.map str)]) rfl rfl (by intro x hx; have hx2 : x ∈ [AV.sl none 1 (l.map str)] := hx; rw [List.mem_singleton] at hx2; subst hx2; rfl) ?_
        simp only [go_sem]
        refine AWP.region ?_; simp only [go_sem])
    | (
        refine AWP.here 17 58 29 rfl ?_
        refine AWP.regionAs [0, 1, 4, 6, 8, 10, 12, 14, 17, 20, 23, 2, 3, 5, 7, 9, 11, 13, 15, 16, 18, 19, 21, 22, 24, 25, 26, 27, 28] [[], [], [1], [0, 1, 2], [], [0, 1, 2, 3, 4], [], [0, 1, 2, 3, 4, 5, 6], [], [0, 1, 2, 3, 4, 5, 6, 7, 8], [], [0, 1, 2, 3, 4, 5, 6, 7, 8, 9, 10], [], [0, 1, 2, 3, 4, 5, 6, 7, 8, 9, 10, 11, 12], [], [0, 1, 2, 3, 4, 5, 6, 7, 8, 9, 10, 11, 12, 13, 14], [0, 1, 2, 3, 4, 5, 6, 7, 8, 9, 10, 11, 12, 13, 14, 15], [], [0, 1, 2, 3, 4, 5, 6, 7, 8, 9, 10, 11, 12, 13, 14, 15, 17], [0, 1, 2, 3, 4, 5, 6, 7, 8, 9, 10, 11, 12, 13, 14, 15, 17, 18], [], [0, 1, 2, 3, 4, 5, 6, 7, 8, 9, 10, 11, 12, 13, 14, 15, 17, 18, 19, 20], [0, 1, 2, 3, 4, 5, 6, 7, 8, 9, 10, 11, 12, 13, 14, 15, 17, 18, 19, 20, 21], [], [0, 1, 2, 3, 4, 5, 6, 7, 8, 9, 10, 11, 12, 13, 14, 15, 17, 18, 19, 20, 21, 22, 23], [0, 1, 2, 3, 4, 5, 6, 7, 8, 9, 10, 11, 12, 13, 14, 15, 17, 18, 19, 20, 21, 22, 23, 24], [0, 1, 2, 3, 4, 5, 6, 7, 8, 9, 10, 11, 12, 13, 14, 15, 16, 17, 18, 19, 20, 21, 22, 23, 24, 25], [0, 1, 2, 3, 4, 5, 6, 7, 8, 9, 10, 11, 12, 13, 14, 15, 16, 17, 18, 19, 20, 21, 22, 23, 24, 25, 26], [0, 1, 2, 3, 4, 5, 6, 7, 8, 9, 10, 11, 12, 13, 14, 15, 16, 17, 18, 19, 20, 21, 22, 23, 24, 25, 26, 27]] [] (by kernel_rfl) (by kernel_rfl) (by decide) rfl ?_; simp only [go_sem, tab_ex, true_and])
    | (refine AWP.region ?_; simp only [go_sem])
    | (refine AWP.here 17 58 29 rfl ?_; refine AWP.regionAs [0, 1, 4, 6, 8, 10, 12, 14, 17, 20, 23, 2, 3, 5, 7, 9, 11, 13, 15, 16, 18, 19, 21, 22, 24, 25, 26, 27, 28] [[], [], [1], [0, 1, 2], [], [0, 1, 2, 3, 4], [], [0, 1, 2, 3, 4, 5, 6], [], [0, 1, 2, 3, 4, 5, 6, 7, 8], [], [0, 1, 2, 3, 4, 5, 6, 7, 8, 9, 10], [], [0, 1, 2, 3, 4, 5, 6, 7, 8, 9, 10, 11, 12], [], [0, 1, 2, 3, 4, 5, 6, 7, 8, 9, 10, 11, 12, 13, 14], [0, 1, 2, 3, 4, 5, 6, 7, 8, 9, 10, 11, 12, 13, 14, 15], [], [0, 1, 2, 3, 4, 5, 6, 7, 8, 9, 10, 11, 12, 13, 14, 15, 17], [0, 1, 2, 3, 4, 5, 6, 7, 8, 9, 10, 11, 12, 13, 14, 15, 17, 18], [], [0, 1, 2, 3, 4, 5, 6, 7, 8, 9, 10, 11, 12, 13, 14, 15, 17, 18, 19, 20], [0, 1, 2, 3, 4, 5, 6, 7, 8, 9, 10, 11, 12, 13, 14, 15, 17, 18, 19, 20, 21], [], [0, 1, 2, 3, 4, 5, 6, 7, 8, 9, 10, 11, 12, 13, 14, 15, 17, 18, 19, 20, 21, 22, 23], [0, 1, 2, 3, 4, 5, 6, 7, 8, 9, 10, 11, 12, 13, 14, 15, 17, 18, 19, 20, 21, 22, 23, 24], [0, 1, 2, 3, 4, 5, 6, 7, 8, 9, 10, 11, 12, 13, 14, 15, 16, 17, 18, 19, 20, 21, 22, 23, 24, 25], [0, 1, 2, 3, 4, 5, 6, 7, 8, 9, 10, 11, 12, 13, 14, 15, 16, 17, 18, 19, 20, 21, 22, 23, 24, 25, 26], [0, 1, 2, 3, 4, 5, 6, 7, 8, 9, 10, 11, 12, 13, 14, 15, 16, 17, 18, 19, 20, 21, 22, 23, 24, 25, 26, 27]] [] (by kernel_rfl) (by kernel_rfl) (by decide) rfl ?_; simp only [go_sem])
    | (refine hK _ ?_; clear hK K)
    | refine AWP.block ?_
    | refine AWP.cond rfl (fun c => ?_) (fun c => ?_) <;> first | exact Bool.noConfusion c | (try simp only [dD] at c)
    | refine AWP.skip ?_
    | (refine AWP.exit ?_; simp only [go_sem])
    | (refine ACall.one (number_c _) (by kernel_rfl) rfl ?_; simp only [go_sem])
    | (refine ACall.one (place_c Txt.exN _ rfl) (by kernel_rfl) rfl ?_; simp only [go_sem])
    | (refine ACall.one (word_z l _ (by decide) hl) (by kernel_rfl) rfl ?_; simp only [go_sem])
    | (refine AGet.haveM (by assumption) ?_; (try simp only [go_sem]))
    | (refine AGet.have' (by assumption) ?_; (try simp only [go_sem]))
    | ((first | refine AGet.nth ?_ (fun b hb => ?_) | refine AGet.nth1 ?_ (fun b hb => ?_) | with_reducible refine And.intro ?_ ?_); (focus (first | omega | assumption | exact List.length_pos_iff.2 (by assumption) | (simp only [List.length_append, List.length_cons, List.length_nil, List.length_map, List.length_take, List.length_drop] at *; omega) | (rw [wrap64_id (by omega) (by omega)]; omega) | (simp; done) | (simp [spare_len]; done) | (exact ⟨by omega, by omega⟩))); (try simp only [hb, go_sem]))
    | (
        refine AWP.ret ?_
        refine AEnd.is ?_; simp only [go_sem, out_v, out_s, out_n, v_int, v_bool, v_str] <;> (first | (rw [asked_k1 rfl]; simp [*, zeroX, Txt.zeroO, Txt.zeroL, refB]; done) | (rw [asked_k1 rfl]; simp [*]; done) | skip))
    | refine AWP.fin (by assumption) ?_
    | fail)

set_option maxHeartbeats 4000000 in
set_option maxRecDepth 8000 in
theorem asked_2 (l : List (List UInt8)) (hl : l.length ≤ 100000) : ACalls E 22 [i64 2, .sl none 1 (l.map str)] (fun r t => r = akV (askedA 2 l) ∧ t = []) := by -- #ask2
  refine ACalls.of_awp (n := 131) (rs := [.cell 4 29]) Tryz.func22 rfl Tryz.ntmps22 rfl ?_
  repeat' (first
    | refine AWP.seqk fun K hK => ?_
    | (
        refine AWP.here 1 7 2 rfl ?_
        refine AWP.publish 3 0 (.agg [.sl none 1 (l.map str)]) rfl rfl (by intro x hx; have hx2 : x ∈ [AV.sl none 1 (l.map str)] := hx; rw [List.mem_singleton] at hx2; subst hx2; rfl) ?_
        simp only [go_sem]
        refine AWP.region ?_; simp only [go_sem])
    | (
        refine AWP.here 17 58 29 rfl ?_
        refine AWP.regionAs [0, 1, 4, 6, 8, 10, 12, 14, 17, 20, 23, 2, 3, 5, 7, 9, 11, 13, 15, 16, 18, 19, 21, 22, 24, 25, 26, 27, 28] [[], [], [1], [0, 1, 2], [], [0, 1, 2, 3, 4], [], [0, 1, 2, 3, 4, 5, 6], [], [0, 1, 2, 3, 4, 5, 6, 7, 8], [], [0, 1, 2, 3, 4, 5, 6, 7, 8, 9, 10], [], [0, 1, 2, 3, 4, 5, 6, 7, 8, 9, 10, 11, 12], [], [0, 1, 2, 3, 4, 5, 6, 7, 8, 9, 10, 11, 12, 13, 14], [0, 1, 2, 3, 4, 5, 6, 7, 8, 9, 10, 11, 12, 13, 14, 15], [], [0, 1, 2, 3, 4, 5, 6, 7, 8, 9, 10, 11, 12, 13, 14, 15, 17], [0, 1, 2, 3, 4, 5, 6, 7, 8, 9, 10, 11, 12, 13, 14, 15, 17, 18], [], [0, 1, 2, 3, 4, 5, 6, 7, 8, 9, 10, 11, 12, 13, 14, 15, 17, 18, 19, 20], [0, 1, 2, 3, 4, 5, 6, 7, 8, 9, 10, 11, 12, 13, 14, 15, 17, 18, 19, 20, 21], [], [0, 1, 2, 3, 4, 5, 6, 7, 8, 9, 10, 11, 12, 13, 14, 15, 17, 18, 19, 20, 21, 22, 23], [0, 1, 2, 3, 4, 5, 6, 7, 8, 9, 10, 11, 12, 13, 14, 15, 17, 18, 19, 20, 21, 22, 23, 24], [0, 1, 2, 3, 4, 5, 6, 7, 8, 9, 10, 11, 12, 13, 14, 15, 16, 17, 18, 19, 20, 21, 22, 23, 24, 25], [0, 1, 2, 3, 4, 5, 6, 7, 8, 9, 10, 11, 12, 13, 14, 15, 16, 17, 18, 19, 20, 21, 22, 23, 24, 25, 26], [0, 1, 2, 3, 4, 5, 6, 7, 8, 9, 10, 11, 12, 13, 14, 15, 16, 17, 18, 19, 20, 21, 22, 23, 24, 25, 26, 27]] [] (by kernel_rfl) (by kernel_rfl) (by decide) rfl ?_; simp only [go_sem, tab_ex, true_and])
    | (refine AWP.region ?_; simp only [go_sem])
    | (refine AWP.here 17 58 29 rfl ?_; refine AWP.regionAs [0, 1, 4, 6, 8, 10, 12, 14, 17, 20, 23, 2, 3, 5, 7, 9, 11, 13, 15, 16, 18, 19, 21, 22, 24, 25, 26, 27, 28] [[], [], [1], [0, 1, 2], [], [0, 1, 2, 3, 4], [], [0, 1, 2, 3, 4, 5, 6], [], [0, 1, 2, 3, 4, 5, 6, 7, 8], [], [0, 1, 2, 3, 4, 5, 6, 7, 8, 9, 10], [], [0, 1, 2, 3, 4, 5, 6, 7, 8, 9, 10, 11, 12], [], [0, 1, 2, 3, 4, 5, 6, 7, 8, 9, 10, 11, 12, 13, 14], [0, 1, 2, 3, 4, 5, 6, 7, 8, 9, 10, 11, 12, 13, 14, 15], [], [0, 1, 2, 3, 4, 5, 6, 7, 8, 9, 10, 11, 12, 13, 14, 15, 17], [0, 1, 2, 3, 4, 5, 6, 7, 8, 9, 10, 11, 12, 13, 14, 15, 17, 18], [], [0, 1, 2, 3, 4, 5, 6, 7, 8, 9, 10, 11, 12, 13, 14, 15, 17, 18, 19, 20], [0, 1, 2, 3, 4, 5, 6, 7, 8, 9, 10, 11, 12, 13, 14, 15, 17, 18, 19, 20, 21], [], [0, 1, 2, 3, 4, 5, 6, 7, 8, 9, 10, 11, 12, 13, 14, 15, 17, 18, 19, 20, 21, 22, 23], [0, 1, 2, 3, 4, 5, 6, 7, 8, 9, 10, 11, 12, 13, 14, 15, 17, 18, 19, 20, 21, 22, 23, 24], [0, 1, 2, 3, 4, 5, 6, 7, 8, 9, 10, 11, 12, 13, 14, 15, 16, 17, 18, 19, 20, 21, 22, 23, 24, 25], [0, 1, 2, 3, 4, 5, 6, 7, 8, 9, 10, 11, 12, 13, 14, 15, 16, 17, 18, 19, 20, 21, 22, 23, 24, 25, 26], [0, 1, 2, 3, 4, 5, 6, 7, 8, 9, 10, 11, 12, 13, 14, 15, 16, 17, 18, 19, 20, 21, 22, 23, 24, 25, 26, 27]] [] (by kernel_rfl) (by kernel_rfl) (by decide) rfl ?_; simp only [go_sem])
    | (refine hK _ ?_; clear hK K)
    | refine AWP.block ?_
    | refine AWP.cond rfl (fun c => ?_) (fun c => ?_) <;> first | exact Bool.noConfusion c | (try simp only [dD] at c)
    | refine AWP.skip ?_
    | (refine AWP.exit ?_; simp only [go_sem])
    | (refine ACall.one (number_c _) (by kernel_rfl) rfl ?_; simp only [go_sem])
    | (refine ACall.one (place_c Txt.exN _ rfl) (by kernel_rfl) rfl ?_; simp only [go_sem])
    | (refine ACall.one (word_z l _ (by decide) hl) (by kernel_rfl) rfl ?_; simp only [go_sem])
    | (refine AGet.haveM (by assumption) ?_; (try simp only [go_sem]))
    | (refine AGet.have' (by assumption) ?_; (try simp only [go_sem]))
    | ((first | refine AGet.nth ?_ (fun b hb => ?_) | refine AGet.nth1 ?_ (fun b hb => ?_) | with_reducible refine And.intro ?_ ?_); (focus (first | omega | assumption | exact List.length_pos_iff.2 (by assumption) | (simp only [List.length_append, List.length_cons, List.length_nil, List.length_map, List.length_take, List.length_drop] at *; omega) | (rw [wrap64_id (by omega) (by omega)]; omega) | (simp; done) | (simp [spare_len]; done) | (exact ⟨by omega, by omega⟩))); (try simp only [hb, go_sem]))
    | (
        refine AWP.ret ?_
        refine AEnd.is ?_; simp only [go_sem, out_v, out_s, out_n, v_int, v_bool, v_str] <;> (first | (rw [asked_k2 rfl]; simp [*, zeroX, Txt.zeroO, Txt.zeroL, refB]; done) | (rw [asked_k2 rfl]; simp [*]; done) | skip))
    | refine AWP.fin (by assumption) ?_
    | fail)

set_option maxHeartbeats 4000000 in
set_option maxRecDepth 8000 in
theorem asked_3 (l : List (List UInt8)) (hl : l.length ≤ 100000) : ACalls E 22 [i64 3, .sl none 1 (l.map str)] (fun r t => r = akV (askedA 3 l) ∧ t = []) := by -- #ask3
  refine ACalls.of_awp (n := 131) (rs := [.cell 4 29]) Tryz.func22 rfl Tryz.ntmps22 rfl ?_
  repeat' (first
    | refine AWP.seqk fun K hK => ?_
    | (
        refine AWP.here 1 7 2 rfl ?_
        refine AWP.publish 3 0 (.agg [.sl none 1 (l.map str)]) rfl rfl (by intro x hx; have hx2 : x ∈ [AV.sl none 1 (l.map str)] := hx; rw [List.mem_singleton] at hx2; subst hx2; rfl) ?_
        simp only [go_sem]
        refine AWP.region ?_; simp only [go_sem])
    | (
        refine AWP.here 17 58 29 rfl ?_
        refine AWP.regionAs [0, 1, 4, 6, 8, 10, 12, 14, 17, 20, 23, 2, 3, 5, 7, 9, 11, 13, 15, 16, 18, 19, 21, 22, 24, 25, 26, 27, 28] [[], [], [1], [0, 1, 2], [], [0, 1, 2, 3, 4], [], [0, 1, 2, 3, 4, 5, 6], [], [0, 1, 2, 3, 4, 5, 6, 7, 8], [], [0, 1, 2, 3, 4, 5, 6, 7, 8, 9, 10], [], [0, 1, 2, 3, 4, 5, 6, 7, 8, 9, 10, 11, 12], [], [0, 1, 2, 3, 4, 5, 6, 7, 8, 9, 10, 11, 12, 13, 14], [0, 1, 2, 3, 4, 5, 6, 7, 8, 9, 10, 11, 12, 13, 14, 15], [], [0, 1, 2, 3, 4, 5, 6, 7, 8, 9, 10, 11, 12, 13, 14, 15, 17], [0, 1, 2, 3, 4, 5, 6, 7, 8, 9, 10, 11, 12, 13, 14, 15, 17, 18], [], [0, 1, 2, 3, 4, 5, 6, 7, 8, 9, 10, 11, 12, 13, 14, 15, 17, 18, 19, 20], [0, 1, 2, 3, 4, 5, 6, 7, 8, 9, 10, 11, 12, 13, 14, 15, 17, 18, 19, 20, 21], [], [0, 1, 2, 3, 4, 5, 6, 7, 8, 9, 10, 11, 12, 13, 14, 15, 17, 18, 19, 20, 21, 22, 23], [0, 1, 2, 3, 4, 5, 6, 7, 8, 9, 10, 11, 12, 13, 14, 15, 17, 18, 19, 20, 21, 22, 23, 24], [0, 1, 2, 3, 4, 5, 6, 7, 8, 9, 10, 11, 12, 13, 14, 15, 16, 17, 18, 19, 20, 21, 22, 23, 24, 25], [0, 1, 2, 3, 4, 5, 6, 7, 8, 9, 10, 11, 12, 13, 14, 15, 16, 17, 18, 19, 20, 21, 22, 23, 24, 25, 26], [0, 1, 2, 3, 4, 5, 6, 7, 8, 9, 10, 11, 12, 13, 14, 15, 16, 17, 18, 19, 20, 21, 22, 23, 24, 25, 26, 27]] [] (by kernel_rfl) (by kernel_rfl) (by decide) rfl ?_; simp only [go_sem, tab_ex, true_and])
    | (refine AWP.region ?_; simp only [go_sem])
    | (refine AWP.here 17 58 29 rfl ?_; refine AWP.regionAs [0, 1, 4, 6, 8, 10, 12, 14, 17, 20, 23, 2, 3, 5, 7, 9, 11, 13, 15, 16, 18, 19, 21, 22, 24, 25, 26, 27, 28] [[], [], [1], [0, 1, 2], [], [0, 1, 2, 3, 4], [], [0, 1, 2, 3, 4, 5, 6], [], [0, 1, 2, 3, 4, 5, 6, 7, 8], [], [0, 1, 2, 3, 4, 5, 6, 7, 8, 9, 10], [], [0, 1, 2, 3, 4, 5, 6, 7, 8, 9, 10, 11, 12], [], [0, 1, 2, 3, 4, 5, 6, 7, 8, 9, 10, 11, 12, 13, 14], [0, 1, 2, 3, 4, 5, 6, 7, 8, 9, 10, 11, 12, 13, 14, 15], [], [0, 1, 2, 3, 4, 5, 6, 7, 8, 9, 10, 11, 12, 13, 14, 15, 17], [0, 1, 2, 3, 4, 5, 6, 7, 8, 9, 10, 11, 12, 13, 14, 15, 17, 18], [], [0, 1, 2, 3, 4, 5, 6, 7, 8, 9, 10, 11, 12, 13, 14, 15, 17, 18, 19, 20], [0, 1, 2, 3, 4, 5, 6, 7, 8, 9, 10, 11, 12, 13, 14, 15, 17, 18, 19, 20, 21], [], [0, 1, 2, 3, 4, 5, 6, 7, 8, 9, 10, 11, 12, 13, 14, 15, 17, 18, 19, 20, 21, 22, 23], [0, 1, 2, 3, 4, 5, 6, 7, 8, 9, 10, 11, 12, 13, 14, 15, 17, 18, 19, 20, 21, 22, 23, 24], [0, 1, 2, 3, 4, 5, 6, 7, 8, 9, 10, 11, 12, 13, 14, 15, 16, 17, 18, 19, 20, 21, 22, 23, 24, 25], [0, 1, 2, 3, 4, 5, 6, 7, 8, 9, 10, 11, 12, 13, 14, 15, 16, 17, 18, 19, 20, 21, 22, 23, 24, 25, 26], [0, 1, 2, 3, 4, 5, 6, 7, 8, 9, 10, 11, 12, 13, 14, 15, 16, 17, 18, 19, 20, 21, 22, 23, 24, 25, 26, 27]] [] (by kernel_rfl) (by kernel_rfl) (by decide) rfl ?_; simp only [go_sem])
    | (refine hK _ ?_; clear hK K)
    | refine AWP.block ?_
    | refine AWP.cond rfl (fun c => ?_) (fun c => ?_) <;> first | exact Bool.noConfusion c | (try simp only [dD] at c)
    | refine AWP.skip ?_
    | (refine AWP.exit ?_; simp only [go_sem])
    | (refine ACall.one (number_c _) (by kernel_rfl) rfl ?_; simp only [go_sem])
    | (refine ACall.one (place_c Txt.exN _ rfl) (by kernel_rfl) rfl ?_; simp only [go_sem])
    | (refine ACall.one (word_z l _ (by decide) hl) (by kernel_rfl) rfl ?_; simp only [go_sem])
    | (refine AGet.haveM (by assumption) ?_; (try simp only [go_sem]))
    | (refine AGet.have' (by assumption) ?_; (try simp only [go_sem]))
    | ((first | refine AGet.nth ?_ (fun b hb => ?_) | refine AGet.nth1 ?_ (fun b hb => ?_) | with_reducible refine And.intro ?_ ?_); (focus (first | omega | assumption | exact List.length_pos_iff.2 (by assumption) | (simp only [List.length_append, List.length_cons, List.length_nil, List.length_map, List.length_take, List.length_drop] at *; omega) | (rw [wrap64_id (by omega) (by omega)]; omega) | (simp; done) | (simp [spare_len]; done) | (exact ⟨by omega, by omega⟩))); (try simp only [hb, go_sem]))
    | (
        refine AWP.ret ?_
        refine AEnd.is ?_; simp only [go_sem, out_v, out_s, out_n, v_int, v_bool, v_str] <;> (first | (rw [asked_k3 rfl]; simp [*, zeroX, Txt.zeroO, Txt.zeroL, refB]; done) | (rw [asked_k3 rfl]; simp [*]; done) | skip))
    | refine AWP.fin (by assumption) ?_
    | fail)

set_option maxHeartbeats 4000000 in
set_option maxRecDepth 8000 in
theorem asked_4 (l : List (List UInt8)) (hl : l.length ≤ 100000) : ACalls E 22 [i64 4, .sl none 1 (l.map str)] (fun r t => r = akV (askedA 4 l) ∧ t = []) := by -- #ask4
  refine ACalls.of_awp (n := 131) (rs := [.cell 4 29]) Tryz.func22 rfl Tryz.ntmps22 rfl ?_
  repeat' (first
    | refine AWP.seqk fun K hK => ?_
    | (
        refine AWP.here 1 7 2 rfl ?_
        refine AWP.publish 3 0 (.agg [.sl none 1 (l.map str)]) rfl rfl (by intro x hx; have hx2 : x ∈ [AV.sl none 1 (l.map str)] := hx; rw [List.mem_singleton] at hx2; subst hx2; rfl) ?_
        simp only [go_sem]
        refine AWP.region ?_; simp only [go_sem])
    | (
        refine AWP.here 17 58 29 rfl ?_
        refine AWP.regionAs [0, 1, 4, 6, 8, 10, 12, 14, 17, 20, 23, 2, 3, 5, 7, 9, 11, 13, 15, 16, 18, 19, 21, 22, 24, 25, 26, 27, 28] [[], [], [1], [0, 1, 2], [], [0, 1, 2, 3, 4], [], [0, 1, 2, 3, 4, 5, 6], [], [0, 1, 2, 3, 4, 5, 6, 7, 8], [], [0, 1, 2, 3, 4, 5, 6, 7, 8, 9, 10], [], [0, 1, 2, 3, 4, 5, 6, 7, 8, 9, 10, 11, 12], [], [0, 1, 2, 3, 4, 5, 6, 7, 8, 9, 10, 11, 12, 13, 14], [0, 1, 2, 3, 4, 5, 6, 7, 8, 9, 10, 11, 12, 13, 14, 15], [], [0, 1, 2, 3, 4, 5, 6, 7, 8, 9, 10, 11, 12, 13, 14, 15, 17], [0, 1, 2, 3, 4, 5, 6, 7, 8, 9, 10, 11, 12, 13, 14, 15, 17, 18], [], [0, 1, 2, 3, 4, 5, 6, 7, 8, 9, 10, 11, 12, 13, 14, 15, 17, 18, 19, 20], [0, 1, 2, 3, 4, 5, 6, 7, 8, 9, 10, 11, 12, 13, 14, 15, 17, 18, 19, 20, 21], [], [0, 1, 2, 3, 4, 5, 6, 7, 8, 9, 10, 11, 12, 13, 14, 15, 17, 18, 19, 20, 21, 22, 23], [0, 1, 2, 3, 4, 5, 6, 7, 8, 9, 10, 11, 12, 13, 14, 15, 17, 18, 19, 20, 21, 22, 23, 24], [0, 1, 2, 3, 4, 5, 6, 7, 8, 9, 10, 11, 12, 13, 14, 15, 16, 17, 18, 19, 20, 21, 22, 23, 24, 25], [0, 1, 2, 3, 4, 5, 6, 7, 8, 9, 10, 11, 12, 13, 14, 15, 16, 17, 18, 19, 20, 21, 22, 23, 24, 25, 26], [0, 1, 2, 3, 4, 5, 6, 7, 8, 9, 10, 11, 12, 13, 14, 15, 16, 17, 18, 19, 20, 21, 22, 23, 24, 25, 26, 27]] [] (by kernel_rfl) (by kernel_rfl) (by decide) rfl ?_; simp only [go_sem, tab_ex, true_and])
    | (refine AWP.region ?_; simp only [go_sem])
    | (refine AWP.here 17 58 29 rfl ?_; refine AWP.regionAs [0, 1, 4, 6, 8, 10, 12, 14, 17, 20, 23, 2, 3, 5, 7, 9, 11, 13, 15, 16, 18, 19, 21, 22, 24, 25, 26, 27, 28] [[], [], [1], [0, 1, 2], [], [0, 1, 2, 3, 4], [], [0, 1, 2, 3, 4, 5, 6], [], [0, 1, 2, 3, 4, 5, 6, 7, 8], [], [0, 1, 2, 3, 4, 5, 6, 7, 8, 9, 10], [], [0, 1, 2, 3, 4, 5, 6, 7, 8, 9, 10, 11, 12], [], [0, 1, 2, 3, 4, 5, 6, 7, 8, 9, 10, 11, 12, 13, 14], [0, 1, 2, 3, 4, 5, 6, 7, 8, 9, 10, 11, 12, 13, 14, 15], [], [0, 1, 2, 3, 4, 5, 6, 7, 8, 9, 10, 11, 12, 13, 14, 15, 17], [0, 1, 2, 3, 4, 5, 6, 7, 8, 9, 10, 11, 12, 13, 14, 15, 17, 18], [], [0, 1, 2, 3, 4, 5, 6, 7, 8, 9, 10, 11, 12, 13, 14, 15, 17, 18, 19, 20], [0, 1, 2, 3, 4, 5, 6, 7, 8, 9, 10, 11, 12, 13, 14, 15, 17, 18, 19, 20, 21], [], [0, 1, 2, 3, 4, 5, 6, 7, 8, 9, 10, 11, 12, 13, 14, 15, 17, 18, 19, 20, 21, 22, 23], [0, 1, 2, 3, 4, 5, 6, 7, 8, 9, 10, 11, 12, 13, 14, 15, 17, 18, 19, 20, 21, 22, 23, 24], [0, 1, 2, 3, 4, 5, 6, 7, 8, 9, 10, 11, 12, 13, 14, 15, 16, 17, 18, 19, 20, 21, 22, 23, 24, 25], [0, 1, 2, 3, 4, 5, 6, 7, 8, 9, 10, 11, 12, 13, 14, 15, 16, 17, 18, 19, 20, 21, 22, 23, 24, 25, 26], [0, 1, 2, 3, 4, 5, 6, 7, 8, 9, 10, 11, 12, 13, 14, 15, 16, 17, 18, 19, 20, 21, 22, 23, 24, 25, 26, 27]] [] (by kernel_rfl) (by kernel_rfl) (by decide) rfl ?_; simp only [go_sem])
    | (refine hK _ ?_; clear hK K)
    | refine AWP.block ?_
    | refine AWP.cond rfl (fun c => ?_) (fun c => ?_) <;> first | exact Bool.noConfusion c | (try simp only [dD] at c)
    | refine AWP.skip ?_
    | (refine AWP.exit ?_; simp only [go_sem])
    | (refine ACall.one (number_c _) (by kernel_rfl) rfl ?_; simp only [go_sem])
    | (refine ACall.one (place_c Txt.exN _ rfl) (by kernel_rfl) rfl ?_; simp only [go_sem])
    | (refine ACall.one (word_z l _ (by decide) hl) (by kernel_rfl) rfl ?_; simp only [go_sem])
    | (refine AGet.haveM (by assumption) ?_; (try simp only [go_sem]))
    | (refine AGet.have' (by assumption) ?_; (try simp only [go_sem]))
    | ((first | refine AGet.nth ?_ (fun b hb => ?_) | refine AGet.nth1 ?_ (fun b hb => ?_) | with_reducible refine And.intro ?_ ?_); (focus (first | omega | assumption | exact List.length_pos_iff.2 (by assumption) | (simp only [List.length_append, List.length_cons, List.length_nil, List.length_map, List.length_take, List.length_drop] at *; omega) | (rw [wrap64_id (by omega) (by omega)]; omega) | (simp; done) | (simp [spare_len]; done) | (exact ⟨by omega, by omega⟩))); (try simp only [hb, go_sem]))
    | (
        refine AWP.ret ?_
        refine AEnd.is ?_; simp only [go_sem, out_v, out_s, out_n, v_int, v_bool, v_str] <;> (first | (rw [asked_k4 rfl]; simp [*, zeroX, Txt.zeroO, Txt.zeroL, refB]; done) | (rw [asked_k4 rfl]; simp [*]; done) | skip))
    | refine AWP.fin (by assumption) ?_
    | fail)


end Go.Proofs.YtfchlkeekmabfaaGreatDoor
end
section
set_option linter.unusedVariables false
set_option linter.unusedSimpArgs false
namespace Go.Proofs.YtfchlkeekmabfaaGreatDoor
open Go Go.Abs Go.RowKit Go.Bk Go.Msg Go.Txt

set_option maxHeartbeats 4000000 in
set_option maxRecDepth 8000 in
theorem asked_5 (l : List (List UInt8)) (hl : l.length ≤ 100000) : ACalls E 22 [i64 5, .sl none 1 (l.map str)] (fun r t => r = akV (askedA 5 l) ∧ t = []) := by -- #ask5
  refine ACalls.of_awp (n := 131) (rs := [.cell 4 29]) Tryz.func22 rfl Tryz.ntmps22 rfl ?_
  repeat' (first
    | refine AWP.seqk fun K hK => ?_
    | (
        refine AWP.here 1 7 2 rfl ?_
        refine AWP.publish 3 0 (.agg [.sl none 1 (l.map str)]) rfl rfl (by intro x hx; have hx2 : x ∈ [AV.sl none 1 (l.map str)] := hx; rw [List.mem_singleton] at hx2; subst hx2; rfl) ?_
        simp only [go_sem]
        refine AWP.region ?_; simp only [go_sem])
    | (
        refine AWP.here 17 58 29 rfl ?_
        refine AWP.regionAs [0, 1, 4, 6, 8, 10, 12, 14, 17, 20, 23, 2, 3, 5, 7, 9, 11, 13, 15, 16, 18, 19, 21, 22, 24, 25, 26, 27, 28] [[], [], [1], [0, 1, 2], [], [0, 1, 2, 3, 4], [], [0, 1, 2, 3, 4, 5, 6], [], [0, 1, 2, 3, 4, 5, 6, 7, 8], [], [0, 1, 2, 3, 4, 5, 6, 7, 8, 9, 10], [], [0, 1, 2, 3, 4, 5, 6, 7, 8, 9, 10, 11, 12], [], [0, 1, 2, 3, 4, 5, 6, 7, 8, 9, 10, 11, 12, 13, 14], [0, 1, 2, 3, 4, 5, 6, 7, 8, 9, 10, 11, 12, 13, 14, 15], [], [0, 1, 2, 3, 4, 5, 6, 7, 8, 9, 10, 11, 12, 13, 14, 15, 17], [0, 1, 2, 3, 4, 5, 6, 7, 8, 9, 10, 11, 12, 13, 14, 15, 17, 18], [], [0, 1, 2, 3, 4, 5, 6, 7, 8, 9, 10, 11, 12, 13, 14, 15, 17, 18, 19, 20], [0, 1, 2, 3, 4, 5, 6, 7, 8, 9, 10, 11, 12, 13, 14, 15, 17, 18, 19, 20, 21], [], [0, 1, 2, 3, 4, 5, 6, 7, 8, 9, 10, 11, 12, 13, 14, 15, 17, 18, 19, 20, 21, 22, 23], [0, 1, 2, 3, 4, 5, 6, 7, 8, 9, 10, 11, 12, 13, 14, 15, 17, 18, 19, 20, 21, 22, 23, 24], [0, 1, 2, 3, 4, 5, 6, 7, 8, 9, 10, 11, 12, 13, 14, 15, 16, 17, 18, 19, 20, 21, 22, 23, 24, 25], [0, 1, 2, 3, 4, 5, 6, 7, 8, 9, 10, 11, 12, 13, 14, 15, 16, 17, 18, 19, 20, 21, 22, 23, 24, 25, 26], [0, 1, 2, 3, 4, 5, 6, 7, 8, 9, 10, 11, 12, 13, 14, 15, 16, 17, 18, 19, 20, 21, 22, 23, 24, 25, 26, 27]] [] (by kernel_rfl) (by kernel_rfl) (by decide) rfl ?_; simp only [go_sem, tab_ex, true_and])
    | (refine AWP.region ?_; simp only [go_sem])
    | (refine AWP.here 17 58 29 rfl ?_; refine AWP.regionAs [0, 1, 4, 6, 8, 10, 12, 14, 17, 20, 23, 2, 3, 5, 7, 9, 11, 13, 15, 16, 18, 19, 21, 22, 24, 25, 26, 27, 28] [[], [], [1], [0, 1, 2], [], [0, 1, 2, 3, 4], [], [0, 1, 2, 3, 4, 5, 6], [], [0, 1, 2, 3, 4, 5, 6, 7, 8], [], [0, 1, 2, 3, 4, 5, 6, 7, 8, 9, 10], [], [0, 1, 2, 3, 4, 5, 6, 7, 8, 9, 10, 11, 12], [], [0, 1, 2, 3, 4, 5, 6, 7, 8, 9, 10, 11, 12, 13, 14], [0, 1, 2, 3, 4, 5, 6, 7, 8, 9, 10, 11, 12, 13, 14, 15], [], [0, 1, 2, 3, 4, 5, 6, 7, 8, 9, 10, 11, 12, 13, 14, 15, 17], [0, 1, 2, 3, 4, 5, 6, 7, 8, 9, 10, 11, 12, 13, 14, 15, 17, 18], [], [0, 1, 2, 3, 4, 5, 6, 7, 8, 9, 10, 11, 12, 13, 14, 15, 17, 18, 19, 20], [0, 1, 2, 3, 4, 5, 6, 7, 8, 9, 10, 11, 12, 13, 14, 15, 17, 18, 19, 20, 21], [], [0, 1, 2, 3, 4, 5, 6, 7, 8, 9, 10, 11, 12, 13, 14, 15, 17, 18, 19, 20, 21, 22, 23], [0, 1, 2, 3, 4, 5, 6, 7, 8, 9, 10, 11, 12, 13, 14, 15, 17, 18, 19, 20, 21, 22, 23, 24], [0, 1, 2, 3, 4, 5, 6, 7, 8, 9, 10, 11, 12, 13, 14, 15, 16, 17, 18, 19, 20, 21, 22, 23, 24, 25], [0, 1, 2, 3, 4, 5, 6, 7, 8, 9, 10, 11, 12, 13, 14, 15, 16, 17, 18, 19, 20, 21, 22, 23, 24, 25, 26], [0, 1, 2, 3, 4, 5, 6, 7, 8, 9, 10, 11, 12, 13, 14, 15, 16, 17, 18, 19, 20, 21, 22, 23, 24, 25, 26, 27]] [] (by kernel_rfl) (by kernel_rfl) (by decide) rfl ?_; simp only [go_sem])
    | (refine hK _ ?_; clear hK K)
    | refine AWP.block ?_
    | refine AWP.cond rfl (fun c => ?_) (fun c => ?_) <;> first | exact Bool.noConfusion c | (try simp only [dD] at c)
    | refine AWP.skip ?_
    | (refine AWP.exit ?_; simp only [go_sem])
    | (refine ACall.one (number_c _) (by kernel_rfl) rfl ?_; simp only [go_sem])
    | (refine ACall.one (place_c Txt.exN _ rfl) (by kernel_rfl) rfl ?_; simp only [go_sem])
    | (refine ACall.one (word_z l _ (by decide) hl) (by kernel_rfl) rfl ?_; simp only [go_sem])
    | (refine AGet.haveM (by assumption) ?_; (try simp only [go_sem]))
    | (refine AGet.have' (by assumption) ?_; (try simp only [go_sem]))
    | ((first | refine AGet.nth ?_ (fun b hb => ?_) | refine AGet.nth1 ?_ (fun b hb => ?_) | with_reducible refine And.intro ?_ ?_); (focus (first | omega | assumption | exact List.length_pos_iff.2 (by assumption) | (simp only [List.length_append, List.length_cons, List.length_nil, List.length_map, List.length_take, List.length_drop] at *; omega) | (rw [wrap64_id (by omega) (by omega)]; omega) | (simp; done) | (simp [spare_len]; done) | (exact ⟨by omega, by omega⟩))); (try simp only [hb, go_sem]))
    | (
        refine AWP.ret ?_
        refine AEnd.is ?_; simp only [go_sem, out_v, out_s, out_n, v_int, v_bool, v_str] <;> (first | (rw [asked_k5 rfl]; simp [*, zeroX, Txt.zeroO, Txt.zeroL, refB]; done) | (rw [asked_k5 rfl]; simp [*]; done) | skip))
    | refine AWP.fin (by assumption) ?_
    | fail)

set_option maxHeartbeats 4000000 in
set_option maxRecDepth 8000 in
theorem asked_6 (l : List (List UInt8)) (hl : l.length ≤ 100000) : ACalls E 22 [i64 6, .sl none 1 (l.map str)] (fun r t => r = akV (askedA 6 l) ∧ t = []) := by -- #ask6
  refine ACalls.of_awp (n := 131) (rs := [.cell 4 29]) Tryz.func22 rfl Tryz.ntmps22 rfl ?_
  repeat' (first
    | refine AWP.seqk fun K hK => ?_
    | (
        refine AWP.here 1 7 2 rfl ?_
        refine AWP.publish 3 0 (.agg [.sl none 1 (l.map str)]) rfl rfl (by intro x hx; have hx2 : x ∈ [AV.sl none 1 (l.map str)] := hx; rw [List.mem_singleton] at hx2; subst hx2; rfl) ?_
        simp only [go_sem]
        refine AWP.region ?_; simp only [go_sem])
    | (
        refine AWP.here 17 58 29 rfl ?_
        refine AWP.regionAs [0, 1, 4, 6, 8, 10, 12, 14, 17, 20, 23, 2, 3, 5, 7, 9, 11, 13, 15, 16, 18, 19, 21, 22, 24, 25, 26, 27, 28] [[], [], [1], [0, 1, 2], [], [0, 1, 2, 3, 4], [], [0, 1, 2, 3, 4, 5, 6], [], [0, 1, 2, 3, 4, 5, 6, 7, 8], [], [0, 1, 2, 3, 4, 5, 6, 7, 8, 9, 10], [], [0, 1, 2, 3, 4, 5, 6, 7, 8, 9, 10, 11, 12], [], [0, 1, 2, 3, 4, 5, 6, 7, 8, 9, 10, 11, 12, 13, 14], [0, 1, 2, 3, 4, 5, 6, 7, 8, 9, 10, 11, 12, 13, 14, 15], [], [0, 1, 2, 3, 4, 5, 6, 7, 8, 9, 10, 11, 12, 13, 14, 15, 17], [0, 1, 2, 3, 4, 5, 6, 7, 8, 9, 10, 11, 12, 13, 14, 15, 17, 18], [], [0, 1, 2, 3, 4, 5, 6, 7, 8, 9, 10, 11, 12, 13, 14, 15, 17, 18, 19, 20], [0, 1, 2, 3, 4, 5, 6, 7, 8, 9, 10, 11, 12, 13, 14, 15, 17, 18, 19, 20, 21], [], [0, 1, 2, 3, 4, 5, 6, 7, 8, 9, 10, 11, 12, 13, 14, 15, 17, 18, 19, 20, 21, 22, 23], [0, 1, 2, 3, 4, 5, 6, 7, 8, 9, 10, 11, 12, 13, 14, 15, 17, 18, 19, 20, 21, 22, 23, 24], [0, 1, 2, 3, 4, 5, 6, 7, 8, 9, 10, 11, 12, 13, 14, 15, 16, 17, 18, 19, 20, 21, 22, 23, 24, 25], [0, 1, 2, 3, 4, 5, 6, 7, 8, 9, 10, 11, 12, 13, 14, 15, 16, 17, 18, 19, 20, 21, 22, 23, 24, 25, 26], [0, 1, 2, 3, 4, 5, 6, 7, 8, 9, 10, 11, 12, 13, 14, 15, 16, 17, 18, 19, 20, 21, 22, 23, 24, 25, 26, 27]] [] (by kernel_rfl) (by kernel_rfl) (by decide) rfl ?_; simp only [go_sem, tab_ex, true_and])
    | (refine AWP.region ?_; simp only [go_sem])
    | (refine AWP.here 17 58 29 rfl ?_; refine AWP.regionAs [0, 1, 4, 6, 8, 10, 12, 14, 17, 20, 23, 2, 3, 5, 7, 9, 11, 13, 15, 16, 18, 19, 21, 22, 24, 25, 26, 27, 28] [[], [], [1], [0, 1, 2], [], [0, 1, 2, 3, 4], [], [0, 1, 2, 3, 4, 5, 6], [], [0, 1, 2, 3, 4, 5, 6, 7, 8], [], [0, 1, 2, 3, 4, 5, 6, 7, 8, 9, 10], [], [0, 1, 2, 3, 4, 5, 6, 7, 8, 9, 10, 11, 12], [], [0, 1, 2, 3, 4, 5, 6, 7, 8, 9, 10, 11, 12, 13, 14], [0, 1, 2, 3, 4, 5, 6, 7, 8, 9, 10, 11, 12, 13, 14, 15], [], [0, 1, 2, 3, 4, 5, 6, 7, 8, 9, 10, 11, 12, 13, 14, 15, 17], [0, 1, 2, 3, 4, 5, 6, 7, 8, 9, 10, 11, 12, 13, 14, 15, 17, 18], [], [0, 1, 2, 3, 4, 5, 6, 7, 8, 9, 10, 11, 12, 13, 14, 15, 17, 18, 19, 20], [0, 1, 2, 3, 4, 5, 6, 7, 8, 9, 10, 11, 12, 13, 14, 15, 17, 18, 19, 20, 21], [], [0, 1, 2, 3, 4, 5, 6, 7, 8, 9, 10, 11, 12, 13, 14, 15, 17, 18, 19, 20, 21, 22, 23], [0, 1, 2, 3, 4, 5, 6, 7, 8, 9, 10, 11, 12, 13, 14, 15, 17, 18, 19, 20, 21, 22, 23, 24], [0, 1, 2, 3, 4, 5, 6, 7, 8, 9, 10, 11, 12, 13, 14, 15, 16, 17, 18, 19, 20, 21, 22, 23, 24, 25], [0, 1, 2, 3, 4, 5, 6, 7, 8, 9, 10, 11, 12, 13, 14, 15, 16, 17, 18, 19, 20, 21, 22, 23, 24, 25, 26], [0, 1, 2, 3, 4, 5, 6, 7, 8, 9, 10, 11, 12, 13, 14, 15, 16, 17, 18, 19, 20, 21, 22, 23, 24, 25, 26, 27]] [] (by kernel_rfl) (by kernel_rfl) (by decide) rfl ?_; simp only [go_sem])
    | (refine hK _ ?_; clear hK K)
    | refine AWP.block ?_
    | refine AWP.cond rfl (fun c => ?_) (fun c => ?_) <;> first | exact Bool.noConfusion c | (try simp only [dD] at c)
    | refine AWP.skip ?_
    | (refine AWP.exit ?_; simp only [go_sem])
    | (refine ACall.one (number_c _) (by kernel_rfl) rfl ?_; simp only [go_sem])
    | (refine ACall.one (place_c Txt.exN _ rfl) (by kernel_rfl) rfl ?_; simp only [go_sem])
    | (refine ACall.one (word_z l _ (by decide) hl) (by kernel_rfl) rfl ?_; simp only [go_sem])
    | (refine AGet.haveM (by assumption) ?_; (try simp only [go_sem]))
    | (refine AGet.have' (by assumption) ?_; (try simp only [go_sem]))
    | ((first | refine AGet.nth ?_ (fun b hb => ?_) | refine AGet.nth1 ?_ (fun b hb => ?_) | with_reducible refine And.intro ?_ ?_); (focus (first | omega | assumption | exact List.length_pos_iff.2 (by assumption) | (simp only [List.length_append, List.length_cons, List.length_nil, List.length_map, List.length_take, List.length_drop] at *; omega) | (rw [wrap64_id (by omega) (by omega)]; omega) | (simp; done) | (simp [spare_len]; done) | (exact ⟨by omega, by omega⟩))); (try simp only [hb, go_sem]))
    | (
        refine AWP.ret ?_
        refine AEnd.is ?_; simp only [go_sem, out_v, out_s, out_n, v_int, v_bool, v_str] <;> (first | (rw [asked_k6 rfl]; simp [*, zeroX, Txt.zeroO, Txt.zeroL, refB]; done) | (rw [asked_k6 rfl]; simp [*]; done) | skip))
    | refine AWP.fin (by assumption) ?_
    | fail)

set_option maxHeartbeats 4000000 in
set_option maxRecDepth 8000 in
theorem asked_7 (l : List (List UInt8)) (hl : l.length ≤ 100000) : ACalls E 22 [i64 7, .sl none 1 (l.map str)] (fun r t => r = akV (askedA 7 l) ∧ t = []) := by -- #ask7
  refine ACalls.of_awp (n := 131) (rs := [.cell 4 29]) Tryz.func22 rfl Tryz.ntmps22 rfl ?_
  repeat' (first
    | refine AWP.seqk fun K hK => ?_
    | (
        refine AWP.here 1 7 2 rfl ?_
        refine AWP.publish 3 0 (.agg [.sl none 1 (l.map str)]) rfl rfl (by intro x hx; have hx2 : x ∈ [AV.sl none 1 (l.map str)] := hx; rw [List.mem_singleton] at hx2; subst hx2; rfl) ?_
        simp only [go_sem]
        refine AWP.region ?_; simp only [go_sem])
    | (
        refine AWP.here 17 58 29 rfl ?_
        refine AWP.regionAs [0, 1, 4, 6, 8, 10, 12, 14, 17, 20, 23, 2, 3, 5, 7, 9, 11, 13, 15, 16, 18, 19, 21, 22, 24, 25, 26, 27, 28] [[], [], [1], [0, 1, 2], [], [0, 1, 2, 3, 4], [], [0, 1, 2, 3, 4, 5, 6], [], [0, 1, 2, 3, 4, 5, 6, 7, 8], [], [0, 1, 2, 3, 4, 5, 6, 7, 8, 9, 10], [], [0, 1, 2, 3, 4, 5, 6, 7, 8, 9, 10, 11, 12], [], [0, 1, 2, 3, 4, 5, 6, 7, 8, 9, 10, 11, 12, 13, 14], [0, 1, 2, 3, 4, 5, 6, 7, 8, 9, 10, 11, 12, 13, 14, 15], [], [0, 1, 2, 3, 4, 5, 6, 7, 8, 9, 10, 11, 12, 13, 14, 15, 17], [0, 1, 2, 3, 4, 5, 6, 7, 8, 9, 10, 11, 12, 13, 14, 15, 17, 18], [], [0, 1, 2, 3, 4, 5, 6, 7, 8, 9, 10, 11, 12, 13, 14, 15, 17, 18, 19, 20], [0, 1, 2, 3, 4, 5, 6, 7, 8, 9, 10, 11, 12, 13, 14, 15, 17, 18, 19, 20, 21], [], [0, 1, 2, 3, 4, 5, 6, 7, 8, 9, 10, 11, 12, 13, 14, 15, 17, 18, 19, 20, 21, 22, 23], [0, 1, 2, 3, 4, 5, 6, 7, 8, 9, 10, 11, 12, 13, 14, 15, 17, 18, 19, 20, 21, 22, 23, 24], [0, 1, 2, 3, 4, 5, 6, 7, 8, 9, 10, 11, 12, 13, 14, 15, 16, 17, 18, 19, 20, 21, 22, 23, 24, 25], [0, 1, 2, 3, 4, 5, 6, 7, 8, 9, 10, 11, 12, 13, 14, 15, 16, 17, 18, 19, 20, 21, 22, 23, 24, 25, 26], [0, 1, 2, 3, 4, 5, 6, 7, 8, 9, 10, 11, 12, 13, 14, 15, 16, 17, 18, 19, 20, 21, 22, 23, 24, 25, 26, 27]] [] (by kernel_rfl) (by kernel_rfl) (by decide) rfl ?_; simp only [go_sem, tab_ex, true_and])
    | (refine AWP.region ?_; simp only [go_sem])
    | (refine AWP.here 17 58 29 rfl ?_; refine AWP.regionAs [0, 1, 4, 6, 8, 10, 12, 14, 17, 20, 23, 2, 3, 5, 7, 9, 11, 13, 15, 16, 18, 19, 21, 22, 24, 25, 26, 27, 28] [[], [], [1], [0, 1, 2], [], [0, 1, 2, 3, 4], [], [0, 1, 2, 3, 4, 5, 6], [], [0, 1, 2, 3, 4, 5, 6, 7, 8], [], [0, 1, 2, 3, 4, 5, 6, 7, 8, 9, 10], [], [0, 1, 2, 3, 4, 5, 6, 7, 8, 9, 10, 11, 12], [], [0, 1, 2, 3, 4, 5, 6, 7, 8, 9, 10, 11, 12, 13, 14], [0, 1, 2, 3, 4, 5, 6, 7, 8, 9, 10, 11, 12, 13, 14, 15], [], [0, 1, 2, 3, 4, 5, 6, 7, 8, 9, 10, 11, 12, 13, 14, 15, 17], [0, 1, 2, 3, 4, 5, 6, 7, 8, 9, 10, 11, 12, 13, 14, 15, 17, 18], [], [0, 1, 2, 3, 4, 5, 6, 7, 8, 9, 10, 11, 12, 13, 14, 15, 17, 18, 19, 20], [0, 1, 2, 3, 4, 5, 6, 7, 8, 9, 10, 11, 12, 13, 14, 15, 17, 18, 19, 20, 21], [], [0, 1, 2, 3, 4, 5, 6, 7, 8, 9, 10, 11, 12, 13, 14, 15, 17, 18, 19, 20, 21, 22, 23], [0, 1, 2, 3, 4, 5, 6, 7, 8, 9, 10, 11, 12, 13, 14, 15, 17, 18, 19, 20, 21, 22, 23, 24], [0, 1, 2, 3, 4, 5, 6, 7, 8, 9, 10, 11, 12, 13, 14, 15, 16, 17, 18, 19, 20, 21, 22, 23, 24, 25], [0, 1, 2, 3, 4, 5, 6, 7, 8, 9, 10, 11, 12, 13, 14, 15, 16, 17, 18, 19, 20, 21, 22, 23, 24, 25, 26], [0, 1, 2, 3, 4, 5, 6, 7, 8, 9, 10, 11, 12, 13, 14, 15, 16, 17, 18, 19, 20, 21, 22, 23, 24, 25, 26, 27]] [] (by kernel_rfl) (by kernel_rfl) (by decide) rfl ?_; simp only [go_sem])
    | (refine hK _ ?_; clear hK K)
    | refine AWP.block ?_
    | refine AWP.cond rfl (fun c => ?_) (fun c => ?_) <;> first | exact Bool.noConfusion c | (try simp only [dD] at c)
    | refine AWP.skip ?_
    | (refine AWP.exit ?_; simp only [go_sem])
    | (refine ACall.one (number_c _) (by kernel_rfl) rfl ?_; simp only [go_sem])
    | (refine ACall.one (place_c Txt.exN _ rfl) (by kernel_rfl) rfl ?_; simp only [go_sem])
    | (refine ACall.one (word_z l _ (by decide) hl) (by kernel_rfl) rfl ?_; simp only [go_sem])
    | (refine AGet.haveM (by assumption) ?_; (try simp only [go_sem]))
    | (refine AGet.have' (by assumption) ?_; (try simp only [go_sem]))
    | ((first | refine AGet.nth ?_ (fun b hb => ?_) | refine AGet.nth1 ?_ (fun b hb => ?_) | with_reducible refine And.intro ?_ ?_); (focus (first | omega | assumption | exact List.length_pos_iff.2 (by assumption) | (simp only [List.length_append, List.length_cons, List.length_nil, List.length_map, List.length_take, List.length_drop] at *; omega) | (rw [wrap64_id (by omega) (by omega)]; omega) | (simp; done) | (simp [spare_len]; done) | (exact ⟨by omega, by omega⟩))); (try simp only [hb, go_sem]))
    | (
        refine AWP.ret ?_
        refine AEnd.is ?_; simp only [go_sem, out_v, out_s, out_n, v_int, v_bool, v_str] <;> (first | (rw [asked_k7 rfl]; simp [*, zeroX, Txt.zeroO, Txt.zeroL, refB]; done) | (rw [asked_k7 rfl]; simp [*]; done) | skip))
    | refine AWP.fin (by assumption) ?_
    | fail)

set_option maxHeartbeats 4000000 in
set_option maxRecDepth 8000 in
theorem asked_8 (l : List (List UInt8)) (hl : l.length ≤ 100000) : ACalls E 22 [i64 8, .sl none 1 (l.map str)] (fun r t => r = akV (askedA 8 l) ∧ t = []) := by -- #ask8
  refine ACalls.of_awp (n := 131) (rs := [.cell 4 29]) Tryz.func22 rfl Tryz.ntmps22 rfl ?_
  repeat' (first
    | refine AWP.seqk fun K hK => ?_
    | (
        refine AWP.here 1 7 2 rfl ?_
        refine AWP.publish 3 0 (.agg [.sl none 1 (l.map str)]) rfl rfl (by intro x hx; have hx2 : x ∈ [AV.sl none 1 (l.map str)] := hx; rw [List.mem_singleton] at hx2; subst hx2; rfl) ?_
        simp only [go_sem]
        refine AWP.region ?_; simp only [go_sem])
    | (
        refine AWP.here 17 58 29 rfl ?_
        refine AWP.regionAs [0, 1, 4, 6, 8, 10, 12, 14, 17, 20, 23, 2, 3, 5, 7, 9, 11, 13, 15, 16, 18, 19, 21, 22, 24, 25, 26, 27, 28] [[], [], [1], [0, 1, 2], [], [0, 1, 2, 3, 4], [], [0, 1, 2, 3, 4, 5, 6], [], [0, 1, 2, 3, 4, 5, 6, 7, 8], [], [0, 1, 2, 3, 4, 5, 6, 7, 8, 9, 10], [], [0, 1, 2, 3, 4, 5, 6, 7, 8, 9, 10, 11, 12], [], [0, 1, 2, 3, 4, 5, 6, 7, 8, 9, 10, 11, 12, 13, 14], [0, 1, 2, 3, 4, 5, 6, 7, 8, 9, 10, 11, 12, 13, 14, 15], [], [0, 1, 2, 3, 4, 5, 6, 7, 8, 9, 10, 11, 12, 13, 14, 15, 17], [0, 1, 2, 3, 4, 5, 6, 7, 8, 9, 10, 11, 12, 13, 14, 15, 17, 18], [], [0, 1, 2, 3, 4, 5, 6, 7, 8, 9, 10, 11, 12, 13, 14, 15, 17, 18, 19, 20], [0, 1, 2, 3, 4, 5, 6, 7, 8, 9, 10, 11, 12, 13, 14, 15, 17, 18, 19, 20, 21], [], [0, 1, 2, 3, 4, 5, 6, 7, 8, 9, 10, 11, 12, 13, 14, 15, 17, 18, 19, 20, 21, 22, 23], [0, 1, 2, 3, 4, 5, 6, 7, 8, 9, 10, 11, 12, 13, 14, 15, 17, 18, 19, 20, 21, 22, 23, 24], [0, 1, 2, 3, 4, 5, 6, 7, 8, 9, 10, 11, 12, 13, 14, 15, 16, 17, 18, 19, 20, 21, 22, 23, 24, 25], [0, 1, 2, 3, 4, 5, 6, 7, 8, 9, 10, 11, 12, 13, 14, 15, 16, 17, 18, 19, 20, 21, 22, 23, 24, 25, 26], [0, 1, 2, 3, 4, 5, 6, 7, 8, 9, 10, 11, 12, 13, 14, 15, 16, 17, 18, 19, 20, 21, 22, 23, 24, 25, 26, 27]] [] (by kernel_rfl) (by kernel_rfl) (by decide) rfl ?_; simp only [go_sem, tab_ex, true_and])
    | (refine AWP.region ?_; simp only [go_sem])
    | (refine AWP.here 17 58 29 rfl ?_; refine AWP.regionAs [0, 1, 4, 6, 8, 10, 12, 14, 17, 20, 23, 2, 3, 5, 7, 9, 11, 13, 15, 16, 18, 19, 21, 22, 24, 25, 26, 27, 28] [[], [], [1], [0, 1, 2], [], [0, 1, 2, 3, 4], [], [0, 1, 2, 3, 4, 5, 6], [], [0, 1, 2, 3, 4, 5, 6, 7, 8], [], [0, 1, 2, 3, 4, 5, 6, 7, 8, 9, 10], [], [0, 1, 2, 3, 4, 5, 6, 7, 8, 9, 10, 11, 12], [], [0, 1, 2, 3, 4, 5, 6, 7, 8, 9, 10, 11, 12, 13, 14], [0, 1, 2, 3, 4, 5, 6, 7, 8, 9, 10, 11, 12, 13, 14, 15], [], [0, 1, 2, 3, 4, 5, 6, 7, 8, 9, 10, 11, 12, 13, 14, 15, 17], [0, 1, 2, 3, 4, 5, 6, 7, 8, 9, 10, 11, 12, 13, 14, 15, 17, 18], [], [0, 1, 2, 3, 4, 5, 6, 7, 8, 9, 10, 11, 12, 13, 14, 15, 17, 18, 19, 20], [0, 1, 2, 3, 4, 5, 6, 7, 8, 9, 10, 11, 12, 13, 14, 15, 17, 18, 19, 20, 21], [], [0, 1, 2, 3, 4, 5, 6, 7, 8, 9, 10, 11, 12, 13, 14, 15, 17, 18, 19, 20, 21, 22, 23], [0, 1, 2, 3, 4, 5, 6, 7, 8, 9, 10, 11, 12, 13, 14, 15, 17, 18, 19, 20, 21, 22, 23, 24], [0, 1, 2, 3, 4, 5, 6, 7, 8, 9, 10, 11, 12, 13, 14, 15, 16, 17, 18, 19, 20, 21, 22, 23, 24, 25], [0, 1, 2, 3, 4, 5, 6, 7, 8, 9, 10, 11, 12, 13, 14, 15, 16, 17, 18, 19, 20, 21, 22, 23, 24, 25, 26], [0, 1, 2, 3, 4, 5, 6, 7, 8, 9, 10, 11, 12, 13, 14, 15, 16, 17, 18, 19, 20, 21, 22, 23, 24, 25, 26, 27]] [] (by kernel_rfl) (by kernel_rfl) (by decide) rfl ?_; simp only [go_sem])
    | (refine hK _ ?_; clear hK K)
    | refine AWP.block ?_
    | refine AWP.cond rfl (fun c => ?_) (fun c => ?_) <;> first | exact Bool.noConfusion c | (try simp only [dD] at c)
    | refine AWP.skip ?_
    | (refine AWP.exit ?_; simp only [go_sem])
    | (refine ACall.one (number_c _) (by kernel_rfl) rfl ?_; simp only [go_sem])
    | (refine ACall.one (place_c Txt.exN _ rfl) (by kernel_rfl) rfl ?_; simp only [go_sem])
    | (refine ACall.one (word_z l _ (by decide) hl) (by kernel_rfl) rfl ?_; simp only [go_sem])
    | (refine AGet.haveM (by assumption) ?_; (try simp only [go_sem]))
    | (refine AGet.have' (by assumption) ?_; (try simp only [go_sem]))
    | ((first | refine AGet.nth ?_ (fun b hb => ?_) | refine AGet.nth1 ?_ (fun b hb => ?_) | with_reducible refine And.intro ?_ ?_); (focus (first | omega | assumption | exact List.length_pos_iff.2 (by assumption) | (simp only [List.length_append, List.length_cons, List.length_nil, List.length_map, List.length_take, List.length_drop] at *; omega) | (rw [wrap64_id (by omega) (by omega)]; omega) | (simp; done) | (simp [spare_len]; done) | (exact ⟨by omega, by omega⟩))); (try simp only [hb, go_sem]))
    | (
        refine AWP.ret ?_
        refine AEnd.is ?_; simp only [go_sem, out_v, out_s, out_n, v_int, v_bool, v_str] <;> (first | (rw [asked_k8 rfl]; simp [*, zeroX, Txt.zeroO, Txt.zeroL, refB]; done) | (rw [asked_k8 rfl]; simp [*]; done) | skip))
    | refine AWP.fin (by assumption) ?_
    | fail)


end Go.Proofs.YtfchlkeekmabfaaGreatDoor
end
section
set_option linter.unusedVariables false
set_option linter.unusedSimpArgs false
namespace Go.Proofs.YtfchlkeekmabfaaGreatDoor
open Go Go.Abs Go.RowKit Go.Bk Go.Msg Go.Txt
theorem split_0 (c : UInt8) (s : List UInt8) : (splitW c s)[0]? = some (wd (splitW c s) 0) := by
  cases h : splitW c s with
  | nil => exact absurd h (splitW_ne c s)
  | cons w l => rfl
theorem place_rng {w : List UInt8} (h : ¬ Txt.placeF askN w = 0) : 1 ≤ Txt.placeF askN w ∧ Txt.placeF askN w ≤ 8 := (ask_name rfl h).2
theorem pA_long {s : List UInt8} (h : 256 < s.length) : parseA s = (zeroA, 4) := by unfold parseA; rw [if_pos h]
theorem pA_kind {s : List UInt8} (h : ¬ 256 < s.length) (h2 : Txt.placeF askN (wd (splitW 32 s) 0) = 0) : parseA s = (zeroA, 10) := by unfold parseA; rw [if_neg h, if_pos h2]
theorem pA_bad1 {s : List UInt8} (h : ¬ 256 < s.length) (h2 : ¬ Txt.placeF askN (wd (splitW 32 s) 0) = 0) (h3 : ¬ (showA (askedA (Txt.placeF askN (wd (splitW 32 s) 0)) (splitW 32 s))).2 = 0) : parseA s = (zeroA, 3) := by
  unfold parseA; rw [if_neg h, if_neg h2, if_neg (fun e => h3 (by rw [e]))]
theorem pA_bad2 {s : List UInt8} (h : ¬ 256 < s.length) (h2 : ¬ Txt.placeF askN (wd (splitW 32 s) 0) = 0) (h3 : (showA (askedA (Txt.placeF askN (wd (splitW 32 s) 0)) (splitW 32 s))).2 = 0) (h4 : ¬ (showA (askedA (Txt.placeF askN (wd (splitW 32 s) 0)) (splitW 32 s))).1 = s) : parseA s = (zeroA, 3) := by
  unfold parseA; rw [if_neg h, if_neg h2, if_neg (fun e => h4 (by rw [e]))]
theorem pA_ok {s : List UInt8} (h : ¬ 256 < s.length) (h2 : ¬ Txt.placeF askN (wd (splitW 32 s) 0) = 0) (h3 : (showA (askedA (Txt.placeF askN (wd (splitW 32 s) 0)) (splitW 32 s))).2 = 0) (h4 : (showA (askedA (Txt.placeF askN (wd (splitW 32 s) 0)) (splitW 32 s))).1 = s) : parseA s = (askedA (Txt.placeF askN (wd (splitW 32 s) 0)) (splitW 32 s), 0) := by
  unfold parseA; rw [if_neg h, if_neg h2, if_pos (Prod.ext h4 h3)]
theorem asked_c (k : Int) (l : List (List UInt8)) (hk : 1 ≤ k ∧ k ≤ 8) (hl : l.length ≤ 100000) : ACalls E 22 [i64 k, .sl none 1 (l.map str)] (fun r t => r = akV (askedA k l) ∧ t = []) := by
  rcases eight hk with rfl | rfl | rfl | rfl | rfl | rfl | rfl | rfl
  · exact asked_1 l hl
  · exact asked_2 l hl
  · exact asked_3 l hl
  · exact asked_4 l hl
  · exact asked_5 l hl
  · exact asked_6 l hl
  · exact asked_7 l hl
  · exact asked_8 l hl

set_option maxHeartbeats 4000000 in
set_option maxRecDepth 8000 in
theorem tparse_c (s : List UInt8) (hs : s.length ≤ 100000) : ACalls E 9 [str s] (fun r t => r = .tup [akV (parseA s).1, i64 (parseA s).2] ∧ t = []) := by -- checkroll/text.Parse
  have hsp0 := split_0 32 s
  refine ACalls.of_awp (n := 40) (rs := [.cell 2 29, .tmp 3]) Tryz.func9 rfl Tryz.ntmps9 rfl ?_
  repeat' (first
    | refine AWP.seqk fun K hK => ?_
    | (
        refine AWP.here 4 15 6 rfl ?_
        refine AWP.regionO [0, 1, 2, 3, 4, 5] [] (by kernel_rfl) (by kernel_rfl) rfl ?_; simp only [go_sem, tab_ask, true_and, hsp0])
    | (refine AWP.region ?_; simp only [go_sem])
    | (refine AWP.here 4 15 6 rfl ?_; refine AWP.regionO [0, 1, 2, 3, 4, 5] [] (by kernel_rfl) (by kernel_rfl) rfl ?_; simp only [go_sem])
    | (refine hK _ ?_; clear hK K)
    | refine AWP.block ?_
    | refine AWP.cond rfl (fun c => ?_) (fun c => ?_) <;> first | exact Bool.noConfusion c | (try simp only [dD] at c)
    | refine AWP.skip ?_
    | (refine AWP.exit ?_; simp only [go_sem])
    | (refine ACall.of (tsplit_c s 32 (by omega)) (by kernel_rfl) rfl ?_; rintro r t ⟨rfl, rfl⟩; simp only [go_sem])
    | (refine ACall.one (place_c Txt.askN _ rfl) (by kernel_rfl) rfl ?_; simp only [go_sem])
    | (refine ACall.one (asked_c _ (splitW 32 s) (place_rng (by assumption)) (by have := split_le 32 s; omega)) (by kernel_rfl) rfl ?_; simp only [go_sem])
    | (refine ACall.one (tshow_c _) (by kernel_rfl) rfl ?_; simp only [go_sem])
    | (refine AGuard.splitN (fun h => ?_) (fun h => ?_) <;> simp only [h, go_sem] <;> (try simp only [dD] at h))
    | (refine AGuard.split (fun h => ?_) (fun h => ?_) <;> simp only [h, go_sem] <;> (try simp only [dD] at h))
    | (refine AGet.haveM (by assumption) ?_; (try simp only [go_sem]))
    | (refine AGet.have' (by assumption) ?_; (try simp only [go_sem]))
    | ((first | refine AGet.nth ?_ (fun b hb => ?_) | refine AGet.nth1 ?_ (fun b hb => ?_) | with_reducible refine And.intro ?_ ?_); (focus (first | omega | assumption | exact List.length_pos_iff.2 (by assumption) | (simp only [List.length_append, List.length_cons, List.length_nil, List.length_map, List.length_take, List.length_drop] at *; omega) | (rw [wrap64_id (by omega) (by omega)]; omega) | (simp; done) | (simp [spare_len]; done) | (exact ⟨by omega, by omega⟩))); (try simp only [hb, go_sem]))
    | (
        refine AWP.ret ?_
        refine AEnd.is ?_; simp only [go_sem, out_v, out_s, out_n, v_int, v_bool, v_str] <;> (try ((first | (rw [pA_long (by omega)]; simp [zeroA, zeroX, Txt.zeroO, Txt.zeroL]; done) | (rw [pA_kind (by omega) (by assumption)]; simp [zeroA, zeroX, Txt.zeroO, Txt.zeroL]; done) | (rw [pA_bad1 (by omega) (by assumption) (by assumption)]; simp [zeroA, zeroX, Txt.zeroO, Txt.zeroL]; done) | (rw [pA_bad2 (by omega) (by assumption) (by assumption) (by assumption)]; simp [zeroA, zeroX, Txt.zeroO, Txt.zeroL]; done) | (rw [pA_ok (by omega) (by assumption) (by assumption) (by assumption)]; simp; done) | skip))))
    | refine AWP.fin (by assumption) ?_
    | fail)


end Go.Proofs.YtfchlkeekmabfaaGreatDoor
end
section
set_option linter.unusedVariables false
set_option linter.unusedSimpArgs false
namespace Go.Proofs.YtfchlkeekmabfaaGreatDoor
open Go Go.Abs Go.RowKit Go.Bk Go.Msg Go.Txt
def awl : List UInt8 := [111, 114, 100, 101, 114, 32, 48, 32, 111, 49, 32, 97, 99, 99, 32, 88, 89, 90, 32, 98, 117, 121, 32, 55, 32, 53, 48]
abbrev awa : Ak := ⟨1, 0, ⟨[111, 49], [97, 99, 99], [88, 89, 90], true, 7, 50, 0, false⟩, [], ⟨[], [], [], [], [], 0, false, 0, 0, 0⟩, 0, false, ⟨[], [], 0, 0, 0, 0⟩⟩
abbrev awg : Ak := ⟨6, 2, ⟨[], [], [], false, 0, 0, 0, false⟩, [], ⟨[], [], [], [], [], 0, false, 0, 0, 0⟩, 0, true, ⟨[], [], 0, 0, 0, 0⟩⟩
theorem aw_d (n : Int) (h : 0 ≤ n ∧ n < 10) : Fld.showF n = [UInt8.ofNat (48 + n.toNat)] := Fld.show_dig h.1 h.2
theorem aw_50 : Fld.showF 50 = [53, 48] := by rw [Fld.show_big (by decide) (by decide), aw_d _ (by decide)]; rfl
theorem aw_line : joinW 32 (wordsA awa) = awl := by
  rw [words1 rfl]
  show joinW 32 [nameW askN 1, Fld.showF 0, [111, 49], [97, 99, 99], [88, 89, 90], sideW true, Fld.showF 7, Fld.showF 50] = _
  rw [aw_d 0 (by decide), aw_d 7 (by decide), aw_50]; rfl
theorem aw_parse : parseA awl = (awa, 0) := by
  rw [← aw_line, Txt.parse_show (by decide)]; rfl
theorem aw_show : showA awg = ([103, 97, 112, 32, 50, 32, 111, 110], 0) := by
  unfold showA
  rw [if_pos (by decide), words6 rfl]
  show (joinW 32 [nameW askN 6, Fld.showF 2, onW true], (0 : Int)) = _
  rw [aw_d 2 (by decide)]; rfl
theorem show_may {a : Ak} (h : (showA a).2 = 0) : mayA a = true := by
  unfold showA at h
  split at h
  · assumption
  · exact absurd h (by decide)
theorem show_eq {a : Ak} (h : mayA a = true) : showA a = (joinW 32 (wordsA a), 0) := by unfold showA; rw [if_pos h]
theorem show_err {a : Ak} (h : ¬ (showA a).2 = 0) : (showA a).1 = [] := by
  unfold showA at h ⊢
  split
  · rename_i hm; rw [if_pos hm] at h; exact absurd rfl h
  · rfl
theorem one_bad2 {a : Ak} (h : mayA a = true) (k : Nat) : ¬ (parseA ((joinW 32 (wordsA a)).take k ++ [32] ++ (joinW 32 (wordsA a)).drop k)).2 = 0 := by
  have := one_bad h k
  rwa [List.append_assoc, List.singleton_append]

set_option maxHeartbeats 4000000 in
set_option maxRecDepth 8000 in
theorem awake23_c  : ACalls E 6 [] (fun r t => r = bl true ∧ t = []) := by -- checkroll/checkrolllaw23.awake
  refine ACalls.of_awp (n := 41) (rs := [.tmp 0]) Tryz.func6 rfl Tryz.ntmps6 rfl ?_
  repeat' (first
    | refine AWP.seqk fun K hK => ?_
    | (refine AWP.region ?_; simp only [go_sem, aw_parse, aw_show, awa])
    | (refine hK _ ?_; clear hK K)
    | refine AWP.block ?_
    | refine AWP.cond rfl (fun c => ?_) (fun c => ?_) <;> first | exact Bool.noConfusion c | (try simp only [dD] at c)
    | refine AWP.skip ?_
    | (refine AWP.exit ?_; simp only [go_sem, aw_parse, aw_show, awa])
    | (refine ACall.one (tparse_c awl (by decide)) (by kernel_rfl) rfl ?_; simp only [go_sem, aw_parse, aw_show, awa])
    | (refine ACall.one (tshow_c awg) (by kernel_rfl) rfl ?_; simp only [go_sem, aw_parse, aw_show, awa])
    | (refine AGuard.splitN (fun h => ?_) (fun h => ?_) <;> simp only [h, go_sem, aw_parse, aw_show, awa] <;> (try simp only [dD] at h))
    | (refine AGuard.split (fun h => ?_) (fun h => ?_) <;> simp only [h, go_sem, aw_parse, aw_show, awa] <;> (try simp only [dD] at h))
    | (refine AGet.haveM (by assumption) ?_; (try simp only [go_sem, aw_parse, aw_show, awa]))
    | (refine AGet.have' (by assumption) ?_; (try simp only [go_sem, aw_parse, aw_show, awa]))
    | ((first | refine AGet.nth ?_ (fun b hb => ?_) | refine AGet.nth1 ?_ (fun b hb => ?_) | with_reducible refine And.intro ?_ ?_); (focus (first | omega | assumption | exact List.length_pos_iff.2 (by assumption) | (simp only [List.length_append, List.length_cons, List.length_nil, List.length_map, List.length_take, List.length_drop] at *; omega) | (rw [wrap64_id (by omega) (by omega)]; omega) | (simp; done) | (simp [spare_len]; done) | (exact ⟨by omega, by omega⟩))); (try simp only [hb, go_sem, aw_parse, aw_show, awa]))
    | (
        refine AWP.ret ?_
        refine AEnd.is ?_; simp only [go_sem, out_v, out_s, out_n, v_int, v_bool, v_str] <;> (try ((first | rfl | skip))))
    | refine AWP.fin (by assumption) ?_
    | fail)

set_option maxHeartbeats 4000000 in
set_option maxRecDepth 8000 in
theorem textOne_c (a : Ak) (z : Int) (h0 : 0 ≤ z) (h1 : z < 65536) : ACalls E 3 [akV a, .v (.int .u16 z)] (fun r t => r = bl true ∧ t = []) := by -- checkroll/checkrolllaw23.TextOne
  refine ACalls.of_awp (n := 68) (rs := [.tmp 4]) Tryz.func3 rfl Tryz.ntmps3 rfl ?_
  repeat' (first
    | refine AWP.seqk fun K hK => ?_
    | (
        refine AWP.here 8 28 7 rfl ?_
        have hm := show_may (by assumption)
        have hsh := show_eq hm
        have hsl := show_short hm
        simp only [hsh]
        obtain ⟨q, hq, hql⟩ := Fld.mod_q (n := (joinW 32 (wordsA a)).length) h0 h1 (by omega)
        refine AWP.region ?_; simp only [go_sem, hq])
    | (
        refine AWP.here 12 58 11 rfl ?_
        have o1 := one_end hm
        have o2 := one_fore hm
        have o3 := one_bad2 hm q
        simp only [o1, o2]
        refine AWP.region ?_; simp only [go_sem])
    | (refine AWP.region ?_; simp only [go_sem])
    | (refine AWP.here 11 47 15 rfl ?_; refine AWP.regionO [0, 1, 2, 3, 4, 5, 6, 7, 12, 8, 9, 10, 11, 13, 14] [12] (by kernel_rfl) (by kernel_rfl) rfl ?_; simp only [go_sem])
    | (refine hK _ ?_; clear hK K)
    | refine AWP.block ?_
    | refine AWP.cond rfl (fun c => ?_) (fun c => ?_) <;> first | exact Bool.noConfusion c | (try simp only [dD] at c)
    | refine AWP.skip ?_
    | (refine AWP.exit ?_; simp only [go_sem])
    | (refine ACall.one (awake23_c ) (by kernel_rfl) rfl ?_; simp only [go_sem])
    | (refine ACall.of (r20short_c a) (by kernel_rfl) rfl ?_; rintro r t ⟨⟨bb, rfl⟩, rfl⟩; simp only [go_sem])
    | (refine ACall.one (tshow_c a) (by kernel_rfl) rfl ?_; simp only [go_sem])
    | (refine ACall.one (tparse_c _ (by simp; omega)) (by kernel_rfl) rfl ?_; simp only [go_sem])
    | (refine AGuard.splitN (fun h => ?_) (fun h => ?_) <;> simp only [h, go_sem] <;> (try simp only [dD] at h))
    | (refine AGuard.split (fun h => ?_) (fun h => ?_) <;> simp only [h, go_sem] <;> (try simp only [dD] at h))
    | (refine AGet.haveM (by assumption) ?_; (try simp only [go_sem]))
    | (refine AGet.have' (by assumption) ?_; (try simp only [go_sem]))
    | ((first | refine AGet.nth ?_ (fun b hb => ?_) | refine AGet.nth1 ?_ (fun b hb => ?_) | with_reducible refine And.intro ?_ ?_); (focus (first | omega | assumption | exact List.length_pos_iff.2 (by assumption) | (simp only [List.length_append, List.length_cons, List.length_nil, List.length_map, List.length_take, List.length_drop] at *; omega) | (rw [wrap64_id (by omega) (by omega)]; omega) | (simp; done) | (simp [spare_len]; done) | (exact ⟨by omega, by omega⟩))); (try simp only [hb, go_sem]))
    | (
        refine AWP.ret ?_
        refine AEnd.is ?_; simp only [go_sem, out_v, out_s, out_n, v_int, v_bool, v_str] <;> (try ((first | rfl | (simp_all; done) | (simp [show_err (by assumption)]; done) | skip))))
    | refine AWP.fin (by assumption) ?_
    | fail)


end Go.Proofs.YtfchlkeekmabfaaGreatDoor
end
section
/- More contracts of the library at this program: laid by program off the shelf, in plain words. -/
namespace Go.Proofs
open Go.Shelf
def Tryz.laysM146_ren : Go.Shelf.Ren := ⟨fun | 146 => 20 | 221 => 43 | 268 => 65 | 138 => 66 | 143 => 67 | 195 => 83 | 197 => 73 | 218 => 84 | 219 => 85 | 260 => 88 | 217 => 89 | 225 => 99 | 224 => 100 | 267 => 101 | 266 => 105 | 314 => 115 | n => n, fun | 9 => 9 | 31 => 59 | 3 => 3 | 4 => 4 | 0 => 0 | 105 => 117 | 21 => 21 | 5 => 5 | 46 => 142 | 119 => 144 | 139 => 147 | 138 => 146 | 146 => 156 | 51 => 153 | n => n, fun | 1 => 2 | 3 => 3 | 4 => 4 | n => n⟩
theorem Tryz.laysM146 : Go.Proofs.LaysM.n146 Tryz.prog Tryz.laysM146_ren := {
  mixed := by kernel_rfl
  f138 := Tryz.func66.trans (congrArg some (by kernel_rfl))
  f143 := Tryz.func67.trans (congrArg some (by kernel_rfl))
  f146 := Tryz.func20.trans (congrArg some (by kernel_rfl))
  f195 := Tryz.func83.trans (congrArg some (by kernel_rfl))
  f197 := Tryz.func73.trans (congrArg some (by kernel_rfl))
  f217 := Tryz.func89.trans (congrArg some (by kernel_rfl))
  f218 := Tryz.func84.trans (congrArg some (by kernel_rfl))
  f219 := Tryz.func85.trans (congrArg some (by kernel_rfl))
  f221 := Tryz.func43.trans (congrArg some (by kernel_rfl))
  f224 := Tryz.func100.trans (congrArg some (by kernel_rfl))
  f225 := Tryz.func99.trans (congrArg some (by kernel_rfl))
  f260 := Tryz.func88.trans (congrArg some (by kernel_rfl))
  f266 := Tryz.func105.trans (congrArg some (by kernel_rfl))
  f267 := Tryz.func101.trans (congrArg some (by kernel_rfl))
  f268 := Tryz.func65.trans (congrArg some (by kernel_rfl))
  f314 := Tryz.func115.trans (congrArg some (by kernel_rfl))
  t0 := Tryz.underlying0
  a0 := Tryz.isAgg0
  z0 := Tryz.sizeOf0
  v0 := Tryz.zeroValue0
  t3 := Tryz.underlying3
  a3 := Tryz.isAgg3
  z3 := Tryz.sizeOf3
  v3 := Tryz.zeroValue3
  t4 := Tryz.underlying4
  a4 := Tryz.isAgg4
  z4 := Tryz.sizeOf4
  v4 := Tryz.zeroValue4
  t5 := Tryz.underlying5
  a5 := Tryz.isAgg5
  z5 := Tryz.sizeOf5
  v5 := Tryz.zeroValue5
  t9 := Tryz.underlying9
  a9 := Tryz.isAgg9
  z9 := Tryz.sizeOf9
  v9 := Tryz.zeroValue9
  t21 := Tryz.underlying21
  a21 := Tryz.isAgg21
  z21 := Tryz.sizeOf21
  v21 := Tryz.zeroValue21
  t31 := Tryz.underlying59
  a31 := Tryz.isAgg59
  z31 := Tryz.sizeOf59
  v31 := Tryz.zeroValue59
  t46 := Tryz.underlying142
  a46 := Tryz.isAgg142
  z46 := Tryz.sizeOf142
  v46 := Tryz.zeroValue142
  t51 := Tryz.underlying153
  a51 := Tryz.isAgg153
  z51 := Tryz.sizeOf153
  v51 := Tryz.zeroValue153
  t105 := Tryz.underlying117
  a105 := Tryz.isAgg117
  z105 := Tryz.sizeOf117
  v105 := Tryz.zeroValue117
  t119 := Tryz.underlying144
  a119 := Tryz.isAgg144
  z119 := Tryz.sizeOf144
  t138 := Tryz.underlying146
  a138 := Tryz.isAgg146
  z138 := Tryz.sizeOf146
  v138 := Tryz.zeroValue146
  t139 := Tryz.underlying147
  a139 := Tryz.isAgg147
  z139 := Tryz.sizeOf147
  v139 := Tryz.zeroValue147
  t146 := Tryz.underlying156
  a146 := Tryz.isAgg156
  z146 := Tryz.sizeOf156
  v146 := Tryz.zeroValue156
  g1 := by kernel_rfl
  g3 := by kernel_rfl
  g4 := by kernel_rfl
  i0 := by kernel_rfl
  i3 := by kernel_rfl
  i4 := by kernel_rfl
  i5 := by kernel_rfl
  i9 := by kernel_rfl
  i21 := by kernel_rfl
  i31 := by kernel_rfl
  i46 := by kernel_rfl
  i51 := by kernel_rfl
  i105 := by kernel_rfl
  i138 := by kernel_rfl
  i139 := by kernel_rfl
  i146 := by kernel_rfl
  m1 := by kernel_rfl
  s1_3 := fun w h => Go.Proofs.cell_of_shapedOpen_int (zero := #[.int .i64 0]) (t := 3) h (of_decide_eq_true (by kernel_rfl)) (by kernel_rfl) rfl (by kernel_rfl) (by kernel_rfl) Tryz.underlying3
  m3 := by kernel_rfl
  m4 := by kernel_rfl }
end Go.Proofs
end
