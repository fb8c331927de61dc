import Derived.Test.YtceiiajacnihjaaC7
set_option linter.unusedVariables false
set_option linter.unusedSimpArgs false
namespace Go.Proofs.Ytceiiajacnihjaa
open Go Go.Abs Go.RowKit Go.Bk
abbrev doV (d : Bs × Int) : AV := .agg [str d.1, i64 d.2]
def dI : Nat → Int
  | 0 => 0
  | _ + 1 => 1
theorem addS_len (nm : List Bs) (cn : List Int) (s : Bs) (n : Int) : (addS nm cn s n).2.length = cn.length := by
  unfold addS; split
  · rfl
  · split <;> simp
theorem idcase (nm : List Bs) (x : Bs) {cn : List Int} : idI nm x < 0 ∨ ∃ k : Nat, idI nm x = k ∧ k < nm.length := by
  rcases Int.lt_or_le (idI nm x) 0 with h | h
  · exact .inl h
  · exact .inr (idI_nat (by omega))
theorem dcase (i : Nat) : (dI i = 0 ∧ ((i : Int) = 0) = True ∧ dI (i + 1) = 1) ∨ (dI i = 1 ∧ ((i : Int) = 0) = False ∧ dI (i + 1) = 1) := by
  cases i with
  | zero => left; exact ⟨rfl, by simp, rfl⟩
  | succ i => right; exact ⟨rfl, by simp; omega, rfl⟩
theorem Snap1.mu0 {own : List (Option (List AV))} {id k n cap : Nat} {es : List AV} (h : own[id]? = some (some es)) (hn : n = es.length) (hc : ∀ e ∈ es, ∀ x ∈ e.leaves, x.clean1 = some x) : Snap1 own (.mu id k 0 n cap) (.sl none k es) :=
  Snap1.mu' (sp := []) (by rw [List.append_nil]; exact h) hn hc
theorem bl_ff : (!decide ((false : Bool) = false)) = false := by decide
theorem bl_tt : (!decide ((true : Bool) = true)) = false := by decide
theorem bl_tf : (!decide ((true : Bool) = false)) = true := by decide
theorem bl_ft : (!decide ((false : Bool) = true)) = true := by decide
theorem cl_ints (l : List Int) : ∀ e ∈ l.map i64, ∀ x ∈ e.leaves, x.clean1 = some x := by
  intro e he x hx
  obtain ⟨o, _, rfl⟩ := List.mem_map.1 he
  simp only [AV.leaves, List.mem_singleton] at hx
  subst hx; rfl

set_option maxHeartbeats 4000000 in
set_option maxRecDepth 8000 in
theorem right22_y (names : List Bs) (l : List (Bs × Int)) (hns : newS names = some (srt names)) : ACalls E 4 [.sl none 1 (names.map str), .sl none 2 (l.map doV)] (fun r t => r = bl true ∧ t = []) := by -- checkroll/checkrolllaw22.CountRight
  refine ACalls.of_awp (n := 136) (rs := [.tmp 4]) Try.func4 rfl Try.ntmps4 rfl ?_
  repeat' (first
    | refine AWP.seqk fun K hK => ?_
    | (
        refine AWP.here 5 19 7 rfl ?_
        refine AWP.regionL ?_
        refine AWPL.at 7 1 rfl ?_
        simp only [go_sem]
        (try refine ⟨⟨_, rfl⟩, ?_⟩)
        (try refine ⟨by omega, ?_⟩)
        (try simp only [go_sem])
        obtain ⟨hs1, hs2, hs3, hs4, hs5⟩ := new_some hns
        refine new_call (names := names) (own := []) (by rfl) (by first | rfl | (simp [AV.bel, AV.bel2, AV.bel1]; done)) (by (repeat' (first | exact OwnBel.nil | refine OwnBel.cons ?_ ?_)) <;> (intro es h; first | (cases h; done) | (cases h; simp [AV.leaves, AV.bel, AV.bel2, AV.bel1]))) (by omega) (fun hn => absurd (hn.symm.trans hns) (by simp)) (fun hn => ?_)
        simp only [go_sem]
        refine AWPL.of ?_
        simp only [go_sem])
    | (
        refine AWP.here 6 24 8 rfl ?_
        refine AWP.regionL ?_
        refine AWPL.at 8 1 rfl ?_
        simp only [go_sem]
        (try refine ⟨⟨_, rfl⟩, ?_⟩)
        (try refine ⟨by omega, ?_⟩)
        (try simp only [go_sem])
        have hrg : refGo [] names = some (srt names) := (ref_new names).trans (by rw [if_neg (by intro e; rw [e] at hs2; simp at hs2), hns])
        refine refnew_call (names := names) (own := [some [.agg [.sl none 1 (List.map str names)]], some (List.replicate names.length (i64 0)), some [bdV (srt names) 1 0 0]]) (by rfl) (by omega) (by first | rfl | (simp [AV.bel, AV.bel2, AV.bel1]; done)) (by (repeat' (first | exact OwnBel.nil | refine OwnBel.cons ?_ ?_)) <;> (intro es h; first | (cases h; done) | (cases h; simp [AV.leaves, AV.bel, AV.bel2, AV.bel1]))) (fun hr => absurd (hr.symm.trans hrg) (by simp)) (fun s hr o1 o2 => ?_)
        obtain rfl : srt names = s := Option.some.inj (hrg.symm.trans hr)
        have hpos : decide (0 < (names.length : Int)) = true := decide_eq_true (by omega)
        simp only [hpos]
        simp only [go_sem]
        refine AWPL.of ?_
        simp only [go_sem])
    | (
        refine AWP.here 9 36 14 rfl ?_
        refine AWP.regionFlow [[], [0], [0, 1], [0, 1, 2], [0, 1, 2, 3], [0, 1, 2, 3, 4], [0, 1, 2, 3, 4, 5], [0, 1, 2, 3, 4, 5, 6], [0, 1, 2, 3, 4, 5, 6, 7], [0, 1, 2, 3, 4, 5, 6], [0, 1, 2, 3, 4, 5, 6, 9], [0, 1, 2, 3, 4, 5, 6, 7, 8, 9, 10], [0, 1, 2, 3, 4, 5, 6, 7, 8, 9, 10, 11], [0, 1, 2, 3, 4, 5, 6, 7, 8, 9, 10, 11, 12]] [i64 0, bl false, bl false, .ptr 2 0 0, bl false, bl false, bl false, .ptr 2 0 0, .sl none 1 ((srt names).map str), .ptr 6 0 0, .sl none 1 ((srt names).map str), bl true, bl false, bl false] [8] (fun _ => [some [.agg [.sl none 1 (List.map str names)]], some (List.replicate names.length (i64 0)), some [bdV (srt names) 1 0 0], o1, o2, some (List.replicate (srt names).length (i64 0)), some [.agg [.sl none 1 ((srt names).map str), .mu 5 1 0 (srt names).length (srt names).length]]]) (by kernel_rfl) (by kernel_rfl) rfl rfl rfl ?_ ?_ ?_
        · intro i o ho hi s hg how htk hrs hr
          rcases i with _ | i
          · simp only [List.getElem?_toArray, List.getElem?_cons_zero, List.getElem?_cons_succ, Option.some.injEq] at ho; subst ho
            have e6 := (hr 6 (by decide)).trans (rfl : _ = (i64 0 : AV))
            refine FOp.list ?_
            simp only [go_sem, e6]
            first | done | rfl | exact ⟨_, rfl⟩ | skip
          rcases i with _ | i
          · simp only [List.getElem?_toArray, List.getElem?_cons_zero, List.getElem?_cons_succ, Option.some.injEq] at ho; subst ho
            have e36 := (hr 36 (by decide)).trans (rfl : _ = (i64 0 : AV))
            refine FOp.list ?_
            simp only [go_sem, e36]
            first | done | rfl | exact ⟨_, rfl⟩ | skip
          rcases i with _ | i
          · simp only [List.getElem?_toArray, List.getElem?_cons_zero, List.getElem?_cons_succ, Option.some.injEq] at ho; subst ho
            have e37 := (hr 37 (by decide)).trans (rfl : _ = (bl false : AV))
            refine FOp.list ?_
            simp only [go_sem, e37]
            first | done | rfl | exact ⟨_, rfl⟩ | skip
          rcases i with _ | i
          · simp only [List.getElem?_toArray, List.getElem?_cons_zero, List.getElem?_cons_succ, Option.some.injEq] at ho; subst ho
            have e5 := (hr 5 (by decide)).trans (rfl : _ = (.ptr 2 0 0 : AV))
            have e38 := (hr 38 (by decide)).trans (rfl : _ = (bl false : AV))
            refine FOp.list ?_
            simp only [go_sem, e5, e38]
            first | done | rfl | exact ⟨_, rfl⟩ | skip
          rcases i with _ | i
          · simp only [List.getElem?_toArray, List.getElem?_cons_zero, List.getElem?_cons_succ, Option.some.injEq] at ho; subst ho
            have e39 := (hr 39 (by decide)).trans (rfl : _ = (.ptr 2 0 0 : AV))
            have e38 := (hr 38 (by decide)).trans (rfl : _ = (bl false : AV))
            refine FOp.list ?_
            simp only [go_sem, e39, e38]
            first | done | rfl | exact ⟨_, rfl⟩ | skip
          rcases i with _ | i
          · simp only [List.getElem?_toArray, List.getElem?_cons_zero, List.getElem?_cons_succ, Option.some.injEq] at ho; subst ho
            have e38 := (hr 38 (by decide)).trans (rfl : _ = (bl false : AV))
            have e40 := (hr 40 (by decide)).trans (rfl : _ = (bl false : AV))
            refine FOp.list ?_
            simp only [go_sem, e38, e40]
            first | done | rfl | exact ⟨_, rfl⟩ | skip
          rcases i with _ | i
          · simp only [List.getElem?_toArray, List.getElem?_cons_zero, List.getElem?_cons_succ, Option.some.injEq] at ho; subst ho
            have e41 := (hr 41 (by decide)).trans (rfl : _ = (bl false : AV))
            refine FOp.list ?_
            simp only [go_sem, e41]
            first | done | rfl | exact ⟨_, rfl⟩ | skip
          rcases i with _ | i
          · simp only [List.getElem?_toArray, List.getElem?_cons_zero, List.getElem?_cons_succ, Option.some.injEq] at ho; subst ho
            have e5 := (hr 5 (by decide)).trans (rfl : _ = (.ptr 2 0 0 : AV))
            have e42 := (hr 42 (by decide)).trans (rfl : _ = (bl false : AV))
            refine FOp.list ?_
            simp only [go_sem, e5, e42]
            first | done | rfl | exact ⟨_, rfl⟩ | skip
          rcases i with _ | i
          · exact absurd (by decide) hi
          rcases i with _ | i
          · simp only [List.getElem?_toArray, List.getElem?_cons_zero, List.getElem?_cons_succ, Option.some.injEq] at ho; subst ho
            have e7 := (hr 7 (by decide)).trans (rfl : _ = (.ptr 6 0 0 : AV))
            have e42 := (hr 42 (by decide)).trans (rfl : _ = (bl false : AV))
            refine FOp.list ?_
            simp only [go_sem, e7, e42]
            first | done | rfl | exact ⟨_, rfl⟩ | skip
          rcases i with _ | i
          · simp only [List.getElem?_toArray, List.getElem?_cons_zero, List.getElem?_cons_succ, Option.some.injEq] at ho; subst ho
            have e45 := (hr 45 (by decide)).trans (rfl : _ = (.ptr 6 0 0 : AV))
            have e42 := (hr 42 (by decide)).trans (rfl : _ = (bl false : AV))
            obtain ⟨kk, hkk⟩ := how
            refine FOp.list ?_
            simp only [go_sem, e45, e42, hkk]
            first | done | rfl | exact ⟨_, rfl⟩ | skip
          rcases i with _ | i
          · simp only [List.getElem?_toArray, List.getElem?_cons_zero, List.getElem?_cons_succ, Option.some.injEq] at ho; subst ho
            have e44 := (hr 44 (by decide)).trans (rfl : _ = (.sl none 1 ((srt names).map str) : AV))
            have e46 := (hr 46 (by decide)).trans (rfl : _ = (.sl none 1 ((srt names).map str) : AV))
            have e42 := (hr 42 (by decide)).trans (rfl : _ = (bl false : AV))
            refine FOp.list ?_
            simp only [go_sem, e44, e46, e42]
            refine ACall.one (texts_c (srt names) (srt names) (by rw [srt_len]; omega)) (by kernel_rfl) rfl ?_
            simp only [go_sem]
            try simp
          rcases i with _ | i
          · simp only [List.getElem?_toArray, List.getElem?_cons_zero, List.getElem?_cons_succ, Option.some.injEq] at ho; subst ho
            have e47 := (hr 47 (by decide)).trans (rfl : _ = (bl true : AV))
            have e42 := (hr 42 (by decide)).trans (rfl : _ = (bl false : AV))
            refine FOp.list ?_
            simp only [go_sem, e47, e42]
            first | done | rfl | exact ⟨_, rfl⟩ | skip
          rcases i with _ | i
          · simp only [List.getElem?_toArray, List.getElem?_cons_zero, List.getElem?_cons_succ, Option.some.injEq] at ho; subst ho
            have e42 := (hr 42 (by decide)).trans (rfl : _ = (bl false : AV))
            have e48 := (hr 48 (by decide)).trans (rfl : _ = (bl false : AV))
            refine FOp.list ?_
            simp only [go_sem, e42, e48]
            first | done | rfl | exact ⟨_, rfl⟩ | skip
          · exact absurd ho (by simp)
        · intro k i o hk ho s hg how htk hrs hup hpp hr
          rcases k with _ | k
          · obtain rfl := Option.some.inj hk
            simp only [List.getElem?_toArray, List.getElem?_cons_zero, List.getElem?_cons_succ, Option.some.injEq] at ho; subst ho
            have e43 := (hr 43 (by decide)).trans (rfl : _ = (.ptr 2 0 0 : AV))
            have e42 := (hr 42 (by decide)).trans (rfl : _ = (bl false : AV))
            clear hr
            obtain ⟨tm, ow0, tk0, gl0, rsv0, up0⟩ := s
            simp only [] at hg how htk hrs hup hpp; subst hg; subst how; subst htk; subst hrs; subst hup
            refine FOp.call fun Q hQ => ?_
            refine AWPL.guardT (by simp only [go_sem, e42]; try rfl) ?_
            refine names_call (id := 2) (c := 1) (nm := srt names) (cn := (List.replicate names.length (0 : Int))) (m := 0) (d := 0) e43 (by rfl) (by rw [List.map_replicate]; rfl) (by rw [srt_len, List.length_replicate]) (by rw [srt_len]; omega) ?_
            exact hQ
          · exact absurd hk (by simp)
        simp only [go_sem, Go.Abs.setAll, Go.Abs.dstsOf, List.map_cons, List.map_nil])
    | (
        refine AWP.here 14 60 24 rfl ?_
        obtain ⟨⟨x, n⟩, hx⟩ : ∃ b, l[i]? = some b := ⟨_, List.getElem?_eq_getElem (by omega)⟩
        have hx2 : (l.map doV)[i]? = some (doV (x, n)) := by rw [List.getElem?_map, hx]; rfl
        obtain ⟨e, cn', hadd⟩ : ∃ e cn', addS (srt names) cn x n = (e, cn') := ⟨_, _, rfl⟩
        have hlen := addS_len (srt names) cn x n
        rw [hadd] at hlen
        change cn'.length = cn.length at hlen
        refine AWP.regionFlow [[], [], [], [1, 2], [1, 2, 3], [1, 2, 3, 4], [], [], [6, 7], [6, 7, 8], [6, 7, 8, 9], [0, 1, 2, 3, 4, 5, 6, 7, 8, 9, 10], [], [], [12, 13], [12, 13, 14], [12, 13, 14, 15], [], [], [17, 18], [17, 18, 19], [17, 18, 19, 20], [0, 1, 2, 3, 4, 5, 6, 7, 8, 9, 10, 11, 12, 13, 14, 15, 16, 17, 18, 19, 20, 21], [0, 1, 2, 3, 4, 5, 6, 7, 8, 9, 10, 11, 12, 13, 14, 15, 16, 17, 18, 19, 20, 21, 22]] [.ptr 2 0 0, .sl none 2 (l.map doV), i64 i, .rptr [str x, i64 n], .rptr [str x, i64 n], str x, .sl none 2 (l.map doV), i64 i, .rptr [str x, i64 n], .rptr [i64 n], i64 n, i64 e, .sl none 2 (l.map doV), i64 i, .rptr [str x, i64 n], .rptr [str x, i64 n], str x, .sl none 2 (l.map doV), i64 i, .rptr [str x, i64 n], .rptr [i64 n], i64 n, i64 e, bl false] [11, 22] (fun k => [[none, some (List.map i64 cn), some [bdV (srt names) 1 0 (dI i)], none, none, some (List.map i64 cn), some [.agg [.sl none 1 ((srt names).map str), .mu 5 1 0 (srt names).length (srt names).length]]], [none, some (List.map i64 cn'), some [bdV (srt names) 1 0 (dI i)], none, none, some (List.map i64 cn), some [.agg [.sl none 1 ((srt names).map str), .mu 5 1 0 (srt names).length (srt names).length]]], [none, some (List.map i64 cn'), some [bdV (srt names) 1 0 (dI i)], none, none, some (List.map i64 cn'), some [.agg [.sl none 1 ((srt names).map str), .mu 5 1 0 (srt names).length (srt names).length]]]].getD k []) (by kernel_rfl) (by kernel_rfl) rfl rfl rfl ?_ ?_ ?_
        · intro i o ho hi s hg how htk hrs hr
          rcases i with _ | i
          · simp only [List.getElem?_toArray, List.getElem?_cons_zero, List.getElem?_cons_succ, Option.some.injEq] at ho; subst ho
            have e5 := (hr 5 (by decide)).trans (rfl : _ = (.ptr 2 0 0 : AV))
            refine FOp.list ?_
            simp only [go_sem, e5, hx2, hx, List.length_map, Int.toNat_natCast]
            first | done | rfl | exact ⟨_, rfl⟩ | skip
          rcases i with _ | i
          · simp only [List.getElem?_toArray, List.getElem?_cons_zero, List.getElem?_cons_succ, Option.some.injEq] at ho; subst ho
            have e1 := (hr 1 (by decide)).trans (rfl : _ = (.sl none 2 (l.map doV) : AV))
            refine FOp.list ?_
            simp only [go_sem, e1, hx2, hx, List.length_map, Int.toNat_natCast]
            first | done | rfl | exact ⟨_, rfl⟩ | skip
          rcases i with _ | i
          · simp only [List.getElem?_toArray, List.getElem?_cons_zero, List.getElem?_cons_succ, Option.some.injEq] at ho; subst ho
            have e9 := (hr 9 (by decide)).trans (rfl : _ = (i64 i : AV))
            refine FOp.list ?_
            simp only [go_sem, e9, hx2, hx, List.length_map, Int.toNat_natCast]
            first | done | rfl | exact ⟨_, rfl⟩ | skip
          rcases i with _ | i
          · simp only [List.getElem?_toArray, List.getElem?_cons_zero, List.getElem?_cons_succ, Option.some.injEq] at ho; subst ho
            have e61 := (hr 61 (by decide)).trans (rfl : _ = (.sl none 2 (l.map doV) : AV))
            have e62 := (hr 62 (by decide)).trans (rfl : _ = (i64 i : AV))
            refine FOp.list ?_
            simp only [go_sem, e61, e62, hx2, hx, List.length_map, Int.toNat_natCast]
            first | done | rfl | exact ⟨_, rfl⟩ | skip
          rcases i with _ | i
          · simp only [List.getElem?_toArray, List.getElem?_cons_zero, List.getElem?_cons_succ, Option.some.injEq] at ho; subst ho
            have e63 := (hr 63 (by decide)).trans (rfl : _ = (.rptr [str x, i64 n] : AV))
            refine FOp.list ?_
            simp only [go_sem, e63, hx2, hx, List.length_map, Int.toNat_natCast]
            first | done | rfl | exact ⟨_, rfl⟩ | skip
          rcases i with _ | i
          · simp only [List.getElem?_toArray, List.getElem?_cons_zero, List.getElem?_cons_succ, Option.some.injEq] at ho; subst ho
            have e64 := (hr 64 (by decide)).trans (rfl : _ = (.rptr [str x, i64 n] : AV))
            refine FOp.list ?_
            simp only [go_sem, e64, hx2, hx, List.length_map, Int.toNat_natCast]
            first | done | rfl | exact ⟨_, rfl⟩ | skip
          rcases i with _ | i
          · simp only [List.getElem?_toArray, List.getElem?_cons_zero, List.getElem?_cons_succ, Option.some.injEq] at ho; subst ho
            have e1 := (hr 1 (by decide)).trans (rfl : _ = (.sl none 2 (l.map doV) : AV))
            refine FOp.list ?_
            simp only [go_sem, e1, hx2, hx, List.length_map, Int.toNat_natCast]
            first | done | rfl | exact ⟨_, rfl⟩ | skip
          rcases i with _ | i
          · simp only [List.getElem?_toArray, List.getElem?_cons_zero, List.getElem?_cons_succ, Option.some.injEq] at ho; subst ho
            have e9 := (hr 9 (by decide)).trans (rfl : _ = (i64 i : AV))
            refine FOp.list ?_
            simp only [go_sem, e9, hx2, hx, List.length_map, Int.toNat_natCast]
            first | done | rfl | exact ⟨_, rfl⟩ | skip
          rcases i with _ | i
          · simp only [List.getElem?_toArray, List.getElem?_cons_zero, List.getElem?_cons_succ, Option.some.injEq] at ho; subst ho
            have e66 := (hr 66 (by decide)).trans (rfl : _ = (.sl none 2 (l.map doV) : AV))
            have e67 := (hr 67 (by decide)).trans (rfl : _ = (i64 i : AV))
            refine FOp.list ?_
            simp only [go_sem, e66, e67, hx2, hx, List.length_map, Int.toNat_natCast]
            first | done | rfl | exact ⟨_, rfl⟩ | skip
          rcases i with _ | i
          · simp only [List.getElem?_toArray, List.getElem?_cons_zero, List.getElem?_cons_succ, Option.some.injEq] at ho; subst ho
            have e68 := (hr 68 (by decide)).trans (rfl : _ = (.rptr [str x, i64 n] : AV))
            refine FOp.list ?_
            simp only [go_sem, e68, hx2, hx, List.length_map, Int.toNat_natCast]
            first | done | rfl | exact ⟨_, rfl⟩ | skip
          rcases i with _ | i
          · simp only [List.getElem?_toArray, List.getElem?_cons_zero, List.getElem?_cons_succ, Option.some.injEq] at ho; subst ho
            have e69 := (hr 69 (by decide)).trans (rfl : _ = (.rptr [i64 n] : AV))
            refine FOp.list ?_
            simp only [go_sem, e69, hx2, hx, List.length_map, Int.toNat_natCast]
            first | done | rfl | exact ⟨_, rfl⟩ | skip
          rcases i with _ | i
          · exact absurd (by decide) hi
          rcases i with _ | i
          · simp only [List.getElem?_toArray, List.getElem?_cons_zero, List.getElem?_cons_succ, Option.some.injEq] at ho; subst ho
            have e1 := (hr 1 (by decide)).trans (rfl : _ = (.sl none 2 (l.map doV) : AV))
            refine FOp.list ?_
            simp only [go_sem, e1, hx2, hx, List.length_map, Int.toNat_natCast]
            first | done | rfl | exact ⟨_, rfl⟩ | skip
          rcases i with _ | i
          · simp only [List.getElem?_toArray, List.getElem?_cons_zero, List.getElem?_cons_succ, Option.some.injEq] at ho; subst ho
            have e9 := (hr 9 (by decide)).trans (rfl : _ = (i64 i : AV))
            refine FOp.list ?_
            simp only [go_sem, e9, hx2, hx, List.length_map, Int.toNat_natCast]
            first | done | rfl | exact ⟨_, rfl⟩ | skip
          rcases i with _ | i
          · simp only [List.getElem?_toArray, List.getElem?_cons_zero, List.getElem?_cons_succ, Option.some.injEq] at ho; subst ho
            have e72 := (hr 72 (by decide)).trans (rfl : _ = (.sl none 2 (l.map doV) : AV))
            have e73 := (hr 73 (by decide)).trans (rfl : _ = (i64 i : AV))
            refine FOp.list ?_
            simp only [go_sem, e72, e73, hx2, hx, List.length_map, Int.toNat_natCast]
            first | done | rfl | exact ⟨_, rfl⟩ | skip
          rcases i with _ | i
          · simp only [List.getElem?_toArray, List.getElem?_cons_zero, List.getElem?_cons_succ, Option.some.injEq] at ho; subst ho
            have e74 := (hr 74 (by decide)).trans (rfl : _ = (.rptr [str x, i64 n] : AV))
            refine FOp.list ?_
            simp only [go_sem, e74, hx2, hx, List.length_map, Int.toNat_natCast]
            first | done | rfl | exact ⟨_, rfl⟩ | skip
          rcases i with _ | i
          · simp only [List.getElem?_toArray, List.getElem?_cons_zero, List.getElem?_cons_succ, Option.some.injEq] at ho; subst ho
            have e75 := (hr 75 (by decide)).trans (rfl : _ = (.rptr [str x, i64 n] : AV))
            refine FOp.list ?_
            simp only [go_sem, e75, hx2, hx, List.length_map, Int.toNat_natCast]
            first | done | rfl | exact ⟨_, rfl⟩ | skip
          rcases i with _ | i
          · simp only [List.getElem?_toArray, List.getElem?_cons_zero, List.getElem?_cons_succ, Option.some.injEq] at ho; subst ho
            have e1 := (hr 1 (by decide)).trans (rfl : _ = (.sl none 2 (l.map doV) : AV))
            refine FOp.list ?_
            simp only [go_sem, e1, hx2, hx, List.length_map, Int.toNat_natCast]
            first | done | rfl | exact ⟨_, rfl⟩ | skip
          rcases i with _ | i
          · simp only [List.getElem?_toArray, List.getElem?_cons_zero, List.getElem?_cons_succ, Option.some.injEq] at ho; subst ho
            have e9 := (hr 9 (by decide)).trans (rfl : _ = (i64 i : AV))
            refine FOp.list ?_
            simp only [go_sem, e9, hx2, hx, List.length_map, Int.toNat_natCast]
            first | done | rfl | exact ⟨_, rfl⟩ | skip
          rcases i with _ | i
          · simp only [List.getElem?_toArray, List.getElem?_cons_zero, List.getElem?_cons_succ, Option.some.injEq] at ho; subst ho
            have e77 := (hr 77 (by decide)).trans (rfl : _ = (.sl none 2 (l.map doV) : AV))
            have e78 := (hr 78 (by decide)).trans (rfl : _ = (i64 i : AV))
            refine FOp.list ?_
            simp only [go_sem, e77, e78, hx2, hx, List.length_map, Int.toNat_natCast]
            first | done | rfl | exact ⟨_, rfl⟩ | skip
          rcases i with _ | i
          · simp only [List.getElem?_toArray, List.getElem?_cons_zero, List.getElem?_cons_succ, Option.some.injEq] at ho; subst ho
            have e79 := (hr 79 (by decide)).trans (rfl : _ = (.rptr [str x, i64 n] : AV))
            refine FOp.list ?_
            simp only [go_sem, e79, hx2, hx, List.length_map, Int.toNat_natCast]
            first | done | rfl | exact ⟨_, rfl⟩ | skip
          rcases i with _ | i
          · simp only [List.getElem?_toArray, List.getElem?_cons_zero, List.getElem?_cons_succ, Option.some.injEq] at ho; subst ho
            have e80 := (hr 80 (by decide)).trans (rfl : _ = (.rptr [i64 n] : AV))
            refine FOp.list ?_
            simp only [go_sem, e80, hx2, hx, List.length_map, Int.toNat_natCast]
            first | done | rfl | exact ⟨_, rfl⟩ | skip
          rcases i with _ | i
          · exact absurd (by decide) hi
          rcases i with _ | i
          · simp only [List.getElem?_toArray, List.getElem?_cons_zero, List.getElem?_cons_succ, Option.some.injEq] at ho; subst ho
            have e71 := (hr 71 (by decide)).trans (rfl : _ = (i64 e : AV))
            have e82 := (hr 82 (by decide)).trans (rfl : _ = (i64 e : AV))
            refine FOp.list ?_
            simp only [go_sem, e71, e82, hx2, hx, List.length_map, Int.toNat_natCast]
            first | done | rfl | exact ⟨_, rfl⟩ | skip
          · exact absurd ho (by simp)
        · intro k i o hk ho s hg how htk hrs hup hpp hr
          rcases k with _ | k
          · obtain rfl := Option.some.inj hk
            simp only [List.getElem?_toArray, List.getElem?_cons_zero, List.getElem?_cons_succ, Option.some.injEq] at ho; subst ho
            have e60 := (hr 60 (by decide)).trans (rfl : _ = (.ptr 2 0 0 : AV))
            have e65 := (hr 65 (by decide)).trans (rfl : _ = (str x : AV))
            have e70 := (hr 70 (by decide)).trans (rfl : _ = (i64 n : AV))
            clear hr
            obtain ⟨tm, ow0, tk0, gl0, rsv0, up0⟩ := s
            simp only [] at hg how htk hrs hup hpp; subst hg; subst how; subst htk; subst hrs; subst hup
            refine FOp.call fun Q hQ => ?_
            refine add_call (id := 2) (c := 1) (nm := srt names) (cn := cn) (d := dI i) (s := x) (n := n) e60 e65 e70 (by rfl) (by rfl) (by first | assumption | omega) (by rw [srt_len]; omega) (by decide) ?_
            rw [hadd]
            exact hQ
          rcases k with _ | k
          · obtain rfl := Option.some.inj hk
            simp only [List.getElem?_toArray, List.getElem?_cons_zero, List.getElem?_cons_succ, Option.some.injEq] at ho; subst ho
            have e7 := (hr 7 (by decide)).trans (rfl : _ = (.ptr 6 0 0 : AV))
            have e76 := (hr 76 (by decide)).trans (rfl : _ = (str x : AV))
            have e81 := (hr 81 (by decide)).trans (rfl : _ = (i64 n : AV))
            clear hr
            obtain ⟨tm, ow0, tk0, gl0, rsv0, up0⟩ := s
            simp only [] at hg how htk hrs hup hpp; subst hg; subst how; subst htk; subst hrs; subst hup
            refine FOp.call fun Q hQ => ?_
            refine radd_call (id := 6) (c := 5) (nm := srt names) (cn := cn) (s := x) (n := n) e7 e76 e81 (by rfl) (by rfl) (by first | assumption | omega) (by rw [srt_len]; omega) (by rw [List.append_nil]; exact hpp _ (by first | rfl | (simp [AV.bel, AV.bel2, AV.bel1]; done)) (by first | rfl | (simp [AV.bel, AV.bel2, AV.bel1]; done))) (by (repeat' (first | exact OwnBel.nil | refine OwnBel.cons ?_ ?_)) <;> (intro es h; first | (cases h; done) | (cases h; simp [AV.leaves, AV.bel, AV.bel2, AV.bel1]))) (by decide) ?_
            rw [hadd]
            exact hQ
          · exact absurd hk (by simp)
        simp only [go_sem, Go.Abs.setAll, Go.Abs.dstsOf, List.map_cons, List.map_nil])
    | (
        refine AWP.here 16 85 12 rfl ?_
        rcases idcase (srt names) x (cn := cn) with hneg | ⟨k, hk2, hk⟩
        have hq : (0 ≤ idI (srt names) x) = False := by rw [eq_iff_iff, iff_false]; omega
        have hv2 := hx
        have hv3 := hx
        refine AWP.regionL ?_
        refine AWPL.at 12 6 rfl ?_
        simp only [go_sem, hx, hx2, Option.map_some, List.length_map, Int.toNat_natCast]
        (try refine ⟨⟨_, rfl⟩, ?_⟩)
        (try refine ⟨by omega, ?_⟩)
        (try simp only [go_sem, hx, hx2, Option.map_some, List.length_map, Int.toNat_natCast])
        refine get_call (id := 2) (c := 1) (nm := srt names) (cn := cn') (m := 0) (d := dI i) (s := x) (by rfl) (by rfl) (by rfl) (by rfl) (by omega) (by rw [srt_len]; omega) ?_
        rw [getF_no hneg]
        simp only [go_sem, hx, hx2, Option.map_some, List.length_map, Int.toNat_natCast]
        refine AWPL.of ?_
        simp only [go_sem, hx, hx2, Option.map_some, List.length_map, Int.toNat_natCast]
        rotate_left
        have hq : (0 ≤ (k : Int)) = True := by simp
        obtain ⟨v, hv⟩ : ∃ v, cn'[k]? = some v := ⟨_, List.getElem?_eq_getElem (by omega)⟩
        have hv2 : (cn'.map i64)[k]? = some (i64 v) := map_get hv
        have hv3 := hv
        refine AWP.regionL ?_
        refine AWPL.at 12 6 rfl ?_
        simp only [go_sem, hx, hx2, Option.map_some, List.length_map, Int.toNat_natCast]
        (try refine ⟨⟨_, rfl⟩, ?_⟩)
        (try refine ⟨by omega, ?_⟩)
        (try simp only [go_sem, hx, hx2, Option.map_some, List.length_map, Int.toNat_natCast])
        refine get_call (id := 2) (c := 1) (nm := srt names) (cn := cn') (m := 0) (d := dI i) (s := x) (by rfl) (by rfl) (by rfl) (by rfl) (by omega) (by rw [srt_len]; omega) ?_
        rw [getF_yes hk2 hv]
        simp only [go_sem, hx, hx2, Option.map_some, List.length_map, Int.toNat_natCast]
        refine AWPL.of ?_
        simp only [go_sem, hx, hx2, Option.map_some, List.length_map, Int.toNat_natCast])
    | (
        refine AWP.here 17 94 7 rfl ?_
        refine AWP.regionL ?_
        refine AWPL.at 7 5 rfl ?_
        simp only [go_sem, hx, hx2, Option.map_some, List.length_map, Int.toNat_natCast]
        (try refine ⟨⟨_, rfl⟩, ?_⟩)
        (try refine ⟨by omega, ?_⟩)
        (try simp only [go_sem, hx, hx2, Option.map_some, List.length_map, Int.toNat_natCast])
        refine rat_call (id := 6) (c := 5) (nm := srt names) (cn := cn') (s := x) (by rfl) (by rfl) (by rfl) (by rfl) (by omega) (by rw [srt_len]; omega) (by first | rfl | (simp [AV.bel, AV.bel2, AV.bel1]; done)) (by (repeat' (first | exact OwnBel.nil | refine OwnBel.cons ?_ ?_)) <;> (intro es h; first | (cases h; done) | (cases h; simp [AV.leaves, AV.bel, AV.bel2, AV.bel1]))) ?_
        (try rw [hk2])
        simp only [go_sem, hx, hx2, Option.map_some, List.length_map, Int.toNat_natCast]
        refine AWPL.of ?_
        simp only [go_sem, hx, hx2, Option.map_some, List.length_map, Int.toNat_natCast])
    | (
        refine AWP.here 18 100 31 rfl ?_
        rcases dcase i with ⟨hi0, hi1, hi2⟩ | ⟨hi0, hi1, hi2⟩
        refine AWP.regionL ?_
        refine AWPL.at 31 26 rfl ?_
        simp only [go_sem, hx, hx2, Option.map_some, List.length_map, Int.toNat_natCast, hi1, hq, hv2, hv3, decide_false, decide_true, bl_ff, bl_tt, bl_tf, bl_ft]
        (try refine ⟨⟨_, rfl⟩, ?_⟩)
        (try refine ⟨by omega, ?_⟩)
        (try simp only [go_sem, hx, hx2, Option.map_some, List.length_map, Int.toNat_natCast, hi1, hq, hv2, hv3, decide_false, decide_true, bl_ff, bl_tt, bl_tf, bl_ft])
        refine AWPL.guardT (by rfl) ?_
        try simp only [hi0]
        refine first0_call (id := 2) (cid := 1) (nm := srt names) (by rfl) (by rfl) ?_
        simp only [go_sem, hx, hx2, Option.map_some, List.length_map, Int.toNat_natCast, hi1, hq, hv2, hv3, decide_false, decide_true, bl_ff, bl_tt, bl_tf, bl_ft]
        refine AWPL.of ?_
        simp only [go_sem, hx, hx2, Option.map_some, List.length_map, Int.toNat_natCast, hi1, hq, hv2, hv3, decide_false, decide_true, bl_ff, bl_tt, bl_tf, bl_ft]
        rotate_left
        refine AWP.regionL ?_
        refine AWPL.at 31 26 rfl ?_
        simp only [go_sem, hx, hx2, Option.map_some, List.length_map, Int.toNat_natCast, hi1, hq, hv2, hv3, decide_false, decide_true, bl_ff, bl_tt, bl_tf, bl_ft]
        (try refine ⟨⟨_, rfl⟩, ?_⟩)
        (try refine ⟨by omega, ?_⟩)
        (try simp only [go_sem, hx, hx2, Option.map_some, List.length_map, Int.toNat_natCast, hi1, hq, hv2, hv3, decide_false, decide_true, bl_ff, bl_tt, bl_tf, bl_ft])
        refine AWPL.guardT (by rfl) ?_
        try simp only [hi0]
        refine first1_call (id := 2) (cid := 1) (nm := srt names) (by rfl) (by rfl) ?_
        simp only [go_sem, hx, hx2, Option.map_some, List.length_map, Int.toNat_natCast, hi1, hq, hv2, hv3, decide_false, decide_true, bl_ff, bl_tt, bl_tf, bl_ft]
        refine AWPL.of ?_
        simp only [go_sem, hx, hx2, Option.map_some, List.length_map, Int.toNat_natCast, hi1, hq, hv2, hv3, decide_false, decide_true, bl_ff, bl_tt, bl_tf, bl_ft])
    | (
        refine AWP.here 20 131 6 rfl ?_
        refine AWP.regionFlow [[], [0], [], [2], [0, 1, 2, 3], [0, 1, 2, 3, 4]] [.ptr 2 0 0, .sl none 1 (cn.map i64), .ptr 6 0 1, .mu 5 1 0 (srt names).length (srt names).length, bl true, bl true] [1] (fun _ => [none, some (List.map i64 cn), some [bdV (srt names) 1 0 (dI i)], none, none, some (List.map i64 cn), some [.agg [.sl none 1 ((srt names).map str), .mu 5 1 0 (srt names).length (srt names).length]]]) (by kernel_rfl) (by kernel_rfl) rfl rfl rfl ?_ ?_ ?_
        · intro i o ho hi s hg how htk hrs hr
          rcases i with _ | i
          · simp only [List.getElem?_toArray, List.getElem?_cons_zero, List.getElem?_cons_succ, Option.some.injEq] at ho; subst ho
            have e5 := (hr 5 (by decide)).trans (rfl : _ = (.ptr 2 0 0 : AV))
            refine FOp.list ?_
            simp only [go_sem, e5]
            first | done | rfl | exact ⟨_, rfl⟩ | skip
          rcases i with _ | i
          · exact absurd (by decide) hi
          rcases i with _ | i
          · simp only [List.getElem?_toArray, List.getElem?_cons_zero, List.getElem?_cons_succ, Option.some.injEq] at ho; subst ho
            have e7 := (hr 7 (by decide)).trans (rfl : _ = (.ptr 6 0 0 : AV))
            refine FOp.list ?_
            simp only [go_sem, e7]
            first | done | rfl | exact ⟨_, rfl⟩ | skip
          rcases i with _ | i
          · simp only [List.getElem?_toArray, List.getElem?_cons_zero, List.getElem?_cons_succ, Option.some.injEq] at ho; subst ho
            have e133 := (hr 133 (by decide)).trans (rfl : _ = (.ptr 6 0 1 : AV))
            obtain ⟨kk, hkk⟩ := how
            refine FOp.list ?_
            simp only [go_sem, e133, hkk]
            first | done | rfl | exact ⟨_, rfl⟩ | skip
          rcases i with _ | i
          · simp only [List.getElem?_toArray, List.getElem?_cons_zero, List.getElem?_cons_succ, Option.some.injEq] at ho; subst ho
            have e132 := (hr 132 (by decide)).trans (rfl : _ = (.sl none 1 (cn.map i64) : AV))
            have e134 := (hr 134 (by decide)).trans (rfl : _ = (.mu 5 1 0 (srt names).length (srt names).length : AV))
            obtain ⟨tm, ow0, tk0, gl0, rsv0, up0⟩ := s
            obtain ⟨kk, hkk⟩ := how
            simp only [] at hkk hrs htk hg
            subst hkk; subst hrs; subst htk; subst hg
            refine FOp.list ?_
            simp only [go_sem, e132, e134]
            refine ACall.sn (E := E) (xs := [.sl none 1 (cn.map i64), .mu 5 1 0 (srt names).length (srt names).length]) (caps := []) ?_ (numbers_c cn cn (by rw [hl2, srt_len]; omega)) (by kernel_rfl) (by rfl) (by first | exact ⟨_, rfl⟩ | (simp [Fresh, Fresh2, Fresh1]; done)) ?_
            · exact .cons (.one (.clean rfl)) (.cons (.one (Snap1.mu0 rfl (by simp [hl2]) (cl_ints _))) .nil)
            simp only [go_sem]
            try simp
          rcases i with _ | i
          · simp only [List.getElem?_toArray, List.getElem?_cons_zero, List.getElem?_cons_succ, Option.some.injEq] at ho; subst ho
            have e135 := (hr 135 (by decide)).trans (rfl : _ = (bl true : AV))
            refine FOp.list ?_
            simp only [go_sem, e135]
            first | done | rfl | exact ⟨_, rfl⟩ | skip
          · exact absurd ho (by simp)
        · intro k i o hk ho s hg how htk hrs hup hpp hr
          rcases k with _ | k
          · obtain rfl := Option.some.inj hk
            simp only [List.getElem?_toArray, List.getElem?_cons_zero, List.getElem?_cons_succ, Option.some.injEq] at ho; subst ho
            have e131 := (hr 131 (by decide)).trans (rfl : _ = (.ptr 2 0 0 : AV))
            clear hr
            obtain ⟨tm, ow0, tk0, gl0, rsv0, up0⟩ := s
            simp only [] at hg how htk hrs hup hpp; subst hg; subst how; subst htk; subst hrs; subst hup
            refine FOp.call fun Q hQ => ?_
            refine all_call (id := 2) (cid := 1) (nm := srt names) (cn := cn) (d := dI i) e131 (by rfl) (by rfl) (by first | assumption | omega) (by rw [srt_len]; omega) (by decide) (by rw [List.append_nil]; exact hpp _ (by first | rfl | (simp [AV.bel, AV.bel2, AV.bel1]; done)) (by first | rfl | (simp [AV.bel, AV.bel2, AV.bel1]; done))) (by (repeat' (first | exact OwnBel.nil | refine OwnBel.cons ?_ ?_)) <;> (intro es h; first | (cases h; done) | (cases h; simp [AV.leaves, AV.bel, AV.bel2, AV.bel1]))) ?_
            exact hQ
          · exact absurd hk (by simp)
        simp only [go_sem, Go.Abs.setAll, Go.Abs.dstsOf, List.map_cons, List.map_nil])
    | (refine AWP.region ?_; simp only [go_sem])
    | (refine AWP.here 9 36 14 rfl ?_; refine AWP.regionO [0, 1, 2, 3, 4, 5, 6, 7, 9, 10, 8, 11, 12, 13] [] (by kernel_rfl) (by kernel_rfl) rfl ?_; simp only [go_sem])
    | (refine AWP.here 14 60 24 rfl ?_; refine AWP.regionAs [0, 1, 2, 3, 4, 5, 6, 7, 8, 9, 10, 12, 13, 14, 15, 16, 17, 18, 19, 20, 21, 11, 22, 23] [[], [], [], [1, 2], [1, 2, 3], [1, 2, 3, 4], [], [], [6, 7], [6, 7, 8], [6, 7, 8, 9], [0, 1, 2, 3, 4, 5, 6, 7, 8, 9, 10], [], [], [12, 13], [12, 13, 14], [12, 13, 14, 15], [], [], [17, 18], [17, 18, 19], [17, 18, 19, 20], [0, 1, 2, 3, 4, 5, 6, 7, 8, 9, 10, 11, 12, 13, 14, 15, 16, 17, 18, 19, 20, 21], [0, 1, 2, 3, 4, 5, 6, 7, 8, 9, 10, 11, 12, 13, 14, 15, 16, 17, 18, 19, 20, 21, 22]] [] (by kernel_rfl) (by kernel_rfl) (by decide) rfl ?_; simp only [go_sem])
    | (refine AWP.here 20 131 6 rfl ?_; refine AWP.regionO [0, 2, 3, 1, 4, 5] [] (by kernel_rfl) (by kernel_rfl) rfl ?_; simp only [go_sem])
    | (refine hK _ ?_; clear hK K)
    | refine AWP.block ?_
    | refine AWP.cond rfl (fun c => ?_) (fun c => ?_) <;> first | exact Bool.noConfusion c | (try simp only [dD] at c)
    | refine AWP.skip ?_
    | (refine AWP.exit ?_; simp only [go_sem])
    | (refine ACall.one (awake22_c) (by kernel_rfl) rfl ?_; simp only [go_sem])
    | (refine ACall.one (new_call ) (by kernel_rfl) rfl ?_; simp only [go_sem])
    | (refine ACall.one (refnew_call ) (by kernel_rfl) rfl ?_; simp only [go_sem])
    | (refine ACall.one (names_call ) (by kernel_rfl) rfl ?_; simp only [go_sem])
    | (refine ACall.one (texts_c _ _ (by first | assumption | omega | (simp only [List.length_take]; omega))) (by kernel_rfl) rfl ?_; simp only [go_sem])
    | (refine ACall.one (add_call ) (by kernel_rfl) rfl ?_; simp only [go_sem])
    | (refine ACall.one (radd_call ) (by kernel_rfl) rfl ?_; simp only [go_sem])
    | (refine ACall.one (get_call ) (by kernel_rfl) rfl ?_; simp only [go_sem])
    | (refine ACall.one (rat_call ) (by kernel_rfl) rfl ?_; simp only [go_sem])
    | (refine ACall.one (first0_call ) (by kernel_rfl) rfl ?_; simp only [go_sem])
    | (refine ACall.one (all_call ) (by kernel_rfl) rfl ?_; simp only [go_sem])
    | (refine ACall.one (numbers_c _ _ (by first | assumption | omega | (simp only [List.length_take]; omega))) (by kernel_rfl) rfl ?_; simp only [go_sem])
    | (refine AGuard.splitN (fun h => ?_) (fun h => ?_) <;> simp only [h, go_sem] <;> (try simp only [dD] at h))
    | (refine AGuard.split (fun h => ?_) (fun h => ?_) <;> simp only [h, go_sem] <;> (try simp only [dD] at h))
    | (refine AGet.haveM (by assumption) ?_; (try simp only [go_sem]))
    | (refine AGet.have' (by assumption) ?_; (try simp only [go_sem]))
    | ((first | refine AGet.nth ?_ (fun b hb => ?_) | refine AGet.nth1 ?_ (fun b hb => ?_) | with_reducible refine And.intro ?_ ?_); (focus (first | omega | assumption | exact List.length_pos_iff.2 (by assumption) | (simp only [List.length_append, List.length_cons, List.length_nil, List.length_map, List.length_take, List.length_drop] at *; omega) | (rw [wrap64_id (by omega) (by omega)]; omega) | (simp; done) | (simp [spare_len]; done) | (exact ⟨by omega, by omega⟩))); (try simp only [hb, go_sem]))
    | (
        refine AWP.here 12 50 8 rfl ?_
        refine AWP.loopM (ι := Nat × List Int) [4, 10, 11, 12, 50, 51, 52, 53, 54, 55, 56, 57, 58, 59, 60, 61, 62, 63, 64, 65, 66, 67, 68, 69, 70, 71, 72, 73, 74, 75, 76, 77, 78, 79, 80, 81, 82, 83, 84, 85, 86, 87, 88, 89, 90, 91, 92, 93, 94, 95, 96, 97, 98, 99, 100, 101, 102, 103, 104, 105, 106, 107, 108, 109, 110, 111, 112, 113, 114, 115, 116, 117, 118, 119, 120, 121, 122, 123, 124, 125, 126, 127, 128, 129, 130] (fun ⟨i, cn⟩ => [(9, i64 i)]) (fun ⟨i, cn⟩ => [none, some (List.map i64 cn), some [bdV (srt names) 1 0 (dI i)], none, none, some (List.map i64 cn), some [.agg [.sl none 1 ((srt names).map str), .mu 5 1 0 (srt names).length (srt names).length]]]) (fun ⟨i, cn⟩ => []) (fun ⟨i, cn⟩ => i ≤ l.length ∧ cn.length = (srt names).length) (fun ⟨i, cn⟩ => l.length - i) ((0, (List.replicate names.length (0 : Int)))) ?_ ?_ ?_
        · (try simp only [go_sem]); (repeat' (first | exact .inr ⟨by first | rfl | (simp [srt_len]; done), by intro es h; cases h; simp [AV.leaves, AV.bel, AV.bel2, AV.bel1]⟩ | refine And.intro ?_ ?_ | exact .inl rfl | exact .inr rfl | exact .inr ⟨rfl, rfl⟩ | trivial | exact .inr (oblA rfl) | exact .inr ⟨rfl, oblA rfl⟩ | exact .inr bel_strs | exact .inr ⟨rfl, bel_strs⟩ | exact .inr ⟨by simp, bel_strs⟩ | (simp; done) | exact .inr ⟨rfl, by simp⟩ | exact .inr ⟨by simp, by simp⟩)); done
        · exact ⟨by omega, by simp [srt_len]⟩
        rintro ⟨i, cn⟩ ⟨h1, hl2⟩
        simp only [go_sem])
    | (
        refine ⟨(i + 1, cn'), ?_, ?_, ?_⟩
        · (try simp only [go_sem]); (try rw [wrap64_id (by omega) (by omega)]); (try simp only [hi0, hi2]); (repeat' (first | exact .inr ⟨by first | rfl | (simp [srt_len]; done), by intro es h; cases h; simp [AV.leaves, AV.bel, AV.bel2, AV.bel1]⟩ | refine And.intro ?_ ?_ | exact .inl rfl | exact .inr rfl | exact .inr ⟨rfl, rfl⟩ | trivial | exact .inr (oblA rfl) | exact .inr ⟨rfl, oblA rfl⟩ | exact .inr bel_strs | exact .inr ⟨rfl, bel_strs⟩ | exact .inr ⟨by simp, bel_strs⟩ | (simp; done) | exact .inr ⟨rfl, by simp⟩ | exact .inr ⟨by simp, by simp⟩)); done
        · exact ⟨(by show i + 1 ≤ _; omega), (by show cn'.length = _; omega)⟩
        · (try simp only []); omega)
    | (
        refine AWP.ret ?_
        refine AEnd.is ?_; simp only [go_sem, out_v, out_s, out_n, v_int, v_bool, v_str] <;> (first | rfl | simp))
    | refine AWP.fin (by assumption) ?_
    | fail)


end Go.Proofs.Ytceiiajacnihjaa
