/- Texts of one chain, put together (G34, G35, G36, G12, G13, Lw, Ls, G14, G15). -/
import Derived.Test.YtajeeghgiilhiaaGreatKuM
import Derived.Test.YtajeeghgiilhiaaGreatKuN
import Derived.Test.YtajeeghgiilhiaaGreatKuK
import Derived.Test.YtajeeghgiilhiaaGreatKuL
set_option linter.unusedVariables false
set_option linter.unusedSimpArgs false
section
namespace Go.Proofs.YtajeeghgiilhiaaGreat
open Go Go.Abs Go.RowKit Go.Bk
theorem ovl_run (v u : Value) (w : World) (h : (Extern.SlicesOverlaps.overlaps #[56, 56] #[4] #[v, u]).run E.P w = .ok (.bool false) w) : (callFunc 191 #[v, u]).run E.P w = .ok (.value (.bool false)) w := by
 show (callFunc 191 _).run Tryz.prog w = _
 rw [run_callFunc_extern Tryz.func191 (by kernel_rfl) (by kernel_rfl) (by kernel_rfl) (e := Extern.SlicesOverlaps.overlaps #[56, 56] #[4]) (by kernel_rfl)]
 have h : (Extern.SlicesOverlaps.overlaps #[56, 56] #[4] #[v, u]).run Tryz.prog w = .ok (.bool false) w := h
 rw [h]; rfl
theorem lrow_len (l : List Lm) (m : Nat) : (l.map lmV ++ spare 6 m).length = l.length + m := by simp [spare_len]
theorem lm_drop_any (l : List Lm) (p : Nat) : ∀ e ∈ (l.map lmV).drop p, ∀ x ∈ e.leaves, x ≠ .any := by
 intro e he x hx
 obtain ⟨o, _, rfl⟩ := List.mem_map.1 (List.mem_of_mem_drop he)
 simp only [AV.leaves, List.mem_cons, List.not_mem_nil, or_false] at hx
 rcases hx with rfl | rfl | rfl | rfl | rfl | rfl <;> simp
theorem lrow_mid {l : List Lm} {p m : Nat} (hp : p ≤ l.length) : ((l.map lmV ++ spare 6 m).drop p).take (l.length - p) = (l.map lmV).drop p := by
 rw [List.drop_append_of_le_length (by simp; omega), List.take_left' (by simp)]
theorem spare_drop (k m j : Nat) : (spare k m).drop j = spare k (m - j) := by unfold spare; rw [List.drop_replicate]
def g1R (l : List Lm) (x : Lm) (p m2 : Nat) : List AV := (l.map lmV).take p ++ ([lmV x] ++ (spare 6 (l.length + 1 - p + m2)).drop 1)
def r1R (l : List Lm) (p m : Nat) : List AV := (l.map lmV ++ spare 6 m).take (p + 1) ++ ((l.map lmV).drop p ++ spare 6 (m - 1))
def outR (l : List Lm) (x : Lm) (p m : Nat) : List AV := (l.take p ++ x :: l.drop p).map lmV ++ spare 6 m
theorem out_end (l : List Lm) (x : Lm) (m : Nat) : l.map lmV ++ [lmV x] ++ spare 6 m = outR l x l.length m := by unfold outR; simp
theorem g1_row {l : List Lm} {x : Lm} {p m m2 : Nat} (hp : p ≤ l.length) : ((l.map lmV ++ spare 6 m).take p ++ spare 6 (l.length + 1 - p + m2)).take p ++ ([lmV x] ++ ((l.map lmV ++ spare 6 m).take p ++ spare 6 (l.length + 1 - p + m2)).drop (p + [lmV x].length)) =
   g1R l x p m2 := by
 unfold g1R
 have e : (l.map lmV ++ spare 6 m).take p = (l.map lmV).take p := List.take_append_of_le_length (by simp; omega)
 have hl : ((l.map lmV).take p).length = p := by simp; omega
 rw [e, List.take_left' hl, List.length_singleton, ← List.drop_drop, List.drop_left' hl]
theorem g1_len {l : List Lm} {x : Lm} {p m2 : Nat} (hp : p ≤ l.length) : (g1R l x p m2).length = l.length + 1 + m2 := by
 unfold g1R
 simp only [spare_drop, List.length_append, List.length_take, List.length_map, List.length_singleton, spare_len]; omega
theorem out_row {l : List Lm} {x : Lm} {p : Nat} : (l.take p ++ x :: l.drop p).map lmV = (l.map lmV).take p ++ ([lmV x] ++ (l.map lmV).drop p) := by
 rw [List.map_append, List.map_cons, List.map_take, List.map_drop]; rfl
theorem g2_row {l : List Lm} {x : Lm} {p m m2 : Nat} (hp : p ≤ l.length) : (g1R l x p m2).take (p + 1) ++ (((l.map lmV ++ spare 6 m).drop p).take (l.length - p) ++ (g1R l x p m2).drop (p + 1 + (l.length - p))) = outR l x p m2 := by
 unfold g1R outR
 have hl : ((l.map lmV).take p ++ [lmV x]).length = p + 1 := by simp; omega
 rw [lrow_mid hp, ← List.append_assoc ((l.map lmV).take p) [lmV x] _, List.take_left' hl, ← List.drop_drop, List.drop_left' hl, out_row, spare_drop, spare_drop, show l.length + 1 - p + m2 - 1 - (l.length - p) = m2 by omega]
 simp only [List.append_assoc]
theorem r1_row {l : List Lm} {p m : Nat} (hp : p ≤ l.length) (hm : 1 ≤ m) : (l.map lmV ++ spare 6 m).take (p + 1) ++ (((l.map lmV ++ spare 6 m).drop p).take (l.length - p) ++ (l.map lmV ++ spare 6 m).drop (p + 1 + (l.length - p))) = r1R l p m := by
 unfold r1R
 rw [lrow_mid hp, show p + 1 + (l.length - p) = l.length + 1 by omega, ← List.drop_drop, List.drop_left' (by simp), spare_drop]
theorem r1_len {l : List Lm} {p m : Nat} (hp : p ≤ l.length) (hm : 1 ≤ m) : (r1R l p m).length = l.length + m := by
 unfold r1R
 simp only [List.length_append, List.length_take, List.length_map, List.length_drop, spare_len]; omega
theorem r2_row {l : List Lm} {x : Lm} {p m : Nat} (hp : p ≤ l.length) (hm : 1 ≤ m) : (r1R l p m).take p ++ ([lmV x] ++ (r1R l p m).drop (p + [lmV x].length)) = outR l x p (m - 1) := by
 unfold r1R outR
 have hl : ((l.map lmV ++ spare 6 m).take (p + 1)).length = p + 1 := by simp [spare_len]; omega
 rw [List.length_singleton, List.drop_left' hl, List.take_append_of_le_length (by omega), List.take_take, Nat.min_eq_left (by omega), List.take_append_of_le_length (by simp; omega), out_row]
 simp only [List.append_assoc]
set_option maxRecDepth 100000 in
set_option maxHeartbeats 8000000 in
theorem ins_call {ops : Array Oper} {l0 : List Oper} {Q : Exit → St → Prop} {tmps up : List AV} {gl : Nat → Option (List AV)} {own : List (Option (List AV))} {tk : List Nat} {dst : Option Tmp} {x0 x1 x2 : Operand} {tys : Array TypeId} {ty : TypeId} {pos : String} {after : Array Edge} {id p m : Nat} {t0 : Option Nat} {l : List Lm} {x : Lm}
   (hx0 : St.ev ⟨tmps, own, tk, gl, none, up⟩ x0 = .mu id 6 0 l.length (l.length + m)) (hx1 : St.ev ⟨tmps, own, tk, gl, none, up⟩ x1 = i64 (p : Int)) (hx2 : St.ev ⟨tmps, own, tk, gl, none, up⟩ x2 = .sl t0 6 [lmV x]) (ho : own[id]? = some (some (l.map lmV ++ spare 6 m))) (hp : p ≤ l.length) (hl : l.length ≤ 1000)
   (h : ∀ (own' : List (Option (List AV))) (id' m' : Nat), own'[id']? = some (some (outR l x p m')) → AWPL E ops l0 Q (St.put ⟨tmps, own', tk, gl, none, up⟩ dst (.mu id' 6 0 (l.length + 1) (l.length + 1 + m')))) :
   AWPL E ops (⟨dst, .call ⟨.value (.func 149), #[x0, x1, x2], tys⟩, ty, pos, after, none⟩ :: l0) Q ⟨tmps, own, tk, gl, none, up⟩ := by
 refine AWPL.call (caps := []) (rs := [.tmp 6]) Tryz.func149 rfl Tryz.ntmps149 rfl (by kernel_rfl) rfl rfl ?_
 show AWP E _ _ ⟨([St.ev _ x0, St.ev _ x1, St.ev _ x2] ++ []) ++ List.replicate (95 - 3) (.v undef), own, tk, gl, none, tmps ++ up⟩
 rw [hx0, hx1, hx2]
 have hB0 : ∀ (tm : List AV) (own' : List (Option (List AV))) (id' m' : Nat), tm[6]? = some (.mu id' 6 0 (l.length + 1) (l.length + 1 + m')) → own'[id']? = some (some (outR l x p m')) → AInPost E.P [.tmp 6] ⟨tmps, own, tk, gl, none, up⟩ (fun s z => AWPL E ops l0 Q (s.put dst z)) .ret ⟨tm, own', tk, gl, none, tmps ++ up⟩ := by
   intro tm own' id' m' hu ho'
   refine ⟨rfl, ?_⟩
   have gu : ∀ ow, St.ev ⟨tm, ow, tk, gl, none, tmps ++ up⟩ (.tmp 6) = .mu id' 6 0 (l.length + 1) (l.length + 1 + m') := fun ow => by simp [St.ev, List.getD_eq_getElem?_getD, hu]
   show AWPL E ops l0 Q (St.put _ dst (tupOf [St.ev _ (.tmp 6)]))
   rw [gu]
   exact h own' id' m' ho'
 generalize AInPost E.P [.tmp 6] ⟨tmps, own, tk, gl, none, up⟩ (fun s z => AWPL E ops l0 Q (s.put dst z)) = Q' at hB0 ⊢
 generalize tmps ++ up = up' at hB0 ⊢
 clear h hx0 hx1 hx2
 have hset : ∀ x, (own.set id x)[id]? = some x := fun x => List.getElem?_set_self (lt_of_get ho)
 have hidl : id < own.length := lt_of_get ho
 have hnew : ∀ x : Option (List AV), (own ++ [x])[own.length]? = some x := fun x => by simp
 have hnew2 : ∀ x y : Option (List AV), (own ++ [x]).set own.length y = own ++ [y] := fun x y => by simp
 have hold : ∀ x : Option (List AV), (own ++ [x])[id]? = some (some (l.map lmV ++ spare 6 m)) := fun x => by rw [List.getElem?_append_left hidl]; exact ho
 have h10 : decide ((1 : Int) = 0) = false := by decide
 have hw1 : IntKind.i64.wrap ((l.length : Int) + 1) = ((l.length + 1 : Nat) : Int) := by rw [wrap64_id (by omega) (by omega)]; omega
 have hw2 : IntKind.i64.wrap ((p : Int) + 1) = ((p + 1 : Nat) : Int) := by rw [wrap64_id (by omega) (by omega)]; omega
 have hw3 : IntKind.i64.wrap (((l.length + 1 : Nat) : Int) - p) = ((l.length + 1 - p : Nat) : Int) := by rw [wrap64_id (by omega) (by omega)]; omega
 repeat' (first
 | refine AWP.seqk fun K hK => ?_
 | (
  refine AWP.here 1 10 3 rfl ?_
  refine AWP.regionL ?_
  refine AWPL.at 3 2 rfl ?_
  simp only [go_sem, h10, hset, hw1, hw2, hw3]
  (repeat (refine ⟨⟨_, rfl⟩, ?_⟩))
  refine AWPL.sliceLoMu (e := 63) (k := 6) (by kernel_rfl) (by kernel_rfl) rfl rfl (by omega) ?_
  refine AWPL.of ?_
  (try simp only [go_sem, h10, hset, hw1, hw2, hw3]))
 | (
  refine AWP.here 7 23 4 rfl ?_
  refine AWP.regionL ?_
  refine AWPL.at 4 2 rfl ?_
  simp only [go_sem, h10, hset, hw1, hw2, hw3]
  (repeat (refine ⟨⟨_, rfl⟩, ?_⟩))
  refine AWPL.appMuG (es := l.map lmV) (xs := [lmV x]) (m0 := m) sr56 ap56 (by first | (rw [List.length_map]; rfl)) rfl ho (by simp; omega) (by simp; omega) ?_
  intro m2
  rw [List.length_map]
  obtain rfl : p = l.length := by omega
  rw [out_end]
  refine AWPL.of ?_
  (try simp only [go_sem, h10, hset, hw1, hw2, hw3]))
 | (
  refine AWP.here 8 26 6 rfl ?_
  refine AWP.regionL ?_
  refine AWPL.at 6 4 rfl ?_
  simp only [go_sem, h10, hset, hw1, hw2, hw3]
  (repeat (refine ⟨⟨_, rfl⟩, ?_⟩))
  refine AWPL.capMu (e := 63) (by kernel_rfl) rfl ?_
  refine AWPL.of ?_
  (try simp only [go_sem, h10, hset, hw1, hw2, hw3]))
 | (
  refine AWP.here 9 32 10 rfl ?_
  refine AWP.regionL ?_
  refine AWPL.at 10 8 rfl ?_
  simp only [go_sem, h10, hset, hw1, hw2, hw3]
  (repeat (refine ⟨⟨_, rfl⟩, ?_⟩))
  have hm0 : m = 0 := by omega
  have hpl : p < l.length := by omega
  refine ⟨by omega, ?_⟩
  refine AWPL.growMu (kn := .i64) (id := id) (i := p) (cap := l.length + m) (es := (l.map lmV ++ spare 6 m)) (q := l.length + 1 - p) ap56 (by kernel_rfl) rfl rfl ho (by omega) (by rw [lrow_len]; omega) (by omega) (by omega) (by omega) (by omega) ?_
  intro m2
  rw [show p + (l.length + 1 - p) = l.length + 1 by omega]
  refine AWPL.of ?_
  (try simp only [go_sem, h10, hset, hw1, hw2, hw3]))
 | (
  refine AWP.here 10 41 5 rfl ?_
  refine AWP.regionL ?_
  refine AWPL.at 5 2 rfl ?_
  simp only [go_sem, h10, hset, hw1, hw2, hw3]
  (repeat (refine ⟨⟨_, rfl⟩, ?_⟩))
  refine AWPL.sliceMu (e := 63) (l := p) (k := 6) (by kernel_rfl) (by kernel_rfl) rfl rfl (by omega) (by omega) (by omega) ?_
  refine AWPL.at 2 1 rfl ?_
  simp only [go_sem, h10, hset, hw1, hw2, hw3]
  (repeat (refine ⟨⟨_, rfl⟩, ?_⟩))
  refine AWPL.copyMu (xs := [lmV x]) ap56 rfl rfl (hnew _) (by simp [spare_len]; omega) (by simp; omega) (by omega) ?_
  rw [g1_row hp, hnew2]
  refine AWPL.of ?_
  (try simp only [go_sem, h10, hset, hw1, hw2, hw3]))
 | (
  refine AWP.here 11 46 9 rfl ?_
  refine AWP.regionFlow [[], [], [], [1, 2], [0, 1, 2, 3], [], [], [5, 6], [0, 1, 2, 3, 4, 5, 6, 7]] [.mu own.length 6 0 (l.length + 1) (l.length + 1 + m2), i64 (p : Int), i64 1, i64 ((p + 1 : Nat) : Int), .mu own.length 6 (p + 1) (l.length - p) (l.length + m2 - p), .mu id 6 0 l.length (l.length + m), i64 (p : Int), .mu id 6 p (l.length - p) (l.length + m - p), i64 ((l.length - p : Nat) : Int)] [8] (fun k => [own ++ [some (g1R l x p m2)], own ++ [some (outR l x p m2)]].getD k []) (by kernel_rfl) (by kernel_rfl) rfl rfl rfl ?_ ?_ ?_
  · intro i o ho hi s hg how htk hrs hr
    rcases i with _ | i
    · simp only [List.getElem?_toArray, List.getElem?_cons_zero, List.getElem?_cons_succ, Option.some.injEq] at ho; subst ho
      have e9 := (hr 9 (by decide)).trans (rfl : _ = (.mu own.length 6 0 (l.length + 1) (l.length + 1 + m2) : AV))
      refine FOp.list ?_
      simp only [go_sem, e9]
      first | done | fail
    rcases i with _ | i
    · simp only [List.getElem?_toArray, List.getElem?_cons_zero, List.getElem?_cons_succ, Option.some.injEq] at ho; subst ho
      have e1 := (hr 1 (by decide)).trans (rfl : _ = (i64 (p : Int) : AV))
      refine FOp.list ?_
      simp only [go_sem, e1]
      first | done | fail
    rcases i with _ | i
    · simp only [List.getElem?_toArray, List.getElem?_cons_zero, List.getElem?_cons_succ, Option.some.injEq] at ho; subst ho
      have e7 := (hr 7 (by decide)).trans (rfl : _ = (i64 1 : AV))
      refine FOp.list ?_
      simp only [go_sem, e7]
      first | done | fail
    rcases i with _ | i
    · simp only [List.getElem?_toArray, List.getElem?_cons_zero, List.getElem?_cons_succ, Option.some.injEq] at ho; subst ho
      have e47 := (hr 47 (by decide)).trans (rfl : _ = (i64 (p : Int) : AV))
      have e48 := (hr 48 (by decide)).trans (rfl : _ = (i64 1 : AV))
      refine FOp.list ?_
      simp only [go_sem, e47, e48, hw2]
    rcases i with _ | i
    · simp only [List.getElem?_toArray, List.getElem?_cons_zero, List.getElem?_cons_succ, Option.some.injEq] at ho; subst ho
      have e46 := (hr 46 (by decide)).trans (rfl : _ = (.mu own.length 6 0 (l.length + 1) (l.length + 1 + m2) : AV))
      have e49 := (hr 49 (by decide)).trans (rfl : _ = (i64 ((p + 1 : Nat) : Int) : AV))
      refine FOp.call fun Q hQ => ?_
      refine AWPL.sliceMu (e := 63) (l := p + 1) (k := 6) (off := 0) (len := l.length + 1) (cap := l.length + 1 + m2) (by kernel_rfl) (by kernel_rfl) e46 e49 (by omega) (by omega) (by omega) ?_
      rw [Nat.zero_add, show l.length + 1 - (p + 1) = l.length - p by omega, show l.length + 1 + m2 - (p + 1) = l.length + m2 - p by omega]
      exact hQ
    rcases i with _ | i
    · simp only [List.getElem?_toArray, List.getElem?_cons_zero, List.getElem?_cons_succ, Option.some.injEq] at ho; subst ho
      have e0 := (hr 0 (by decide)).trans (rfl : _ = (.mu id 6 0 l.length (l.length + m) : AV))
      refine FOp.list ?_
      simp only [go_sem, e0]
      first | done | fail
    rcases i with _ | i
    · simp only [List.getElem?_toArray, List.getElem?_cons_zero, List.getElem?_cons_succ, Option.some.injEq] at ho; subst ho
      have e1 := (hr 1 (by decide)).trans (rfl : _ = (i64 (p : Int) : AV))
      refine FOp.list ?_
      simp only [go_sem, e1]
      first | done | fail
    rcases i with _ | i
    · simp only [List.getElem?_toArray, List.getElem?_cons_zero, List.getElem?_cons_succ, Option.some.injEq] at ho; subst ho
      have e51 := (hr 51 (by decide)).trans (rfl : _ = (.mu id 6 0 l.length (l.length + m) : AV))
      have e52 := (hr 52 (by decide)).trans (rfl : _ = (i64 (p : Int) : AV))
      refine FOp.call fun Q hQ => ?_
      refine AWPL.sliceMu (e := 63) (l := p) (k := 6) (off := 0) (len := l.length) (cap := l.length + m) (by kernel_rfl) (by kernel_rfl) e51 e52 (by omega) (by omega) (by omega) ?_
      rw [Nat.zero_add, show l.length - p = l.length - p by omega, show l.length + m - p = l.length + m - p by omega]
      exact hQ
    rcases i with _ | i
    · exact absurd (by decide) hi
    · exact absurd ho (by simp)
  · intro k i o hk ho s hg how htk hrs hup hpp hr
    rcases k with _ | k
    · obtain rfl := Option.some.inj hk
      simp only [List.getElem?_toArray, List.getElem?_cons_zero, List.getElem?_cons_succ, Option.some.injEq] at ho; subst ho
      have e50 := (hr 50 (by decide)).trans (rfl : _ = (.mu own.length 6 (p + 1) (l.length - p) (l.length + m2 - p) : AV))
      have e53 := (hr 53 (by decide)).trans (rfl : _ = (.mu id 6 p (l.length - p) (l.length + m - p) : AV))
      clear hr
      obtain ⟨tm, ow0, tk0, gl0, rsv0, up0⟩ := s
      simp only [] at hg how htk hrs hup hpp; subst hg; subst how; subst htk; subst hrs; subst hup
      refine FOp.call fun Q hQ => ?_
      refine AWPL.copyOwn (l.length - p) (es := g1R l x p m2) (es2 := (l.map lmV ++ spare 6 m)) ap56 (by exact e50) (by exact e53) (hnew _) (hold _) (Nat.min_self _) (by rw [g1_len hp]; omega) (by rw [lrow_len]; omega) (by omega) (by omega) (by rw [lrow_mid hp]; exact lm_drop_any l p) ?_
      rw [g2_row hp]
      simp only [List.getD_cons_zero, hnew2]
      exact hQ
    · exact absurd hk (by simp)
  simp only [go_sem, Go.Abs.setAll, Go.Abs.dstsOf, List.map_cons, List.map_nil])
 | (
  refine AWP.here 13 56 6 rfl ?_
  refine AWP.regionL ?_
  refine AWPL.at 6 4 rfl ?_
  simp only [go_sem, h10, hset, hw1, hw2, hw3]
  (repeat (refine ⟨⟨_, rfl⟩, ?_⟩))
  refine AWPL.sliceHiMu (e := 63) (h' := l.length + 1) (k := 6) (by kernel_rfl) (by kernel_rfl) rfl rfl (by simp_all <;> omega) (by simp_all <;> omega) ?_
  refine AWPL.of ?_
  (try simp only [go_sem, h10, hset, hw1, hw2, hw3]))
 | (
  refine AWP.here 14 61 8 rfl ?_
  refine AWP.regionL ?_
  refine AWPL.at 8 5 rfl ?_
  simp only [go_sem, h10, hset, hw1, hw2, hw3]
  (repeat (refine ⟨⟨_, rfl⟩, ?_⟩))
  refine AWPL.sliceMu (e := 63) (l := p + 1) (k := 6) (by kernel_rfl) (by kernel_rfl) rfl rfl (by omega) (by omega) (by omega) ?_
  refine AWPL.overlapsNo (e := 63) (k := 6) (t := 56) (tR := 4) ovl_run (by kernel_rfl) (by kernel_rfl) (by decide) rfl rfl ho (by simp) (by omega) (by rw [lrow_len]; omega) ?_
  refine AWPL.of ?_
  (try simp only [go_sem, h10, hset, hw1, hw2, hw3]))
 | (
  refine AWP.here 15 69 9 rfl ?_
  have hm1 : 1 ≤ m := by omega
  have hpl : p < l.length := by omega
  refine AWP.regionFlow [[], [], [], [1, 2], [0, 1, 2, 3], [], [], [5, 6], [0, 1, 2, 3, 4, 5, 6, 7]] [.mu id 6 0 (l.length + 1) (l.length + m), i64 (p : Int), i64 1, i64 ((p + 1 : Nat) : Int), .mu id 6 (p + 1) (l.length - p) (l.length + m - (p + 1)), .mu id 6 0 (l.length + 1) (l.length + m), i64 (p : Int), .mu id 6 p (l.length + 1 - p) (l.length + m - p), i64 ((l.length - p : Nat) : Int)] [8] (fun k => [own, own.set id (some (r1R l p m))].getD k []) (by kernel_rfl) (by kernel_rfl) rfl rfl rfl ?_ ?_ ?_
  · intro i o ho hi s hg how htk hrs hr
    rcases i with _ | i
    · simp only [List.getElem?_toArray, List.getElem?_cons_zero, List.getElem?_cons_succ, Option.some.injEq] at ho; subst ho
      have e0 := (hr 0 (by decide)).trans (rfl : _ = (.mu id 6 0 (l.length + 1) (l.length + m) : AV))
      refine FOp.list ?_
      simp only [go_sem, e0]
      first | done | fail
    rcases i with _ | i
    · simp only [List.getElem?_toArray, List.getElem?_cons_zero, List.getElem?_cons_succ, Option.some.injEq] at ho; subst ho
      have e1 := (hr 1 (by decide)).trans (rfl : _ = (i64 (p : Int) : AV))
      refine FOp.list ?_
      simp only [go_sem, e1]
      first | done | fail
    rcases i with _ | i
    · simp only [List.getElem?_toArray, List.getElem?_cons_zero, List.getElem?_cons_succ, Option.some.injEq] at ho; subst ho
      have e7 := (hr 7 (by decide)).trans (rfl : _ = (i64 1 : AV))
      refine FOp.list ?_
      simp only [go_sem, e7]
      first | done | fail
    rcases i with _ | i
    · simp only [List.getElem?_toArray, List.getElem?_cons_zero, List.getElem?_cons_succ, Option.some.injEq] at ho; subst ho
      have e70 := (hr 70 (by decide)).trans (rfl : _ = (i64 (p : Int) : AV))
      have e71 := (hr 71 (by decide)).trans (rfl : _ = (i64 1 : AV))
      refine FOp.list ?_
      simp only [go_sem, e70, e71, hw2]
    rcases i with _ | i
    · simp only [List.getElem?_toArray, List.getElem?_cons_zero, List.getElem?_cons_succ, Option.some.injEq] at ho; subst ho
      have e69 := (hr 69 (by decide)).trans (rfl : _ = (.mu id 6 0 (l.length + 1) (l.length + m) : AV))
      have e72 := (hr 72 (by decide)).trans (rfl : _ = (i64 ((p + 1 : Nat) : Int) : AV))
      refine FOp.call fun Q hQ => ?_
      refine AWPL.sliceMu (e := 63) (l := p + 1) (k := 6) (off := 0) (len := l.length + 1) (cap := l.length + m) (by kernel_rfl) (by kernel_rfl) e69 e72 (by omega) (by omega) (by omega) ?_
      rw [Nat.zero_add, show l.length + 1 - (p + 1) = l.length - p by omega, show l.length + m - (p + 1) = l.length + m - (p + 1) by omega]
      exact hQ
    rcases i with _ | i
    · simp only [List.getElem?_toArray, List.getElem?_cons_zero, List.getElem?_cons_succ, Option.some.injEq] at ho; subst ho
      have e0 := (hr 0 (by decide)).trans (rfl : _ = (.mu id 6 0 (l.length + 1) (l.length + m) : AV))
      refine FOp.list ?_
      simp only [go_sem, e0]
      first | done | fail
    rcases i with _ | i
    · simp only [List.getElem?_toArray, List.getElem?_cons_zero, List.getElem?_cons_succ, Option.some.injEq] at ho; subst ho
      have e1 := (hr 1 (by decide)).trans (rfl : _ = (i64 (p : Int) : AV))
      refine FOp.list ?_
      simp only [go_sem, e1]
      first | done | fail
    rcases i with _ | i
    · simp only [List.getElem?_toArray, List.getElem?_cons_zero, List.getElem?_cons_succ, Option.some.injEq] at ho; subst ho
      have e74 := (hr 74 (by decide)).trans (rfl : _ = (.mu id 6 0 (l.length + 1) (l.length + m) : AV))
      have e75 := (hr 75 (by decide)).trans (rfl : _ = (i64 (p : Int) : AV))
      refine FOp.call fun Q hQ => ?_
      refine AWPL.sliceMu (e := 63) (l := p) (k := 6) (off := 0) (len := l.length + 1) (cap := l.length + m) (by kernel_rfl) (by kernel_rfl) e74 e75 (by omega) (by omega) (by omega) ?_
      rw [Nat.zero_add, show l.length + 1 - p = l.length + 1 - p by omega, show l.length + m - p = l.length + m - p by omega]
      exact hQ
    rcases i with _ | i
    · exact absurd (by decide) hi
    · exact absurd ho (by simp)
  · intro k i o hk ho s hg how htk hrs hup hpp hr
    rcases k with _ | k
    · obtain rfl := Option.some.inj hk
      simp only [List.getElem?_toArray, List.getElem?_cons_zero, List.getElem?_cons_succ, Option.some.injEq] at ho; subst ho
      have e73 := (hr 73 (by decide)).trans (rfl : _ = (.mu id 6 (p + 1) (l.length - p) (l.length + m - (p + 1)) : AV))
      have e76 := (hr 76 (by decide)).trans (rfl : _ = (.mu id 6 p (l.length + 1 - p) (l.length + m - p) : AV))
      clear hr
      obtain ⟨tm, ow0, tk0, gl0, rsv0, up0⟩ := s
      simp only [] at hg how htk hrs hup hpp; subst hg; subst how; subst htk; subst hrs; subst hup
      refine FOp.call fun Q hQ => ?_
      refine AWPL.copyOwn (l.length - p) (es := (l.map lmV ++ spare 6 m)) (es2 := (l.map lmV ++ spare 6 m)) ap56 (by exact e73) (by exact e76) ho ho (Nat.min_eq_right (by omega)) (by rw [lrow_len]; omega) (by rw [lrow_len]; omega) (by omega) (by omega) (by rw [lrow_mid hp]; exact lm_drop_any l p) ?_
      rw [r1_row hp hm1]
      exact hQ
    · exact absurd hk (by simp)
  simp only [go_sem, Go.Abs.setAll, Go.Abs.dstsOf, List.map_cons, List.map_nil])
 | (
  refine AWP.here 16 78 5 rfl ?_
  have hm1 : 1 ≤ m := by omega
  refine AWP.regionL ?_
  refine AWPL.at 5 2 rfl ?_
  simp only [go_sem, h10, hset, hw1, hw2, hw3]
  (repeat (refine ⟨⟨_, rfl⟩, ?_⟩))
  refine AWPL.sliceMu (e := 63) (l := p) (k := 6) (by kernel_rfl) (by kernel_rfl) rfl rfl (by omega) (by omega) (by omega) ?_
  refine AWPL.at 2 1 rfl ?_
  simp only [go_sem, h10, hset, hw1, hw2, hw3]
  (repeat (refine ⟨⟨_, rfl⟩, ?_⟩))
  refine AWPL.copyMu (xs := [lmV x]) ap56 rfl rfl (hset _) (by rw [r1_len hp hm1]; omega) (by simp; omega) (by omega) ?_
  rw [r2_row hp hm1, List.set_set]
  refine AWPL.of ?_
  (try simp only [go_sem, h10, hset, hw1, hw2, hw3]))
 | (refine AWP.region ?_; simp only [go_sem, h10, hset, hw1, hw2, hw3])
 | (refine hK _ ?_; clear hK K)
 | refine AWP.cond rfl (fun c => ?_) (fun c => ?_) <;> first | exact Bool.noConfusion c | (try simp only [dD] at c)
 | refine AWP.skip ?_
 | ((first | with_reducible refine And.intro ?_ ?_); (focus (first | (simp; done) | fail)); (try simp only [hb, go_sem, h10, hset, hw1, hw2, hw3]))
 | (
  refine AWP.ret ?_
  (try simp only [inb_ret, athen_ret])
  exact hB0 _ _ _ _ rfl (by simp))
 | (
  refine AWP.ret ?_
  (try simp only [inb_ret, athen_ret])
  exact hB0 _ _ _ (m - 1) (by rw [show l.length + 1 + (m - 1) = l.length + m by omega]; rfl) (hset _))
 | fail)
end Go.Proofs.YtajeeghgiilhiaaGreat
end
section
namespace Go.Proofs.YtajeeghgiilhiaaGreat
open Go Go.Abs Go.RowKit Go.Bk
theorem bs_up {l : List Lm} {x y : Lm} {m : Nat} (hr : rightL l = true) (hy : l[m]? = some y) (h : cmpL y x < 0) : ∀ (k : Nat) (z : Lm), k < m + 1 → l[k]? = some z → cmpL z x < 0 := by
 intro k z hk hz
 rcases Nat.lt_or_ge k m with h1 | h1
 · exact ltL_trans (sortL_at hr m k z y h1 hz hy) h
 · obtain rfl : k = m := by omega
   rw [hy] at hz; cases hz; exact h
theorem bs_dn {l : List Lm} {x y : Lm} {m : Nat} (hr : rightL l = true) (hy : l[m]? = some y) (h : ¬ cmpL y x < 0) : ∀ (k : Nat) (z : Lm), m ≤ k → l[k]? = some z → ¬ cmpL z x < 0 := by
 intro k z hk hz h2
 rcases Nat.lt_or_ge m k with h1 | h1
 · exact h (ltL_trans (sortL_at hr k m y z h1 hy hz) h2)
 · obtain rfl : k = m := by omega
   rw [hy] at hz; cases hz; exact h h2
set_option maxHeartbeats 4000000 in
set_option maxRecDepth 8000 in
theorem bsl_c (l : List Lm) (x : Lm) (hr : rightL l = true) : ACalls E 147 [lmsV l, lmV x, .fn 148 []] (fun r t => r = .tup [i64 (posL l x), bl (hasL l x)] ∧ t = []) := by
 have hl : l.length ≤ 32 := (rightL_iff.1 hr).1
 refine ACalls.of_awp (n := 49) (rs := [.tmp 6, .tmp 7]) Tryz.func147 rfl Tryz.ntmps147 rfl ?_
 repeat' (first
 | refine AWP.seqk fun K hK => ?_
 | (
  refine AWP.here 4 18 7 rfl ?_
  have hh := half_eq (i := i) (j := j) (by omega) (by omega)
  refine AWP.region ?_; simp only [go_sem, hh])
 | (
  refine AWP.here 5 24 8 rfl ?_
  refine AWP.regionO [0, 1, 2, 3, 4, 5, 6, 7] [] (by kernel_rfl) (by kernel_rfl) rfl ?_; simp only [go_sem, Int.toNat_natCast])
 | (
  refine AWP.here 8 35 16 rfl ?_
  obtain rfl : i = j := by omega
  have gp := posL_of (x := x) g2 g3 (fun y hy => g4 i y (Nat.le_refl _) hy)
  refine AWP.regionO [0, 1, 2, 3, 4, 5, 6, 7, 8, 9, 10, 11, 12, 13, 14, 15] [] (by kernel_rfl) (by kernel_rfl) rfl ?_; simp only [go_sem])
 | (refine AWP.region ?_; simp only [go_sem])
 | (refine hK _ ?_; clear hK K)
 | refine AWP.block ?_
 | refine AWP.cond rfl (fun c => ?_) (fun c => ?_) <;> first | (try simp only [dD] at c)
 | refine AWP.skip ?_
 | (refine AWP.exit ?_; simp only [go_sem])
 | (refine ACall.one (lcmp_c _ _) (by kernel_rfl) rfl ?_; simp only [go_sem])
 | (refine AGuard.split (fun h => ?_) (fun h => ?_) <;> simp only [h, go_sem] <;> (try simp only [dD] at h))
 | ((first | refine AGet.nth ?_ (fun b hb => ?_) | with_reducible refine And.intro ?_ ?_); (focus (first | omega | (simp; done) | fail)); (try simp only [hb, go_sem]))
 | (
  refine AWP.here 3 15 3 rfl ?_
  refine AWP.loopN (ι := Nat × Nat) [11, 15, 16, 17, 18, 19, 20, 21, 22, 23, 24, 25, 26, 27, 28, 29, 30, 31, 32, 33, 34] (fun ⟨i, j⟩ => [(9, i64 i), (10, i64 j)]) (fun ⟨i, j⟩ => i ≤ j ∧ j ≤ l.length ∧ (∀ (k : Nat) (y : Lm), k < i → l[k]? = some y → cmpL y x < 0) ∧ (∀ (k : Nat) (y : Lm), j ≤ k → l[k]? = some y → ¬ cmpL y x < 0)) (fun ⟨i, j⟩ => j - i) ((0, l.length)) ?_ ?_ ?_
  · (try simp only [go_sem]); (repeat' (first | exact .inr (oblA rfl) | fail)); done
  · exact ⟨by omega, by omega, fun k y h => by omega, fun k y h h2 => by have := get_lt h2; omega⟩
  rintro ⟨i, j⟩ ⟨g1, g2, g3, g4⟩
  simp only [go_sem])
 | (
  refine ⟨((i + j) / 2 + 1, j), ?_, ?_, ?_⟩
  · (try simp only [go_sem]); (try rw [wrap64_id (by omega) (by omega)]); (repeat' (first | refine And.intro ?_ ?_ | exact .inr rfl | exact .inr (oblA rfl) | fail)); done
  · first | exact ⟨by show (i + j) / 2 + 1 ≤ j; omega, g2, bs_up hr hb (by assumption), g4⟩ | fail
  · first | (show j - ((i + j) / 2 + 1) < j - i; omega) | fail)
 | (
  refine ⟨(i, (i + j) / 2), ?_, ?_, ?_⟩
  · (try simp only [go_sem]); (try rw [wrap64_id (by omega) (by omega)]); (repeat' (first | exact .inr (oblA rfl) | fail)); done
  · first | exact ⟨by show i ≤ (i + j) / 2; omega, by show (i + j) / 2 ≤ l.length; omega, g3, bs_dn hr hb (by assumption)⟩
  · first | (show (i + j) / 2 - i < j - i; omega))
 | (
  refine AWP.ret ?_
  refine AEnd.is ?_; simp only [go_sem, out_v, out_s, out_n, v_int, v_bool, v_str] <;> ((try simp only [gp, true_and]); (first | (rw [hasL_at (show l[posL l x]? = some b by rw [gp]; exact hb)]; done) | (rw [hasL_end (x := x) (by omega)]; done) | fail)))
 | refine AWP.fin (by assumption) ?_
 | fail)
end Go.Proofs.YtajeeghgiilhiaaGreat
end
section
namespace Go.Proofs.YtajeeghgiilhiaaGreat
open Go Go.Abs Go.RowKit Go.Bk
theorem cl_lm (l : List Lm) : ∀ e ∈ l.map lmV, ∀ x ∈ e.leaves, x.clean1 = some x := by
 intro e he x hx
 obtain ⟨o, _, rfl⟩ := List.mem_map.1 he
 simp only [AV.leaves, List.mem_cons, List.not_mem_nil, or_false] at hx
 rcases hx with rfl | rfl | rfl | rfl | rfl | rfl <;> rfl
theorem pl_lm (l : List Lm) : ∀ e ∈ l.map lmV, e.leaves.length = 6 ∧ ∀ y ∈ e.leaves, ∃ z, y = .v z := by
 intro e he
 obtain ⟨o, _, rfl⟩ := List.mem_map.1 he
 refine ⟨rfl, fun x hx => ?_⟩
 simp only [AV.leaves, List.mem_cons, List.not_mem_nil, or_false] at hx
 rcases hx with rfl | rfl | rfl | rfl | rfl | rfl <;> exact ⟨_, rfl⟩
theorem lrow_get {l : List Lm} {k m : Nat} {y : Lm} (h : l[k]? = some y) : (l.map lmV ++ spare 6 m)[k]? = some (lmV y) := by
 rw [List.getElem?_append_left (by rw [List.length_map]; exact get_lt h), List.getElem?_map, h]; rfl
theorem lrow_set {l : List Lm} {k m : Nat} {x : Lm} (h : k < l.length) : (l.map lmV ++ spare 6 m).set k (lmV x) = (l.set k x).map lmV ++ spare 6 m := by
 rw [List.set_append_left _ _ (by simpa using h), List.map_set]
set_option maxHeartbeats 4000000 in
set_option maxRecDepth 8000 in
theorem lset_c (l : List Lm) (x : Lm) (hl : l.length ≤ 1000000) : ACalls E 77 [lmsV l, lmV x] (fun r t => r = .tup [lmsV (setL l x).1, i64 (setL l x).2] ∧ t = []) := by
 refine ACalls.of_awp (n := 41) (rs := [.tmp 4, .tmp 5]) Tryz.func77 rfl Tryz.ntmps77 rfl ?_
 repeat' (first
 | refine AWP.seqk fun K hK => ?_
 | (
  refine AWP.here 3 19 3 rfl ?_
  refine AWP.publishN 6 1 6 l.length (l.length + m) (l.map lmV) (spare 6 m) rfl rfl (by simp) (cl_lm _) ?_
  simp only [go_sem]
  refine AWP.region ?_; simp only [go_sem])
 | (
  refine AWP.here 6 27 5 rfl ?_
  have hmr : mayL x = true := by simp_all
  have hhs : hasL l x = true := by simp_all
  have f1 := lrow_get (m := m) (List.getElem?_eq_getElem (hasL_lt hhs))
  refine AWP.region ?_; simp only [go_sem, f1, Int.toNat_natCast]
  refine ⟨(by have := hasL_lt hhs; omega), ?_⟩)
 | (
  refine AWP.here 7 31 3 rfl ?_
  rw [lrow_set (hasL_lt hhs)]
  refine AWP.publishN 6 1 6 l.length (l.length + m) ((l.set (posL l x) x).map lmV) (spare 6 m) rfl rfl (by simp) (cl_lm _) ?_
  simp only [go_sem]
  refine AWP.region ?_; simp only [go_sem])
 | (
  refine AWP.here 9 35 3 rfl ?_
  refine AWP.publishN 6 1 6 l.length (l.length + m) (l.map lmV) (spare 6 m) rfl rfl (by simp) (cl_lm _) ?_
  simp only [go_sem]
  refine AWP.region ?_; simp only [go_sem])
 | (
  refine AWP.here 10 36 7 rfl ?_
  have hr : rightL l = true := by simp_all
  have h32 : l.length ≤ 32 := (rightL_iff.1 hr).1
  refine AWP.regionL ?_
  refine AWPL.at 7 4 rfl ?_
  simp only [go_sem]
  (repeat (refine ⟨⟨_, rfl⟩, ?_⟩))
  refine ins_call (l := l) (p := posL l x) (m := m) (id := 1) (x := x) rfl rfl rfl rfl (posL_facts l x).1 (by omega) ?_
  intro own' id' m' ho'
  refine AWPL.of ?_
  (try simp only [go_sem]))
 | (refine AWP.region ?_; simp only [go_sem])
 | (refine hK _ ?_; clear hK K)
 | refine AWP.cond rfl (fun c => ?_) (fun c => ?_) <;> first | exact Bool.noConfusion c | (try simp only [dD] at c)
 | refine AWP.skip ?_
 | (refine ACall.take (limclone_c l hl) (by kernel_rfl) rfl (.cons (.one (.clean rfl)) .nil) ?_; rintro r t ⟨rfl, rfl⟩; refine ⟨0, 6, _, rfl, by simp, pl_lm _, fun m => ?_⟩; simp only [go_sem, List.length_map])
 | (refine ACall.one (lright_c l (by omega)) (by kernel_rfl) rfl ?_; simp only [go_sem])
 | (refine ACall.one (lmay_c x) (by kernel_rfl) rfl ?_; simp only [go_sem])
 | (have hr : rightL l = true := (by assumption); refine ACall.sn (.cons (.one (.mu' rfl (by simp) (cl_lm _))) (.cons (.one (.clean rfl)) (.cons (.fn .nil) .nil))) (bsl_c l x hr) (by kernel_rfl) rfl (by first | (simp [Fresh, Fresh2, Fresh1]; done)) ?_; simp only [go_sem])
 | (refine AGuard.split (fun h => ?_) (fun h => ?_) <;> simp only [h, go_sem] <;> (try simp only [dD] at h))
 | ((first | with_reducible refine And.intro ?_ ?_); (focus (first | (simp; done) | fail)); (try simp only [hb, go_sem]))
 | (
  unfold outR at ho'
  refine AWP.publishN 4 id' 6 (l.length + 1) (l.length + 1 + m') ((l.take (posL l x) ++ x :: l.drop (posL l x)).map lmV) (spare 6 m') rfl ho' (by have := (posL_facts l x).1; simp; omega) (cl_lm _) ?_
  simp only [go_sem]
  refine AWP.ret ?_
  refine AEnd.is ?_; simp only [go_sem, out_v, out_s, out_n, v_int, v_bool, v_str] <;> ((first | (rw [setL_ins (by simp_all) (by simp_all) (by simp_all) (by omega)]; simp; done) | fail)))
 | (
  refine AWP.ret ?_
  refine AEnd.is ?_; simp only [go_sem, out_v, out_s, out_n, v_int, v_bool, v_str] <;> ((first | (rw [setL_bad (fun e => by simp_all)]; simp; done) | (rw [setL_put (by simp_all) (by simp_all) (by simp_all)]; simp; done) | (rw [setL_full (by simp_all) (by simp_all) (by simp_all) (by omega)]; simp; done) | fail)))
 | fail)
end Go.Proofs.YtajeeghgiilhiaaGreat
end
section
namespace Go.Proofs.YtajeeghgiilhiaaGreat
open Go Go.Abs Go.RowKit Go.Bk
theorem row_len (l : List Od) (m : Nat) : (l.map odV ++ spare 8 m).length = l.length + m := by simp [spare_len]
theorem erase_eq {l : List Od} {p : Nat} (hp : p < l.length) : l.eraseIdx p = l.take p ++ l.drop (p + 1) := List.eraseIdx_eq_take_drop_succ ..
theorem del_row {l : List Od} {p : Nat} (hp : p < l.length) (m : Nat) : (l.map odV ++ spare 8 m).take p ++ (((l.map odV ++ spare 8 m).drop (p + 1)).take (l.length - (p + 1)) ++ (l.map odV ++ spare 8 m).drop (p + (l.length - (p + 1)))) = (l.eraseIdx p).map odV ++ (l.map odV ++ spare 8 m).drop (l.length - 1) := by
 rw [show p + (l.length - (p + 1)) = l.length - 1 by omega, ← List.append_assoc]
 congr 1
 rw [List.take_append_of_le_length (by simp; omega), List.drop_append_of_le_length (by simp; omega), List.take_left' (by simp), erase_eq hp, List.map_append, List.map_take, List.map_drop]
theorem del_end {l : List Od} {p : Nat} (hp : p < l.length) (m : Nat) (h : l.length - (p + 1) = 0) : (l.map odV ++ spare 8 m).take p ++ (((l.map odV ++ spare 8 m).drop 0).take (l.length - (p + 1)) ++ (l.map odV ++ spare 8 m).drop (p + (l.length - (p + 1)))) = (l.eraseIdx p).map odV ++ (l.map odV ++ spare 8 m).drop (l.length - 1) := by
 rw [← del_row hp m, h]; simp
theorem del_any {l : List Od} {p : Nat} (hp : p < l.length) (m : Nat) : ∀ e ∈ ((l.map odV ++ spare 8 m).drop (p + 1)).take (l.length - (p + 1)), ∀ x ∈ e.leaves, x ≠ .any := by
 intro e he x hx
 rw [List.drop_append_of_le_length (by simp; omega), List.take_left' (by simp)] at he
 obtain ⟨o, _, rfl⟩ := List.mem_map.1 (List.mem_of_mem_drop he)
 simp only [AV.leaves, List.mem_cons, List.not_mem_nil, or_false] at hx
 rcases hx with rfl | rfl | rfl | rfl | rfl | rfl | rfl | rfl <;> simp
theorem del_spare {l : List Od} {p : Nat} (hp : p < l.length) (m : Nat) : spare 8 ((l.map odV ++ spare 8 m).drop (l.length - 1)).length = spare 8 (m + 1) := by
 congr 1; rw [List.length_drop, row_len]; omega
theorem clr_ev {l : List Od} {p id cap : Nat} (hp : p < l.length) {x : AV} (h : x = .mu id 8 (l.length - 1) (l.length - (l.length - 1)) cap) : x = .mu id 8 ((l.eraseIdx p).map odV).length (0 + 1) cap := by
 rw [h]; congr 1
 · rw [List.length_map, List.length_eraseIdx_of_lt hp]
 · omega
set_option maxRecDepth 100000 in
set_option maxHeartbeats 8000000 in
theorem del_call {ops : Array Oper} {l0 : List Oper} {Q : Exit → St → Prop} {tmps up : List AV} {gl : Nat → Option (List AV)} {own : List (Option (List AV))} {tk : List Nat} {dst : Option Tmp} {x0 x1 x2 : Operand} {tys : Array TypeId} {ty : TypeId} {pos : String} {after : Array Edge} {id p m : Nat} {l : List Od}
   (hx0 : St.ev ⟨tmps, own, tk, gl, none, up⟩ x0 = .mu id 8 0 l.length (l.length + m)) (hx1 : St.ev ⟨tmps, own, tk, gl, none, up⟩ x1 = i64 (p : Int)) (hx2 : St.ev ⟨tmps, own, tk, gl, none, up⟩ x2 = i64 ((p + 1 : Nat) : Int)) (ho : own[id]? = some (some (l.map odV ++ spare 8 m))) (hp : p < l.length) (hl : l.length ≤ 1000000)
   (h : AWPL E ops l0 Q (St.put ⟨tmps, own.set id (some ((l.eraseIdx p).map odV ++ spare 8 (m + 1))), tk, gl, none, up⟩ dst (.mu id 8 0 (l.length - 1) (l.length + m)))) :
   AWPL E ops (⟨dst, .call ⟨.value (.func 83), #[x0, x1, x2], tys⟩, ty, pos, after, none⟩ :: l0) Q ⟨tmps, own, tk, gl, none, up⟩ := by
 refine AWPL.call (caps := []) (rs := [.tmp 6]) Tryz.func83 rfl Tryz.ntmps83 rfl (by kernel_rfl) rfl rfl ?_
 show AWP E _ _ ⟨([St.ev _ x0, St.ev _ x1, St.ev _ x2] ++ []) ++ List.replicate (33 - 3) (.v undef), own, tk, gl, none, tmps ++ up⟩
 rw [hx0, hx1, hx2]
 have hB0 : ∀ (tm : List AV), tm[6]? = some (.mu id 8 0 (l.length - 1) (l.length + m)) → AInPost E.P [.tmp 6] ⟨tmps, own, tk, gl, none, up⟩ (fun s z => AWPL E ops l0 Q (s.put dst z)) .ret ⟨tm, own.set id (some ((l.eraseIdx p).map odV ++ spare 8 (m + 1))), tk, gl, none, tmps ++ up⟩ := by
   intro tm hu
   refine ⟨rfl, ?_⟩
   have gu : ∀ ow, St.ev ⟨tm, ow, tk, gl, none, tmps ++ up⟩ (.tmp 6) = .mu id 8 0 (l.length - 1) (l.length + m) := fun ow => by simp [St.ev, List.getD_eq_getElem?_getD, hu]
   show AWPL E ops l0 Q (St.put _ dst (tupOf [St.ev _ (.tmp 6)]))
   rw [gu]
   exact h
 generalize AInPost E.P [.tmp 6] ⟨tmps, own, tk, gl, none, up⟩ (fun s z => AWPL E ops l0 Q (s.put dst z)) = Q' at hB0 ⊢
 generalize tmps ++ up = up' at hB0 ⊢
 clear h hx0 hx1 hx2
 have hset : ∀ x, (own.set id x)[id]? = some x := fun x => List.getElem?_set_self (lt_of_get ho)
 have hrl := row_len l m
 have hnp : decide ((p : Int) = ((p + 1 : Nat) : Int)) = false := decide_eq_false (by omega)
 have hE := del_row hp m
 repeat' (first
 | refine AWP.seqk fun K hK => ?_
 | (
  refine AWP.here 1 8 6 rfl ?_
  refine AWP.regionL ?_
  refine AWPL.at 6 5 rfl ?_
  simp only [go_sem, hnp, hset]
  (repeat (refine ⟨⟨_, rfl⟩, ?_⟩))
  refine AWPL.slice3Mu (e := 65) (l' := p) (h' := p + 1) (m' := l.length) (k := 8) (by kernel_rfl) (by kernel_rfl) (by rfl) (by rfl) (by rfl) (by rfl) (by omega) (by omega) (by omega) ?_
  refine AWPL.of ?_
  (try simp only [go_sem, hnp, hset]))
 | (
  refine AWP.here 5 20 8 rfl ?_
  rcases Nat.lt_or_ge (p + 1) (l.length + m) with hlt | hlt
  refine AWP.regionFlow [[], [], [0, 1], [], [], [3, 4], [0, 1, 2, 3, 4, 5], [0, 1, 2, 3, 4, 5, 6]] [.mu id 8 0 l.length (l.length + m), i64 (p : Int), .mu id 8 0 p (l.length + m), .mu id 8 0 l.length (l.length + m), i64 ((p + 1 : Nat) : Int), .mu id 8 (p + 1) (l.length - (p + 1)) (l.length + m - (p + 1)), .mu id 8 0 (l.length - 1) (l.length + m), .mu id 8 0 (l.length - 1) (l.length + m)] [6] (fun k => [own, own.set id (some ((l.eraseIdx p).map odV ++ ((l.map odV ++ spare 8 m).drop (l.length - 1))))].getD k []) (by kernel_rfl) (by kernel_rfl) rfl rfl rfl ?_ ?_ ?_
  · intro i o ho hi s hg how htk hrs hr
    rcases i with _ | i
    · simp only [List.getElem?_toArray, List.getElem?_cons_zero, List.getElem?_cons_succ, Option.some.injEq] at ho; subst ho
      have e0 := (hr 0 (by decide)).trans (rfl : _ = (.mu id 8 0 l.length (l.length + m) : AV))
      refine FOp.list ?_
      simp only [go_sem, e0]
      first | done | fail
    rcases i with _ | i
    · simp only [List.getElem?_toArray, List.getElem?_cons_zero, List.getElem?_cons_succ, Option.some.injEq] at ho; subst ho
      have e1 := (hr 1 (by decide)).trans (rfl : _ = (i64 (p : Int) : AV))
      refine FOp.list ?_
      simp only [go_sem, e1]
      first | done | fail
    rcases i with _ | i
    · simp only [List.getElem?_toArray, List.getElem?_cons_zero, List.getElem?_cons_succ, Option.some.injEq] at ho; subst ho
      have e20 := (hr 20 (by decide)).trans (rfl : _ = (.mu id 8 0 l.length (l.length + m) : AV))
      have e21 := (hr 21 (by decide)).trans (rfl : _ = (i64 (p : Int) : AV))
      refine FOp.list ?_
      simp only [go_sem, e20, e21]
      omega
    rcases i with _ | i
    · simp only [List.getElem?_toArray, List.getElem?_cons_zero, List.getElem?_cons_succ, Option.some.injEq] at ho; subst ho
      have e0 := (hr 0 (by decide)).trans (rfl : _ = (.mu id 8 0 l.length (l.length + m) : AV))
      refine FOp.list ?_
      simp only [go_sem, e0]
      first | done | fail
    rcases i with _ | i
    · simp only [List.getElem?_toArray, List.getElem?_cons_zero, List.getElem?_cons_succ, Option.some.injEq] at ho; subst ho
      have e2 := (hr 2 (by decide)).trans (rfl : _ = (i64 ((p + 1 : Nat) : Int) : AV))
      refine FOp.list ?_
      simp only [go_sem, e2]
      first | done | fail
    rcases i with _ | i
    · simp only [List.getElem?_toArray, List.getElem?_cons_zero, List.getElem?_cons_succ, Option.some.injEq] at ho; subst ho
      have e23 := (hr 23 (by decide)).trans (rfl : _ = (.mu id 8 0 l.length (l.length + m) : AV))
      have e24 := (hr 24 (by decide)).trans (rfl : _ = (i64 ((p + 1 : Nat) : Int) : AV))
      refine FOp.call fun Q hQ => ?_
      refine AWPL.sliceMu (e := 65) (l := p + 1) (k := 8) (off := 0) (len := l.length) (cap := l.length + m) (by kernel_rfl) (by kernel_rfl) e23 e24 (by omega) hlt (by omega) ?_
      rw [Nat.zero_add]
      exact hQ
    rcases i with _ | i
    · exact absurd (by decide) hi
    rcases i with _ | i
    · simp only [List.getElem?_toArray, List.getElem?_cons_zero, List.getElem?_cons_succ, Option.some.injEq] at ho; subst ho
      have e26 := (hr 26 (by decide)).trans (rfl : _ = (.mu id 8 0 (l.length - 1) (l.length + m) : AV))
      refine FOp.list ?_
      simp only [go_sem, e26]
      first | done | fail
    · exact absurd ho (by simp)
  · intro k i o hk ho s hg how htk hrs hup hpp hr
    rcases k with _ | k
    · obtain rfl := Option.some.inj hk
      simp only [List.getElem?_toArray, List.getElem?_cons_zero, List.getElem?_cons_succ, Option.some.injEq] at ho; subst ho
      have e22 := (hr 22 (by decide)).trans (rfl : _ = (.mu id 8 0 p (l.length + m) : AV))
      have e25 := (hr 25 (by decide)).trans (rfl : _ = (.mu id 8 (p + 1) (l.length - (p + 1)) (l.length + m - (p + 1)) : AV))
      clear hr
      obtain ⟨tm, ow0, tk0, gl0, rsv0, up0⟩ := s
      simp only [] at hg how htk hrs hup hpp; subst hg; subst how; subst htk; subst hrs; subst hup
      refine FOp.call fun Q hQ => ?_
      have hE2 := hE
      refine AWPL.appSelf (es := (l.map odV ++ spare 8 m)) (i := p) (o := (p + 1)) (j := l.length - (p + 1)) sr22 ap22 (by rw [hrl]; exact e22) (by exact e25) ho (by rw [hrl]; omega) (by rw [hrl]; omega) (by rw [hrl]; omega) (del_any hp m) ?_
      rw [hE2, show p + (l.length - (p + 1)) = l.length - 1 by omega]
      (try rw [hrl])
      exact hQ
    · exact absurd hk (by simp)
  simp only [go_sem, Go.Abs.setAll, Go.Abs.dstsOf, List.map_cons, List.map_nil]
  rotate_left
  refine AWP.regionFlow [[], [], [0, 1], [], [], [3, 4], [0, 1, 2, 3, 4, 5], [0, 1, 2, 3, 4, 5, 6]] [.mu id 8 0 l.length (l.length + m), i64 (p : Int), .mu id 8 0 p (l.length + m), .mu id 8 0 l.length (l.length + m), i64 ((p + 1 : Nat) : Int), .mu id 8 0 (l.length - (p + 1)) 0, .mu id 8 0 (l.length - 1) (l.length + m), .mu id 8 0 (l.length - 1) (l.length + m)] [6] (fun k => [own, own.set id (some ((l.eraseIdx p).map odV ++ ((l.map odV ++ spare 8 m).drop (l.length - 1))))].getD k []) (by kernel_rfl) (by kernel_rfl) rfl rfl rfl ?_ ?_ ?_
  · intro i o ho hi s hg how htk hrs hr
    rcases i with _ | i
    · simp only [List.getElem?_toArray, List.getElem?_cons_zero, List.getElem?_cons_succ, Option.some.injEq] at ho; subst ho
      have e0 := (hr 0 (by decide)).trans (rfl : _ = (.mu id 8 0 l.length (l.length + m) : AV))
      refine FOp.list ?_
      simp only [go_sem, e0]
      first | done | fail
    rcases i with _ | i
    · simp only [List.getElem?_toArray, List.getElem?_cons_zero, List.getElem?_cons_succ, Option.some.injEq] at ho; subst ho
      have e1 := (hr 1 (by decide)).trans (rfl : _ = (i64 (p : Int) : AV))
      refine FOp.list ?_
      simp only [go_sem, e1]
      first | done | fail
    rcases i with _ | i
    · simp only [List.getElem?_toArray, List.getElem?_cons_zero, List.getElem?_cons_succ, Option.some.injEq] at ho; subst ho
      have e20 := (hr 20 (by decide)).trans (rfl : _ = (.mu id 8 0 l.length (l.length + m) : AV))
      have e21 := (hr 21 (by decide)).trans (rfl : _ = (i64 (p : Int) : AV))
      refine FOp.list ?_
      simp only [go_sem, e20, e21]
      omega
    rcases i with _ | i
    · simp only [List.getElem?_toArray, List.getElem?_cons_zero, List.getElem?_cons_succ, Option.some.injEq] at ho; subst ho
      have e0 := (hr 0 (by decide)).trans (rfl : _ = (.mu id 8 0 l.length (l.length + m) : AV))
      refine FOp.list ?_
      simp only [go_sem, e0]
      first | done | fail
    rcases i with _ | i
    · simp only [List.getElem?_toArray, List.getElem?_cons_zero, List.getElem?_cons_succ, Option.some.injEq] at ho; subst ho
      have e2 := (hr 2 (by decide)).trans (rfl : _ = (i64 ((p + 1 : Nat) : Int) : AV))
      refine FOp.list ?_
      simp only [go_sem, e2]
      first | done | fail
    rcases i with _ | i
    · simp only [List.getElem?_toArray, List.getElem?_cons_zero, List.getElem?_cons_succ, Option.some.injEq] at ho; subst ho
      have e23 := (hr 23 (by decide)).trans (rfl : _ = (.mu id 8 0 l.length (l.length + m) : AV))
      have e24 := (hr 24 (by decide)).trans (rfl : _ = (i64 ((p + 1 : Nat) : Int) : AV))
      refine FOp.call fun Q hQ => ?_
      refine AWPL.sliceMuEnd (e := 65) (k := 8) (off := 0) (cap := l.length + m) (by kernel_rfl) (by kernel_rfl) (by rw [show l.length + m = l.length by omega] at e23; rw [show l.length + m = l.length by omega]; exact e23) (by rw [show l.length + m = p + 1 by omega]; exact e24) (by omega) ?_
      rw [show l.length - (p + 1) = 0 by omega] at hQ
      exact hQ
    rcases i with _ | i
    · exact absurd (by decide) hi
    rcases i with _ | i
    · simp only [List.getElem?_toArray, List.getElem?_cons_zero, List.getElem?_cons_succ, Option.some.injEq] at ho; subst ho
      have e26 := (hr 26 (by decide)).trans (rfl : _ = (.mu id 8 0 (l.length - 1) (l.length + m) : AV))
      refine FOp.list ?_
      simp only [go_sem, e26]
      first | done | fail
    · exact absurd ho (by simp)
  · intro k i o hk ho s hg how htk hrs hup hpp hr
    rcases k with _ | k
    · obtain rfl := Option.some.inj hk
      simp only [List.getElem?_toArray, List.getElem?_cons_zero, List.getElem?_cons_succ, Option.some.injEq] at ho; subst ho
      have e22 := (hr 22 (by decide)).trans (rfl : _ = (.mu id 8 0 p (l.length + m) : AV))
      have e25 := (hr 25 (by decide)).trans (rfl : _ = (.mu id 8 0 (l.length - (p + 1)) 0 : AV))
      clear hr
      obtain ⟨tm, ow0, tk0, gl0, rsv0, up0⟩ := s
      simp only [] at hg how htk hrs hup hpp; subst hg; subst how; subst htk; subst hrs; subst hup
      refine FOp.call fun Q hQ => ?_
      have hE2 := hE
      refine AWPL.appSelf (es := (l.map odV ++ spare 8 m)) (i := p) (o := 0) (j := l.length - (p + 1)) sr22 ap22 (by rw [hrl]; exact e22) (by exact e25) ho (by rw [hrl]; omega) (by rw [hrl]; omega) (by rw [hrl]; omega) (by rw [show l.length - (p + 1) = 0 by omega]; intro e he; simp at he) ?_
      rw [del_end hp m (by omega), show p + (l.length - (p + 1)) = l.length - 1 by omega]
      (try rw [hrl])
      exact hQ
    · exact absurd hk (by simp)
  simp only [go_sem, Go.Abs.setAll, Go.Abs.dstsOf, List.map_cons, List.map_nil])
 | (
  refine AWP.here 6 27 6 rfl ?_
  refine AWP.regionL ?_
  refine AWPL.at 6 4 rfl ?_
  simp only [go_sem, hnp, hset]
  (repeat (refine ⟨⟨_, rfl⟩, ?_⟩))
  refine AWPL.slice2Mu (e := 65) (l' := l.length - 1) (h' := l.length) (k := 8) (off := 0) (by kernel_rfl) (by kernel_rfl) (by rfl) (by rfl) (by rfl) (by omega) (by omega) (by omega) ?_
  simp only [go_sem, hnp, hset]
  refine AWPL.clearMu (e := 65) (k := 8) (n := 88) (len := 0) (A := (l.eraseIdx p).map odV) (B := (l.map odV ++ spare 8 m).drop (l.length - 1)) ap22 (by kernel_rfl) (clr_ev hp (by rfl)) (hset _) (by rw [List.length_drop, hrl]; omega) ?_
  rw [del_spare hp m]
  refine AWPL.of ?_
  (try simp only [go_sem, hnp, hset]))
 | (refine AWP.region ?_; simp only [go_sem, hnp, hset])
 | (refine hK _ ?_; clear hK K)
 | refine AWP.cond rfl (fun c => ?_) (fun c => ?_) <;> first | exact Bool.noConfusion c | (try simp only [dD] at c)
 | refine AWP.skip ?_
 | ((first | with_reducible refine And.intro ?_ ?_); (focus (first | (simp; done) | fail)); (try simp only [hb, go_sem, hnp, hset]))
 | (
  refine AWP.ret ?_
  (try simp only [inb_ret, athen_ret])
  (try rw [List.set_set])
  exact hB0 _ rfl)
 | fail)
end Go.Proofs.YtajeeghgiilhiaaGreat
end
section
namespace Go.Proofs.YtajeeghgiilhiaaGreat
open Go Go.Abs Go.RowKit Go.Bk
theorem cl_exv (x : Ex) : ∀ z ∈ (exV x).leaves, z.clean1 = some z := by
 intro z hz
 simp only [AV.leaves, List.mem_cons, List.not_mem_nil, or_false] at hz
 rcases hz with rfl | rfl | rfl | rfl | rfl | rfl | rfl | rfl | rfl | rfl <;> rfl
set_option maxHeartbeats 4000000 in
set_option maxRecDepth 8000 in
theorem sent1_c (o : Od) (x : Ex) : ACalls E 155 [odV o, .rptr [str x.id, str x.ref, str x.ord, str x.acc, str x.sym, i64 x.kind, bl x.buy, i64 x.qty, i64 x.price, i64 x.time]] (fun r t => r = bl (fitsO x o) ∧ t = []) := by
 refine ACalls.of_awp (n := 54) (rs := [.tmp 3]) Tryz.func155 rfl Tryz.ntmps155 rfl ?_
 repeat' (first
 | refine AWP.seqk fun K hK => ?_
 | (refine AWP.region ?_; simp only [go_sem])
 | (refine hK _ ?_; clear hK K)
 | (refine AGuard.splitN (fun h => ?_) (fun h => ?_) <;> simp only [h, go_sem] <;> (try simp only [dD] at h))
 | (refine AGuard.split (fun h => ?_) (fun h => ?_) <;> simp only [h, go_sem] <;> (try simp only [dD] at h))
 | (
  refine AWP.ret ?_
  refine AEnd.is ?_; simp only [go_sem, out_v, out_s, out_n, v_int, v_bool, v_str] <;> (simp [fitsO, *]; done))
 | fail)
set_option maxHeartbeats 4000000 in
set_option maxRecDepth 8000 in
theorem oidxs_c (l : List Od) (x : Ex) (hl : l.length ≤ 9223372036854775807) : ACalls E 154 [odsV l, .fn 155 [.rptr [str x.id, str x.ref, str x.ord, str x.acc, str x.sym, i64 x.kind, bl x.buy, i64 x.qty, i64 x.price, i64 x.time]]] (fun r t => r = i64 (idxP (fun o : Od => fitsO x o) l) ∧ t = []) := by
 refine ACalls.of_awp (n := 19) (rs := [.tmp 4]) Tryz.func154 rfl Tryz.ntmps154 rfl ?_
 repeat' (first
 | refine AWP.seqk fun K hK => ?_
 | (refine AWP.region ?_; simp only [go_sem])
 | (refine hK _ ?_; clear hK K)
 | refine AWP.block ?_
 | refine AWP.cond rfl (fun c => ?_) (fun c => ?_) <;> first | (try simp only [dD] at c)
 | refine AWP.skip ?_
 | (refine AWP.exit ?_; simp only [go_sem])
 | (refine ACall.one (sent1_c _ _) (by kernel_rfl) rfl ?_; simp only [go_sem])
 | ((first | refine AGet.nth ?_ (fun b hb => ?_) | with_reducible refine And.intro ?_ ?_); (focus (first | omega | (simp; done) | fail)); (try simp only [hb, go_sem]))
 | (
  refine AWP.here 2 9 1 rfl ?_
  refine AWP.loopN (ι := Nat) [4, 5, 9, 10, 11, 12, 13, 14, 15, 16, 17, 18] (fun (i : Nat) => [(8, i64 i)]) (fun (i : Nat) => i ≤ l.length ∧ (l.take i).all (fun o : Od => !(fitsO x o)) = true) (fun (i : Nat) => l.length - i) (0) ?_ ?_ ?_
  · (try simp only [go_sem]); (repeat' (first | fail)); done
  · exact ⟨by omega, by simp⟩
  rintro i ⟨h1, h2⟩
  simp only [go_sem])
 | (
  refine ⟨i + 1, ?_, ?_, ?_⟩
  · (try simp only [go_sem]); (try rw [wrap64_id (by omega) (by omega)]); (repeat' (first | exact .inr rfl | fail)); done
  · exact ⟨by omega, all_next hb h2 (by simp_all)⟩
  · (try simp only []); omega)
 | (
  refine AWP.ret ?_
  refine AEnd.is ?_; simp only [go_sem, out_v, out_s, out_n, v_int, v_bool, v_str] <;> (first | (rw [idxP_of hb (by simp_all) h2]; done) | (rw [idxP_none (by omega) h2]; done) | fail))
 | refine AWP.fin (by assumption) ?_
 | fail)
set_option maxHeartbeats 4000000 in
set_option maxRecDepth 8000 in
theorem gsent_c (l : List Od) (x : Ex) (hl : l.length ≤ 9223372036854775807) : ACalls E 82 [odsV l, exV x] (fun r t => r = i64 (idxP (fun o : Od => fitsO x o) l) ∧ t = []) := by
 refine ACalls.of_awp (n := 8) (rs := [.tmp 4]) Tryz.func82 rfl Tryz.ntmps82 rfl ?_
 repeat' (first
 | refine AWP.seqk fun K hK => ?_
 | (refine AWP.region ?_; simp only [go_sem])
 | (refine hK _ ?_; clear hK K)
 | (refine ACall.snapOne (oidxs_c l x hl) (by kernel_rfl) rfl (.cons (.one (.clean rfl)) (.cons (.fn (.cons (.ptr (e := exV x) rfl (cl_exv x)) .nil)) .nil)) ?_; simp only [go_sem])
 | (
  refine AWP.ret ?_
  refine AEnd.is ?_; simp only [go_sem, out_v, out_s, out_n, v_int, v_bool, v_str] <;> rfl)
 | fail)
end Go.Proofs.YtajeeghgiilhiaaGreat
end
section
namespace Go.Abs
open Go Go.RowKit
theorem AWP.publishAt {E : Env} {c : Code} {Q : Exit → St → Prop} {s : St} (id idx j : Nat) {jd k n cap : Nat} {rs cs : List AV} (es : List AV) (hne : jd ≠ id) (ho : s.own[id]? = some (some rs)) (he : rs[idx]? = some (.agg cs)) (hx : cs[j]? = some (.mu jd k 0 n cap)) (ho2 : s.own[jd]? = some (some es)) (hn : n ≤ es.length) (hc : ∀ e ∈ es.take n, ∀ x ∈ e.leaves, x.clean1 = some x)
   (hw : AWP E c Q { s with own := (s.own.set jd none).set id (some (rs.set idx (.agg (cs.set j (.sl none k (es.take n)))))) }) : AWP E c Q s := by
 intro w0 im0 cx a w h0 hG r
 have hlen : (es.take n).length = n := by rw [List.length_take]; omega
 have key : ∃ c', cx.le c' ∧ Rel w0 im0 c' { s with own := s.own.set jd none } a w ∧ ∀ v, VR c' (.mu jd k 0 n cap) v → VR c' (.sl none k (es.take n)) v := by
   cases hb : cx.β[jd]? with
   | none => exact ⟨cx, .refl _, r.dropOwn jd, fun v hv => by
       rcases hv.inv_mu with ⟨g, hb', _, _⟩ | ⟨rfl, rfl, rfl⟩
       · rw [hb] at hb'; simp at hb'
       · rw [List.take_zero]; exact .base (.sl0 k none 0)⟩
   | some p =>
     cases p with
     | none => exact ⟨cx, .refl _, r.dropOwn jd, fun v hv => by
         rcases hv.inv_mu with ⟨g, hb', _, _⟩ | ⟨rfl, rfl, rfl⟩
         · rw [hb] at hb'; simp at hb'
         · rw [List.take_zero]; exact .base (.sl0 k none 0)⟩
     | some p =>
       obtain ⟨g, k'⟩ := p
       obtain ⟨c', hle, hβ, _, _, r', cv, hl, hm, h1, hvr⟩ := r.publish (n := n) hb ho2 rfl hc
       refine ⟨c', hle, r', fun v hv => ?_⟩
       rcases hv.inv_mu with ⟨g', hb', hcap, rfl⟩ | ⟨rfl, rfl, rfl⟩
       · rw [hβ, hb] at hb'
         simp only [Option.some.injEq, Prod.mk.injEq] at hb'
         obtain ⟨rfl, rfl⟩ := hb'
         have := VR0.sl (im := c'.im) k' (es.take n) g 0 cap cv (by omega) hl (fun i e j x he hj => by rw [Nat.zero_add]; exact hm i e j x he hj) h1 hvr
         rw [hlen] at this
         rw [Nat.zero_mul]; exact .base this
       · rw [List.take_zero]; exact .base (.sl0 k none 0)
 obtain ⟨c', hle, r', hv⟩ := key
 have hown : (s.own.set jd none)[id]? = some (some rs) := by rw [List.getElem?_set_ne hne]; exact ho
 have r2 := r'.setLeafAt (y := .sl none k (es.take n)) hown he hx (by simp) hv
 exact hw w0 im0 c' a w h0 hG r2
end Go.Abs
end
section
namespace Go.Abs
open Go Go.RowKit
section
variable {E : Env} {ops : Array Oper} {anc : List (List Nat)} {cs : List Nat} {ow : Nat → List (Option (List AV))} {vals : List AV} {st : St}
end
end Go.Abs
end
section
namespace Go.Proofs.YtajeeghgiilhiaaGreat
open Go Go.Abs Go.RowKit Go.Bk
theorem told_same {g : Gt} {k : Nat} {x : Ex} {v : Vn} {nb : Bk} {kk : Int} (h : isAtB g (k : Int) = true) (hx : g.venues[k]? = some v) (hc : comeF v.book x = (nb, kk)) (hk : kk = 2 ∨ kk = 4) : toldG g (k : Int) x = (g, kk, 0) := by
 rw [told_at h hx, hc, if_pos hk]
theorem told_arg {g : Gt} {k : Nat} {x : Ex} {v : Vn} {nb : Bk} {kk : Int} (h : isAtB g (k : Int) = true) (hx : g.venues[k]? = some v) (hc : comeF v.book x = (nb, kk)) (hk : ¬ (kk = 2 ∨ kk = 4) ∧ ¬ (kk = 1 ∨ kk = 3)) : toldG g (k : Int) x = (g, 0, 1) := by
 rw [told_at h hx, hc, if_neg hk.1, if_neg hk.2]
abbrev vnI (v : Vn) : AV := .agg [odsV v.book.orders, dnsV v.book.fills, .sl (some 0) 1 (v.book.ids.map str), i64 v.book.clock, i64 v.book.bad, odsV v.sent, i64 v.last, bl v.gap]
theorem bel_vni {no nt m k : Nat} {l : List Vn} {v : Vn} (h : 0 < nt) : ∀ es, some ((l.map vnV ++ spare 8 m).set k (vnI v)) = some es → ∀ e ∈ es, ∀ z ∈ e.leaves, z.bel no nt = true := by
 intro es he e hm z hz
 simp only [Option.some.injEq] at he
 subst he
 rcases List.mem_or_eq_of_mem_set hm with hm | rfl
 · exact bel_vns (no := no) (nt := nt) (m := m) (l := l) _ rfl e hm z hz
 · simp only [AV.leaves, List.mem_cons, List.not_mem_nil, or_false] at hz
   rcases hz with rfl | rfl | rfl | rfl | rfl | rfl | rfl | rfl <;> first | rfl | exact decide_eq_true h
theorem idx_sn {l : List Od} {x : Ex} (h : sentF l x = none) : idxP (fitsO x) l = -1 := by
 unfold sentF at h; unfold idxP; rw [h]
theorem idx_sp {l : List Od} {x : Ex} {p : Nat} (h : sentF l x = some p) : idxP (fitsO x) l = (p : Int) := by
 unfold sentF at h; unfold idxP; rw [h]
theorem opens_t {x : Ex} (h : x.kind = 1 ∨ x.kind = 4) : opensX x = true := by unfold opensX; rcases h with h | h <;> rw [h] <;> rfl
theorem told_bad {g : Gt} {k : Nat} {x : Ex} {v : Vn} {nb : Bk} {kk : Int} (h : isAtB g (k : Int) = true) (hx : g.venues[k]? = some v) (hc : comeF v.book x = (nb, kk)) (hk : kk = 1 ∨ kk = 3) (ho : x.kind = 1 ∨ x.kind = 4) (hs : sentF v.sent x = none) : toldG g (k : Int) x = (withG g k (badV v x), 3, 0) := by
 rw [told_at h hx, hc, if_neg (by simp only; omega), if_pos hk]
 simp only [toldV, opens_t ho, if_true, hs]
theorem row_bad {l : List Vn} {k m : Nat} {w : Vn} {x : Ex} {a b c : AV} (h : k < l.length) : (((((l.map vnV ++ spare 8 m).set k a).set k b).set k c).set k (.agg [odsV w.book.orders, dnsV w.book.fills, .sl none 1 (w.book.ids.map str ++ [str x.id]), i64 w.book.clock, i64 2, odsV w.sent, i64 w.last, bl w.gap])) = (l.set k (badV w x)).map vnV ++ spare 8 m := by
 rw [List.set_set, List.set_set, List.set_set, ← row_put (v := badV w x) h]
 congr 1
 simp [badV]
theorem idx_spo {l : List Od} {x : Ex} {p : Nat} (h : (x.kind = 1 ∨ x.kind = 4) → sentF l x = some p) : (x.kind = 1 ∨ x.kind = 4) → idxP (fitsO x) l = (p : Int) := fun q => idx_sp (h q)
theorem told_c3 {g : Gt} {k : Nat} {x : Ex} {v : Vn} {nb : Bk} {p : Nat} (h : isAtB g (k : Int) = true) (hx : g.venues[k]? = some v) (hc : comeF v.book x = (nb, 3)) (hs : (x.kind = 1 ∨ x.kind = 4) → sentF v.sent x = some p) : toldG g (k : Int) x = (withG g k ⟨nb, v.sent, v.last, v.gap⟩, 3, 0) := by
 rw [told_at h hx, hc, if_neg (by simp), if_pos (by simp)]
 simp only [toldV]
 by_cases ho : x.kind = 1 ∨ x.kind = 4
 · simp only [opens_t ho, if_true, hs ho]; rfl
 · have : opensX x = false := by unfold opensX; simp only [not_or] at ho; simp [ho]
   simp only [this]; rfl
theorem told_c1 {g : Gt} {k : Nat} {x : Ex} {v : Vn} {nb : Bk} (h : isAtB g (k : Int) = true) (hx : g.venues[k]? = some v) (hc : comeF v.book x = (nb, 1)) (ho : ¬ (x.kind = 1 ∨ x.kind = 4)) : toldG g (k : Int) x = (withG g k ⟨nb, v.sent, g.now, v.gap⟩, 1, 0) := by
 rw [told_at h hx, hc, if_neg (by simp), if_pos (by simp)]
 have : opensX x = false := by unfold opensX; simp only [not_or] at ho; simp [ho]
 simp only [toldV, this]; rfl
abbrev vnU (v : Vn) (m2 : Nat) : AV := .agg [odsV v.book.orders, dnsV v.book.fills, .sl none 1 (v.book.ids.map str), i64 v.book.clock, i64 v.book.bad, .mu 6 8 0 v.sent.length (v.sent.length + m2), i64 v.last, bl v.gap]
theorem bel_vnu {no nt m m2 k : Nat} {l : List Vn} {v : Vn} (h2 : 6 < no) : ∀ es, some ((l.map vnV ++ spare 8 m).set k (vnU v m2)) = some es → ∀ e ∈ es, ∀ z ∈ e.leaves, z.bel no nt = true := by
 intro es he e hm z hz
 simp only [Option.some.injEq] at he
 subst he
 rcases List.mem_or_eq_of_mem_set hm with hm | rfl
 · exact bel_vns (no := no) (nt := nt) (m := m) (l := l) _ rfl e hm z hz
 · simp only [AV.leaves, List.mem_cons, List.not_mem_nil, or_false] at hz
   rcases hz with rfl | rfl | rfl | rfl | rfl | rfl | rfl | rfl <;> first | rfl | exact decide_eq_true h2
theorem bel_odr {no nt m : Nat} {l : List Od} : ∀ es, some (l.map odV ++ spare 8 m) = some es → ∀ e ∈ es, ∀ z ∈ e.leaves, z.bel no nt = true := bel_row fun x z hz => by
 simp only [AV.leaves, List.mem_cons, List.not_mem_nil, or_false] at hz
 rcases hz with rfl | rfl | rfl | rfl | rfl | rfl | rfl | rfl <;> rfl
theorem od_takeD {l : List Od} {p m : Nat} (h : p < l.length) : ((l.eraseIdx p).map odV ++ spare 8 m).take (l.length - 1) = (l.eraseIdx p).map odV := List.take_left' (by rw [List.length_map, List.length_eraseIdx_of_lt h])
theorem sn_lt {l : List Od} {x : Ex} {p : Nat} (h : sentF l x = some p) : p < l.length := by
 unfold sentF at h
 obtain ⟨h1, _⟩ := List.findIdx?_eq_some_iff_findIdx_eq.1 h
 exact h1
theorem told_d {g : Gt} {k : Nat} {x : Ex} {v : Vn} {nb : Bk} {p : Nat} (h : isAtB g (k : Int) = true) (hx : g.venues[k]? = some v) (hc : comeF v.book x = (nb, 1)) (ho : x.kind = 1 ∨ x.kind = 4) (hs : sentF v.sent x = some p) : toldG g (k : Int) x = (withG g k ⟨nb, v.sent.eraseIdx p, g.now, v.gap⟩, 1, 0) := by
 rw [told_at h hx, hc, if_neg (by simp), if_pos (by simp)]
 simp only [toldV, opens_t ho, if_true, hs]
theorem row_told {l : List Vn} {k m p : Nat} {w : Vn} {nb : Bk} {now : Int} {a b c d : AV} (h : k < l.length) : ((((((l.map vnV ++ spare 8 m).set k a).set k b).set k c).set k d).set k (.agg [odsV nb.orders, dnsV nb.fills, .sl none 1 (nb.ids.map str), i64 nb.clock, i64 nb.bad, .sl none 8 ((w.sent.eraseIdx p).map odV), i64 now, bl w.gap])) = (l.set k ⟨nb, w.sent.eraseIdx p, now, w.gap⟩).map vnV ++ spare 8 m := by
 rw [List.set_set, List.set_set, List.set_set, List.set_set, ← row_put (v := ⟨nb, w.sent.eraseIdx p, now, w.gap⟩) h]
set_option maxHeartbeats 4000000 in
set_option maxRecDepth 8000 in
theorem gtold_n (g : Gt) (n : Int) (x : Ex) (hg : GtSm g) (ha : isAtB g n = false) : ACalls E 30 [gtV g, i64 n, exV x] (fun r t => r = .tup [gtV g, i64 0, i64 1] ∧ t = []) := by
 have hgi := hg.fit
 refine ACalls.of_awp (n := 104) (rs := [.cell 6 58, .tmp 7, .tmp 8]) Tryz.func30 rfl Tryz.ntmps30 rfl ?_
 repeat' (first
 | refine AWP.seqk fun K hK => ?_
 | (refine AWP.region ?_; simp only [go_sem, ha])
 | (refine hK _ ?_; clear hK K)
 | refine AWP.cond rfl (fun c => ?_) (fun c => ?_) <;> first | exact Bool.noConfusion c | (try simp only [dD] at c)
 | (refine ACall.one (gclone_p g hg) (by kernel_rfl) rfl ?_; simp only [go_sem, ha])
 | (refine ACall.one (gisat_c g n hgi) (by kernel_rfl) rfl ?_; simp only [go_sem, ha])
 | (
  refine AWP.ret ?_
  refine AEnd.is ?_; simp only [go_sem, out_v, out_s, out_n, v_int, v_bool, v_str] <;> (first | fail))
 | fail)
set_option maxHeartbeats 4000000 in
set_option maxRecDepth 8000 in
theorem gtold_0 (g : Gt) (k : Nat) (w : Vn) (x : Ex) (hg : GtSm g) (hx0 : g.venues[k]? = some w) (ha : isAtB g (k : Int) = true) (nb : Bk) (kk : Int) (hcf : comeF w.book x = (nb, kk)) (hkk : ¬ kk = 1 ∧ ¬ kk = 3) : ACalls E 30 [gtV g, i64 (k : Int), exV x] (fun r t => r = .tup [gtV (toldG g (k : Int) x).1, i64 (toldG g (k : Int) x).2.1, i64 (toldG g (k : Int) x).2.2] ∧ t = []) := by
 have hgi := hg.fit
 have hg1 := hg.1
 have hg2 := hg.2.1
 have hkn := get_lt hx0
 have hw0 := hg.2.2 w (List.mem_of_getElem? hx0)
 have hil := hw0.2.2.1
 have hgk : (g.venues.map vnV)[k]? = some (vnV w) := by rw [List.getElem?_map, hx0]; rfl
 refine ACalls.of_awp (n := 104) (rs := [.cell 6 58, .tmp 7, .tmp 8]) Tryz.func30 rfl Tryz.ntmps30 rfl ?_
 repeat' (first
 | refine AWP.seqk fun K hK => ?_
 | (refine AWP.region ?_; simp only [go_sem, ha, hgk])
 | (refine AWP.here 5 26 12 rfl ?_; refine AWP.regionO [0, 1, 2, 3, 4, 9, 5, 6, 7, 8, 10, 11] [11] (by kernel_rfl) (by kernel_rfl) rfl ?_; simp only [go_sem, ha, hgk])
 | (refine AWP.here 15 52 7 rfl ?_; refine AWP.regionO [0, 1, 2, 3, 4, 5, 6] [] (by kernel_rfl) (by kernel_rfl) rfl ?_; simp only [go_sem, ha, hgk])
 | (refine AWP.here 17 60 14 rfl ?_; refine AWP.regionAnyT (.take 0 (.take 1 (.take 2 (.take 3 (.take 4 (.take 5 (.take 6 (.take 7 (.take 8 (.take 9 (.take 10 (.take 11 (.take 12 (.take 13 .done)))))))))))))) [[], [], [1], [1, 2], [1, 2, 3], [1, 2, 3, 4], [], [6], [6, 7], [1, 2, 3, 4, 5, 6, 7, 8], [0, 1, 2, 3, 4, 5, 6, 7, 8, 9], [0, 1, 2, 3, 4, 5, 6, 7, 8, 9, 10], [0, 1, 2, 3, 4, 5, 6, 7, 8, 9, 10, 11], [0, 1, 2, 3, 4, 5, 6, 7, 8, 9, 10, 11, 12]] [] (by kernel_rfl) (by kernel_rfl) ?_; simp only [go_sem, ha, hgk])
 | (refine hK _ ?_; clear hK K)
 | refine AWP.block ?_
 | refine AWP.cond rfl (fun c => ?_) (fun c => ?_) <;> first | exact Bool.noConfusion c | (try simp only [dD] at c)
 | refine AWP.skip ?_
 | (refine ACall.one (gclone_p g hg) (by kernel_rfl) rfl ?_; simp only [go_sem, ha, hgk])
 | (refine ACall.one (gisat_c g (k : Int) hgi) (by kernel_rfl) rfl ?_; simp only [go_sem, ha, hgk])
 | (refine ACall.one (come_c w.book x hw0.1 hw0.2.1 hw0.2.2.1) (by kernel_rfl) rfl ?_; simp only [hcf]; simp only [go_sem, ha, hgk])
 | (refine ACall.one (gsent_c _ _ (by first | omega | fail)) (by kernel_rfl) rfl ?_; simp only [go_sem, ha, hgk])
 | (refine AGuard.splitN (fun h => ?_) (fun h => ?_) <;> simp only [h, go_sem, ha, hgk] <;> (try simp only [dD] at h))
 | (
  refine AWP.ret ?_
  refine AEnd.is ?_; simp only [go_sem, out_v, out_s, out_n, v_int, v_bool, v_str] <;> (first | (rw [told_same ha hx0 hcf (by omega)]; simp; done) | (rw [told_arg ha hx0 hcf (by omega)]; simp; done) | fail))
 | (exfalso; omega)
 | fail)
end Go.Proofs.YtajeeghgiilhiaaGreat
end
section
namespace Go.Proofs.YtajeeghgiilhiaaGreat
open Go Go.Abs Go.RowKit Go.Bk
set_option maxHeartbeats 16000000 in
set_option maxRecDepth 8000 in
theorem gtold_b (g : Gt) (k : Nat) (w : Vn) (x : Ex) (hg : GtSm g) (hx0 : g.venues[k]? = some w) (ha : isAtB g (k : Int) = true) (nb : Bk) (kk : Int) (hcf : comeF w.book x = (nb, kk)) (hkk : kk = 1 ∨ kk = 3) (hop : x.kind = 1 ∨ x.kind = 4) (hsn : sentF w.sent x = none) : ACalls E 30 [gtV g, i64 (k : Int), exV x] (fun r t => r = .tup [gtV (toldG g (k : Int) x).1, i64 (toldG g (k : Int) x).2.1, i64 (toldG g (k : Int) x).2.2] ∧ t = []) := by
 have hgi := hg.fit
 have hg1 := hg.1
 have hg2 := hg.2.1
 have hkn := get_lt hx0
 have hw0 := hg.2.2 w (List.mem_of_getElem? hx0)
 have hil := hw0.2.2.1
 have hix := idx_sn hsn
 refine ACalls.of_awp (n := 104) (rs := [.cell 6 58, .tmp 7, .tmp 8]) Tryz.func30 rfl Tryz.ntmps30 rfl ?_
 repeat' (first
 | (
  refine AWP.cutTo hc1 ?_
  first
  | (refine AWP.renum [0, 1, 2, 3, 4, 6] (by decide) rfl rfl ?_; simp only [go_sem, vn_ren, List.length_map]; refine AWP.weaken ?_ (hc1 m); (try simp only [go_sem]); (repeat' (first | refine And.intro ?_ ?_ | trivial | exact .inr (oblA rfl) | exact .inr bel_vns | fail)); done)
  | (have he : g.venues = [] := Classical.byContradiction fun hne => by
       have := hbb (by simpa using hne)
       simp_all
     refine AWP.nilOwn 3 0 8 _ rfl rfl ?_
     simp only [go_sem]
     refine AWP.weaken ?_ (hc1 0); (try simp only [go_sem, he, List.length_nil, List.map_nil, spare_zero]); (repeat' (first | refine And.intro ?_ ?_ | trivial | exact .inr (oblA rfl) | fail)); done))
 | refine AWP.seqk fun K hK => ?_
 | (
  refine AWP.here 1 5 5 rfl ?_
  first
  | (have h0 := hc1; clear h0; refine AWP.regionL ?_; refine AWPL.at 5 2 rfl ?_; simp only [go_sem])
  | ((fail_if_success (have h0 := hc1)); refine AWP.cutAt (ι := Nat) [5, 6, 7, 8] (fun (m : Nat) => []) (fun (m : Nat) => [some [.agg [vnsV g.venues, lmsV g.limits, bl g.kill, i64 g.now, i64 g.pat]], some [exV x], some [.agg [.nilS, .nilS, bl false, i64 0, i64 0]], some [.agg [.mu 5 8 0 g.venues.length (g.venues.length + m), lmsV g.limits, bl g.kill, i64 g.now, i64 g.pat]], some [.agg [.nilS, .nilS, bl false, i64 0, i64 0]], some (g.venues.map vnV ++ spare 8 m)]) (fun (m : Nat) => []) hK (fun m => ?_) (fun hc1 => ?_)))
 | (refine Cut.mk ?_; simp only [go_sem])
 | (
  refine AWP.here 4 21 5 rfl ?_
  have hxk : ((g.venues.map vnV ++ spare 8 m).set k (vnI w))[k]? = some (vnI w) := List.getElem?_set_self (by simp; omega)
  have hxk2 : ∀ z, (((g.venues.map vnV ++ spare 8 m).set k (vnI w)).set k z)[k]? = some z := fun z => List.getElem?_set_self (by simp; omega)
  refine AWP.region ?_; simp only [go_sem, ha])
 | (
  refine AWP.here 5 26 12 rfl ?_
  refine AWP.regionO [0, 1, 2, 3, 4, 9, 5, 6, 7, 8, 10, 11] [11] (by kernel_rfl) (by kernel_rfl) rfl ?_; simp only [go_sem, ha, hxk])
 | (
  refine AWP.here 15 52 7 rfl ?_
  refine AWP.regionO [0, 1, 2, 3, 4, 5, 6] [] (by kernel_rfl) (by kernel_rfl) rfl ?_; simp only [go_sem, ha, hxk])
 | (
  refine AWP.here 17 60 14 rfl ?_
  refine AWP.regionAnyT (.take 0 (.take 1 (.take 2 (.take 3 (.take 4 (.take 5 (.take 6 (.take 7 (.take 8 (.take 9 (.take 10 (.take 11 (.take 12 (.take 13 .done)))))))))))))) [[], [], [1], [1, 2], [1, 2, 3], [1, 2, 3, 4], [], [6], [6, 7], [1, 2, 3, 4, 5, 6, 7, 8], [0, 1, 2, 3, 4, 5, 6, 7, 8, 9], [0, 1, 2, 3, 4, 5, 6, 7, 8, 9, 10], [0, 1, 2, 3, 4, 5, 6, 7, 8, 9, 10, 11], [0, 1, 2, 3, 4, 5, 6, 7, 8, 9, 10, 11, 12]] [] (by kernel_rfl) (by kernel_rfl) ?_; simp only [go_sem, ha, hxk])
 | (
  refine AWP.here 18 73 5 rfl ?_
  refine AWP.region ?_; simp only [go_sem, ha, hxk2])
 | (
  refine AWP.here 19 77 4 rfl ?_
  refine AWP.forgetAt 5 k 2 rfl (List.getElem?_set_self (by simp; omega)) rfl ?_
  simp only [go_sem, ha]
  rw [row_bad hkn]
  refine AWP.publishLeaf 6 0 (jd := 5) (k := 8) (n := g.venues.length) (cap := g.venues.length + m) _ ((g.venues.set k (badV w x)).map vnV ++ spare 8 m) (by decide) rfl rfl rfl (by simp [spare_len]) (by rw [vn_takeS]; exact cl_vn _) ?_
  rw [vn_takeS]
  simp only [go_sem, ha]
  refine AWP.region ?_; simp only [go_sem, ha])
 | (
  refine AWP.here 5 15 5 rfl ?_
  obtain ⟨v, hx⟩ : ∃ v, g.venues[i]? = some v := ⟨_, List.getElem?_eq_getElem (by omega)⟩
  have hv := hg.2.2 v (List.mem_of_getElem? hx)
  have hx2 : (g.venues.map vnV ++ spare 8 m)[i]? = some (vnV v) := by rw [List.getElem?_append_left (by simpa using get_lt hx), List.getElem?_map, hx]; rfl
  have hvw : i = k → v = w := fun e => by subst e; rw [hx] at hx0; exact Option.some.inj hx0
  (first | have hki := dec_f hbk | (have hki := dec_t hbk; have hx3 : ((g.venues.map vnV ++ spare 8 m).set k (vnI w))[i]? = some (vnV v) := (List.getElem?_set_ne (by omega)).trans hx2))
  refine AWP.region ?_; simp only [go_sem])
 | (
  refine AWP.here 7 29 11 rfl ?_
  (first | rw [row_same hx] | rw [row_same3 (by omega) hx] | fail)
  refine AWP.region ?_; simp only [go_sem])
 | (
  refine AWP.here 10 57 2 rfl ?_
  (first | rw [row_same hx] | rw [row_same3 (by omega) hx] | skip)
  (try rw [List.set_set])
  (try (obtain rfl := hvw hik1; subst hik1))
  refine AWP.region ?_; simp only [go_sem])
 | (
  refine AWP.here 8 39 11 rfl ?_
  (first | rw [row_same hx] | rw [row_same3 (by omega) hx] | fail)
  rcases Nat.decEq i k with hik0 | hik1 <;> (first | (exfalso; omega) | (refine AWP.region ?_; simp only [go_sem])))
 | (
  refine AWP.here 9 49 9 rfl ?_
  first
  | (have h0 := hik1; clear h0
     have hx9 : ((g.venues.map vnV ++ spare 8 m).set i (.agg [odsV v.book.orders, dnsV v.book.fills, .sl (some 0) 1 (v.book.ids.map str), i64 v.book.clock, i64 v.book.bad, odsV v.sent, i64 v.last, bl v.gap]))[i]? = some (.agg [odsV v.book.orders, dnsV v.book.fills, .sl (some 0) 1 (v.book.ids.map str), i64 v.book.clock, i64 v.book.bad, odsV v.sent, i64 v.last, bl v.gap]) := List.getElem?_set_self (by simp; omega)
     refine AWP.region ?_; simp only [go_sem])
  | ((first | rw [row_same hx] | rw [row_same3 (by omega) hx] | fail); refine AWP.region ?_; simp only [go_sem]))
 | (
  refine AWP.here 11 58 5 rfl ?_
  (first | (exfalso; have hki := dec_f hbk; omega) | (have hki := dec_t hbk; refine AWP.region ?_; simp only [go_sem])))
 | (
  refine AWP.here 3 5 4 rfl ?_
  refine AWP.regionL ?_
  refine AWPL.mkMu ap55 ?_
  simp only [go_sem]
  refine AWPL.at 3 1 rfl ?_
  simp only [go_sem]
  refine AWPL.appMu sr55 ap55 rfl rfl rfl (by simp; omega) (by simp; omega) ?_
  intro m
  simp only [go_sem]
  refine AWPL.of ?_
  simp only [go_sem])
 | (refine AWP.here 1 14 4 rfl ?_; refine AWP.regionL ?_; refine AWPL.at 4 1 rfl ?_; simp only [go_sem, ha])
 | (refine AWP.region ?_; simp only [go_sem, ha])
 | (refine hK _ ?_; clear hK K)
 | refine AWP.block ?_
 | refine AWP.cond rfl (fun c => ?_) (fun c => ?_) <;> first | exact Bool.noConfusion c | (try simp only [dD] at c)
 | refine AWP.skip ?_
 | (refine AWP.exit ?_; simp only [go_sem, ha])
 | (refine ACall.one (gisat_c g (k : Int) hgi) (by kernel_rfl) rfl ?_; simp only [go_sem, ha])
 | (refine ACall.one (come_c w.book x hw0.1 hw0.2.1 hw0.2.2.1) (by kernel_rfl) rfl ?_; simp only [hcf]; simp only [go_sem, ha])
 | (refine ACall.one (gsent_c w.sent x (by have := hw0.2.2.2; omega)) (by kernel_rfl) rfl ?_; simp only [hix]; simp only [go_sem, ha])
 | (refine ACall.one (oclone_p v.book.orders hv.1) (by kernel_rfl) rfl ?_; simp only [go_sem])
 | (refine ACall.one (oclone_p v.sent hv.2.2.2) (by kernel_rfl) rfl ?_; simp only [go_sem])
 | (refine ACall.one (dclone_p v.book.fills hv.2.1) (by kernel_rfl) rfl ?_; simp only [go_sem])
 | (have h0 := hik1; clear h0; refine ACall.of (sclone_c v.book.ids hv.2.2.1) (by kernel_rfl) rfl ?_; rintro r t ⟨rfl, rfl⟩; simp only [go_sem])
 | (refine ACall.one (sclone_p v.book.ids hv.2.2.1) (by kernel_rfl) rfl ?_; simp only [go_sem])
 | (refine ACall.one (limclone_p g.limits hg2) (by kernel_rfl) rfl ?_; simp only [go_sem])
 | (refine AWPL.call (rs := [.cell 2 58]) Tryz.func76 rfl Tryz.ntmps76 rfl (by kernel_rfl) rfl rfl ?_; simp only [go_sem])
 | (refine AWPL.call (rs := [.tmp 2]) Tryz.func144 rfl Tryz.ntmps144 rfl (by kernel_rfl) rfl rfl ?_; simp only [go_sem])
 | (refine AGuard.splitN (fun h => ?_) (fun h => ?_) <;> simp only [h, go_sem, ha] <;> (try simp only [dD] at h))
 | (refine AGet.haveM (by assumption) ?_; (try simp only [go_sem, ha]))
 | (refine AGet.have' (by assumption) ?_; (try simp only [go_sem, ha]))
 | ((first | refine AGet.nth1 ?_ (fun b hb => ?_) | with_reducible refine And.intro ?_ ?_); (focus (first | omega | (simp; done) | fail)); (try simp only [hb, go_sem, ha]))
 | (
  refine AWP.here 3 13 1 rfl ?_
  refine AWP.loopM (ι := Bool × Nat) [3, 4, 13, 14, 15, 16, 17, 18, 19, 20, 21, 22, 23, 24, 25, 26, 27, 28, 29, 30, 31, 32, 33, 34, 35, 36, 37, 38, 39, 40, 41, 42, 43, 44, 45, 46, 47, 48, 49, 50, 51, 52, 53, 54, 55, 56, 57] (fun ⟨bk, i⟩ => [(12, i64 i)]) (fun ⟨bk, i⟩ => [some [.agg [vnsV g.venues, lmsV g.limits, bl g.kill, i64 g.now, i64 g.pat]], some [exV x], some [.agg [.nilS, .nilS, bl false, i64 0, i64 0]], some [.agg [.mu 5 8 0 g.venues.length (g.venues.length + m), lmsV g.limits, bl g.kill, i64 g.now, i64 g.pat]], some [.agg [.nilS, .nilS, bl false, i64 0, i64 0]], some (bif bk then ((g.venues.map vnV ++ spare 8 m).set k (vnI w)) else (g.venues.map vnV ++ spare 8 m))]) (fun ⟨bk, i⟩ => (bif bk then [w.book.ids.length] else [])) (fun ⟨bk, i⟩ => i ≤ g.venues.length ∧ bk = decide (k < i)) (fun ⟨bk, i⟩ => g.venues.length - i) ((false, 0)) ?_ ?_ ?_
  · (try simp only [go_sem]); (repeat' (first | refine And.intro ?_ ?_ | trivial | exact .inr (oblA rfl) | exact .inr bel_vns | fail)); done
  · exact ⟨by omega, by simp⟩
  rintro ⟨bk, i⟩ ⟨h1, hbk⟩
  simp only [go_sem]
  cases bk <;> simp only [cond_true, cond_false])
 | (
  refine ⟨(false, i + 1), ?_, ?_, ?_⟩
  · (try simp only [go_sem]); (try rw [wrap64_id (by omega) (by omega)]); (repeat' (first | refine And.intro ?_ ?_ | exact .inr rfl | exact .inr (oblA rfl) | exact .inr bel_vns | exact .inr ⟨by simp, by simp⟩)); done
  · (first | exact ⟨by omega, dec_ff (by omega)⟩ | fail)
  · (try simp only []); omega)
 | (
  refine ⟨(true, i + 1), ?_, ?_, ?_⟩
  · (try simp only [go_sem]); (try rw [wrap64_id (by omega) (by omega)]); (repeat' (first | refine And.intro ?_ ?_ | exact .inr rfl | trivial | exact .inr (oblA rfl) | exact .inr (bel_vni (by decide)) | fail)); done
  · (first | exact ⟨by omega, dec_tt (by omega)⟩)
  · (try simp only []); omega)
 | (
  refine AWP.ret ?_
  refine AEnd.is ?_; simp only [go_sem, out_v, out_s, out_n, v_int, v_bool, v_str] <;> (first | (rw [told_bad ha hx0 hcf hkk hop hsn]; simp [withG]; done) | skip))
 | (refine AWP.ret ?_; refine AInPost.ret rfl ?_; simp only [go_sem, ha])
 | (refine AWP.ret ?_; simp only [inb_ret, athen_ret]; refine AInPost.ret rfl ?_; simp only [go_sem, ha])
 | (refine AWPL.of ?_; simp only [go_sem, ha])
 | ((fail_if_success (have := hbb)); (with_reducible intro bb hbb))
 | (exfalso; omega)
 | refine AWP.fin (by assumption) ?_
 | fail)
end Go.Proofs.YtajeeghgiilhiaaGreat
end
