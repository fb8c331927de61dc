/- Texts of one chain, put together (T7, T2, T3, Lx, T4, G2, T5, T8, MrE, G3, G4, G5). -/
import Derived.Test.YtajeeghgiilhiaaGreatKqJ
import Derived.Shelf.SlSortCmp.NoneTotal
import Derived.Test.YtajeeghgiilhiaaGreatKqI
section
set_option linter.unusedVariables false
set_option linter.unusedSimpArgs false
namespace Go.Proofs.YtajeeghgiilhiaaGreat
open Go Go.Abs Go.RowKit Go.Bk
theorem srtF_sort (blk cap : Nat) (l : List Nm) (w : World) (hH : Go.Sort.HoldsK encN 2 w blk 0 l.toArray) (hb : blk < w.heap.size) (hl : l.length < 4611686018427387904) :
    Calls Tryz.prog 129 #[.slice (some ⟨blk, 0, none⟩) l.length cap, .func (.func 130) #[] #[]] w fun e w' => e = .returned (.tuple #[]) ∧ ∃ n os, w' = Go.Sort.grow (Go.Sort.putRowK encN 2 (Go.Sort.ahead w n) blk 0 (srtN l).toArray) os := by
  have h := Go.Proofs.AnyQ.slices_SortFunc_total Tryz.sortf129 2 Tryz.isAgg176 Tryz.sizeOf176 encN (fun _ => rfl) (fun x v hv => by
    simp only [encN, List.mem_cons, List.not_mem_nil, or_false] at hv
    rcases hv with rfl | rfl <;> rfl) cmpN ⟨ltN_irrefl, fun _ _ _ => ltN_trans, fun _ _ _ => ltN_nt⟩ 130 #[] blk 0 cap l.toArray w (Go.Proofs.enters_of Tryz.func130 (by kernel_rfl) rfl) (cmpLaysN _ _ _ _) hH hb hl (fun x y h1 h2 => ltN_ff h1 h2)
  exact h
theorem srtF_none (p : Option Addr) (cap : Nat) (w : World) : Calls Tryz.prog 129 #[.slice p 0 cap, .func (.func 130) #[] #[]] w fun e w' => e = .returned (.tuple #[]) ∧ w' = w := Go.Proofs.AnyF.slices_SortFunc_none Tryz.sortf129 p cap _ w
theorem srtF_call {ops : Array Oper} {rest : List Oper} {Q : Exit → St → Prop} {st : St} {dst : Option Tmp} {x : Operand} {tys : Array TypeId} {ty : TypeId} {pos : String} {after : Array Edge} {id cap : Nat} {l : List Nm} {sp : List AV}
    (hx : st.ev x = .mu id 2 0 l.length cap) (ho : st.own[id]? = some (some (l.map nmV ++ sp))) (hsz : l.length ≤ 1000000)
    (h : AWPL E ops rest Q (St.put { st with own := st.own.set id (some ((srtN l).map nmV ++ sp)) } dst (.tup []))) :
    AWPL E ops (⟨dst, .call ⟨.value (.func 129), #[x, .func 130], tys⟩, ty, pos, after, none⟩ :: rest) Q st :=
  AWPL.sortK encN 2 nmV (by decide) (fun _ => rfl) (fun _ => rfl) (fun x v hv => by
    simp only [encN, List.mem_cons, List.not_mem_nil, or_false] at hv
    rcases hv with rfl | rfl <;> rfl) (by kernel_rfl) rfl rfl srtN srtN_len srtF_sort srtF_none hx ho hsz h
theorem nm_get {l : List Nm} {m i : Nat} {x : Nm} (h : l[i]? = some x) : (l.map nmV ++ spare 2 m)[i]? = some (nmV x) := by
  rw [List.getElem?_append_left (by simpa using get_lt h), List.getElem?_map, h]; rfl
theorem nm_set {l : List Nm} {m i : Nat} {x : Nm} (h : i < l.length) : (l.map nmV ++ spare 2 m).set i (nmV x) = (l.set i x).map nmV ++ spare 2 m := by
  rw [List.set_append_left _ _ (by simpa using h), List.map_set]
theorem bel_nms {no nt m : Nat} {l : List Nm} : ∀ e ∈ l.map nmV ++ spare 2 m, ∀ z ∈ e.leaves, z.bel no nt = true := bel_row (f := nmV) (fun x z hz => by
  simp only [AV.leaves, List.mem_cons, List.not_mem_nil, or_false] at hz
  rcases hz with rfl | rfl <;> rfl) _ rfl
theorem nm_ne {x y : Nm} (h : x.1 = y.1 → ¬ x.2 = y.2) : ¬ x = y := fun e => h (congrArg Prod.fst e) (congrArg Prod.snd e)
theorem nm_eq {x y : Nm} (h : x.1 = y.1 ∧ x.2 = y.2) : x = y := Prod.ext h.1 h.2
theorem cp_next {l : List Nm} {k : Nat} {x y : Nm} (hk : 1 ≤ k) (h : cG l k = l.take k) (hx : l[k]? = some x) (hy : l[k - 1]? = some y) (hne : ¬ x = y) : cG l (k + 1) = l.take (k + 1) := by
  rw [cG_no (by omega) hx hy hne, h, take_next hx]
theorem cp_end {l : List Nm} {k : Nat} (hk : l.length ≤ k) (hk2 : k ≤ l.length) (h : cG l k = l.take k) : cmpct l = l := by
  have : k = l.length := by omega
  subst this; unfold cmpct; rw [h, List.take_length]
theorem take_set_next {l : List Nm} {q : Nat} {x : Nm} (h : q < l.length) : (l.set q x).take (q + 1) = l.take q ++ [x] := by
  rw [List.take_add_one, List.getElem?_set_self h, List.take_set_of_le (Nat.le_refl _)]; rfl

set_option maxRecDepth 100000 in
set_option maxHeartbeats 16000000 in
theorem cpt_call {ops : Array Oper} {l0 : List Oper} {Q : Exit → St → Prop} {tmps up : List AV} {gl : Nat → Option (List AV)} {own : List (Option (List AV))} {tk : List Nat} {dst : Option Tmp} {x0 : Operand} {tys : Array TypeId} {ty : TypeId} {pos : String} {after : Array Edge} {id m N : Nat} {l : List Nm}
    (hx0 : St.ev ⟨tmps, own, tk, gl, none, up⟩ x0 = .mu id 2 0 N (N + m)) (ho : own[id]? = some (some (l.map nmV ++ spare 2 m))) (hbu : (tmps ++ up).all (AV.bel own.length tk.length) = true) (hbo : OwnBel own own.length tk.length) (hl : N ≤ 1000000) (hN : l.length = N)
    (hend : ∀ m' : Nat, AWPL E ops l0 Q (St.put ⟨tmps, own.set id (some ((cmpct l).map nmV ++ spare 2 m')), tk, gl, none, up⟩ dst (.mu id 2 0 (cmpct l).length (N + m)))) :
    AWPL E ops (⟨dst, .call ⟨.value (.func 133), #[x0], tys⟩, ty, pos, after, none⟩ :: l0) Q ⟨tmps, own, tk, gl, none, up⟩ := by
  have hid := lt_of_get ho
  obtain ⟨ow, how⟩ : ∃ ow : List (Option (List AV)), own = ow.set id (some (l.map nmV ++ spare 2 m)) := ⟨own, (set_same ho).symm⟩
  subst how
  rw [List.length_set] at hid
  have hob : ∀ (d' : List Nm), OwnBel (ow.set id (some (d'.map nmV ++ spare 2 m))) ow.length tk.length := fun d' => by
    have := hbo.set (id := id) (bel_nms (l := d') (m := m)); rwa [List.set_set, List.length_set] at this
  rw [List.length_set] at hbu
  simp only [List.set_set] at hend
  refine AWPL.call (caps := []) (rs := [.tmp 2]) Tryz.func133 rfl Tryz.ntmps133 rfl (by kernel_rfl) rfl rfl ?_
  show AWP E _ _ ⟨([St.ev _ x0] ++ []) ++ List.replicate (61 - 1) (.v undef), _, tk, gl, none, tmps ++ up⟩
  rw [hx0]
  have hBr : ∀ (tm : List AV) (m' : Nat), tm[2]? = some (.mu id 2 0 (cmpct l).length (N + m)) → AInPost E.P [.tmp 2] ⟨tmps, ow.set id (some (l.map nmV ++ spare 2 m)), tk, gl, none, up⟩ (fun s z => AWPL E ops l0 Q (s.put dst z)) .ret ⟨tm, ow.set id (some ((cmpct l).map nmV ++ spare 2 m')), tk, gl, none, tmps ++ up⟩ := fun tm m' hu => by
    refine ⟨rfl, ?_⟩
    have gu : ∀ ow, St.ev ⟨tm, ow, tk, gl, none, tmps ++ up⟩ (.tmp 2) = .mu id 2 0 (cmpct l).length (N + m) := fun ow => by simp [St.ev, List.getD_eq_getElem?_getD, hu]
    show AWPL E ops l0 Q (St.put _ dst (tupOf [St.ev _ (.tmp 2)]))
    rw [gu]
    exact hend m'
  generalize AInPost E.P [.tmp 2] ⟨tmps, ow.set id (some (l.map nmV ++ spare 2 m)), tk, gl, none, up⟩ (fun s z => AWPL E ops l0 Q (s.put dst z)) = Q1 at hBr ⊢
  generalize tmps ++ up = up' at hbu hBr ⊢
  clear hend ho hbo hx0
  have hset : ∀ x, (ow.set id x)[id]? = some x := fun x => List.getElem?_set_self hid
  repeat' (first
    | refine AWP.seqk fun K hK => ?_
    | (
        refine AWP.here 6 16 10 rfl ?_
        obtain ⟨x, hx⟩ : ∃ x, l[k]? = some x := ⟨_, List.getElem?_eq_getElem (by omega)⟩
        obtain ⟨y, hy⟩ : ∃ y, l[k - 1]? = some y := ⟨_, List.getElem?_eq_getElem (by omega)⟩
        have w0 : IntKind.i64.wrap ((k : Int) - 1) = ((k - 1 : Nat) : Int) := by rw [wrap64_id (by omega) (by omega)]; omega
        have f1 := nm_get (m := m) hx
        have f2 := nm_get (m := m) hy
        refine AWP.regionO [0, 1, 2, 3, 4, 5, 6, 7, 8, 9] [] (by kernel_rfl) (by kernel_rfl) rfl ?_; simp only [go_sem, hset, List.set_set, List.length_set, w0, f1, f2, Int.toNat_natCast])
    | (
        refine AWP.here 11 35 10 rfl ?_
        obtain ⟨u, hu2⟩ : ∃ x, l[k + k2]? = some x := ⟨_, List.getElem?_eq_getElem (by omega)⟩
        obtain ⟨v, hv2⟩ : ∃ x, l[k + k2 - 1]? = some x := ⟨_, List.getElem?_eq_getElem (by omega)⟩
        have hu3 := (g6 (k + k2) (by omega)).trans hu2
        have hv3 := (g6 (k + k2 - 1) (by omega)).trans hv2
        have w0 : IntKind.i64.wrap ((k2 : Int) - 1) = ((k2 - 1 : Nat) : Int) := by rw [wrap64_id (by omega) (by omega)]; omega
        have f1 := nm_get (m := m) hu3
        have f2 : (r.map nmV ++ spare 2 m)[k + (k2 - 1)]? = some (nmV v) := by rw [show k + (k2 - 1) = k + k2 - 1 by omega]; exact nm_get hv3
        refine AWP.regionO [0, 1, 2, 3, 4, 5, 6, 7, 8, 9] [] (by kernel_rfl) (by kernel_rfl) rfl ?_; simp only [go_sem, hset, List.set_set, List.length_set, w0, f1, f2, Int.toNat_natCast])
    | (
        refine AWP.here 12 45 8 rfl ?_
        have f3 : (r.map nmV ++ spare 2 m).set q (nmV u) = (r.set q u).map nmV ++ spare 2 m := nm_set (by omega)
        obtain ⟨z, hz⟩ : ∃ z, r[q]? = some z := ⟨_, List.getElem?_eq_getElem (by omega)⟩
        have f4 := nm_get (m := m) hz
        refine AWP.region ?_; simp only [go_sem, hset, List.set_set, List.length_set, f1, f3, f4, Int.toNat_natCast])
    | (
        refine AWP.here 13 52 3 rfl ?_
        have w0 : IntKind.i64.wrap ((q : Int) + 1) = ((q + 1 : Nat) : Int) := by rw [wrap64_id (by omega) (by omega)]; omega
        refine AWP.region ?_; simp only [go_sem, hset, List.set_set, List.length_set, w0])
    | (
        refine AWP.here 10 33 3 rfl ?_
        have w0 : IntKind.i64.wrap ((k2 : Int) + 1) = ((k2 + 1 : Nat) : Int) := by rw [wrap64_id (by omega) (by omega)]; omega
        refine AWP.region ?_; simp only [go_sem, hset, List.set_set, List.length_set, w0])
    | (
        refine AWP.here 7 26 4 rfl ?_
        refine AWP.regionL ?_
        refine AWPL.at 4 2 rfl ?_
        simp only [go_sem, hset, List.set_set, List.length_set]
        refine AWPL.sliceMu (e := 176) (k := 2) (l := k) (by kernel_rfl) (by kernel_rfl) (by rfl) (by rfl) (by omega) (by omega) (by omega) ?_
        simp only [go_sem, hset, List.set_set, List.length_set]
        refine AWPL.of ?_
        simp only [go_sem, hset, List.set_set, List.length_set])
    | (
        refine AWP.here 14 54 4 rfl ?_
        have hq : k + k2 = N := by omega
        have hcr : r.take q = cmpct l := by rw [g5, hq]; unfold cmpct; rw [hN]
        have hcl : (cmpct l).length = q := by rw [← hcr, List.length_take]; omega
        refine AWP.regionL ?_
        refine AWPL.at 4 2 rfl ?_
        simp only [go_sem, hset, List.set_set, List.length_set]
        refine AWPL.sliceMu (e := 176) (k := 2) (l := q) (by kernel_rfl) (by kernel_rfl) (by rfl) (by rfl) (by omega) (by omega) (by omega) ?_
        simp only [go_sem, hset, List.set_set, List.length_set]
        refine AWPL.clearMu (e := 176) (k := 2) (n := 32) (cap := N + m - q) (len := N - q - 1) (A := (cmpct l).map nmV) (B := (r.drop q).map nmV ++ spare 2 m) ap174 (by kernel_rfl) (by rw [List.length_map, hcl, show N - q - 1 + 1 = N - q by omega]; rfl) (by rw [hset, ← hcr, ← List.append_assoc, ← List.map_append, List.take_append_drop]) (by simp only [List.length_append, List.length_map, List.length_drop]; omega) ?_
        simp only [go_sem, hset, List.set_set, List.length_set]
        refine AWPL.of ?_
        simp only [go_sem, hset, List.set_set, List.length_set])
    | (refine AWP.region ?_; simp only [go_sem, hset, List.set_set, List.length_set])
    | (refine AWP.here 6 16 10 rfl ?_; refine AWP.regionO [0, 1, 2, 3, 4, 5, 6, 7, 8, 9] [] (by kernel_rfl) (by kernel_rfl) rfl ?_; simp only [go_sem, hset, List.set_set, List.length_set])
    | (refine AWP.here 11 35 10 rfl ?_; refine AWP.regionO [0, 1, 2, 3, 4, 5, 6, 7, 8, 9] [] (by kernel_rfl) (by kernel_rfl) rfl ?_; simp only [go_sem, hset, List.set_set, List.length_set])
    | (refine hK _ ?_; clear hK K)
    | refine AWP.block ?_
    | refine AWP.cond rfl (fun c => ?_) (fun c => ?_) <;> first | exact Bool.noConfusion c | (try simp only [dD] at c)
    | refine AWP.skip ?_
    | (refine AWP.exit ?_; simp only [go_sem, hset, List.set_set, List.length_set])
    | (refine AGet.haveM (by assumption) ?_; (try simp only [go_sem, hset, List.set_set, List.length_set]))
    | (refine AGet.have' (by assumption) ?_; (try simp only [go_sem, hset, List.set_set, List.length_set]))
    | ((first | refine AGet.nth ?_ (fun b hb => ?_) | refine AGet.nth1 ?_ (fun b hb => ?_) | with_reducible refine And.intro ?_ ?_); (focus (first | omega | assumption | exact List.length_pos_iff.2 (by assumption) | (simp only [List.length_append, List.length_cons, List.length_nil, List.length_map, List.length_take, List.length_drop] at *; omega) | (rw [wrap64_id (by omega) (by omega)]; omega) | (simp; done) | (simp [spare_len]; done) | (exact ⟨by omega, by omega⟩))); (try simp only [hb, go_sem, hset, List.set_set, List.length_set]))
    | (
        refine AWP.here 4 10 4 rfl ?_
        refine AWP.loopN (ι := Nat) [2, 4, 5, 10, 11, 12, 13, 14, 15, 16, 17, 18, 19, 20, 21, 22, 23, 24, 25, 26, 27, 28, 29, 30, 31, 32, 33, 34, 35, 36, 37, 38, 39, 40, 41, 42, 43, 44, 45, 46, 47, 48, 49, 50, 51, 52, 53, 54, 55, 56, 57, 58, 59] (fun (k : Nat) => [(3, i64 k)]) (fun (k : Nat) => 1 ≤ k ∧ k ≤ N ∧ cG l k = l.take k) (fun (k : Nat) => N - k) (1) ?_ ?_ ?_
        · (try simp only [go_sem]); (try simp only [List.set_set, List.length_set]); (repeat' (first | assumption | exact OwnBel.wk (hob _) | exact wkK_self | exact .inr ⟨rfl, decide_eq_true hid⟩ | exact .inr (decide_eq_true hid) | refine And.intro ?_ ?_ | exact .inl rfl | exact .inr rfl | exact .inr ⟨rfl, rfl⟩ | trivial | exact .inr (oblA rfl) | exact .inr ⟨rfl, oblA rfl⟩ | exact .inr bel_strs | exact .inr ⟨rfl, bel_strs⟩ | exact .inr ⟨by simp, bel_strs⟩ | (simp; done) | exact .inr ⟨rfl, by simp⟩ | exact .inr ⟨by simp, by simp⟩)); done
        · exact ⟨by omega, by omega, cG_one l⟩
        rintro k ⟨h1, h2, h3⟩
        simp only [go_sem, hset, List.set_set, List.length_set])
    | (
        refine AWP.here 9 29 4 rfl ?_
        refine AWP.loopM (ι := Nat × Nat × List Nm) [29, 30, 31, 32, 33, 34, 35, 36, 37, 38, 39, 40, 41, 42, 43, 44, 45, 46, 47, 48, 49, 50, 51, 52, 53] (fun ⟨k2, q, r⟩ => [(5, i64 k2), (3, i64 q)]) (fun ⟨k2, q, r⟩ => ow.set id (some (r.map nmV ++ spare 2 m))) (fun ⟨k2, q, r⟩ => tk) (fun ⟨k2, q, r⟩ => 1 ≤ k2 ∧ k + k2 ≤ N ∧ q + 1 ≤ k + k2 ∧ r.length = N ∧ r.take q = cG l (k + k2) ∧ (∀ j, k + k2 ≤ j + 1 → r[j]? = l[j]?) ∧ (cG l (k + k2)).length = q) (fun ⟨k2, q, r⟩ => N - k2) ((1, k, l)) ?_ ?_ ?_
        · (try simp only [go_sem]); (try simp only [List.set_set, List.length_set]); (repeat' (first | assumption | exact OwnBel.wk (hob _) | exact wkK_self | exact .inr ⟨rfl, decide_eq_true hid⟩ | exact .inr (decide_eq_true hid) | refine And.intro ?_ ?_ | exact .inl rfl | exact .inr rfl | exact .inr ⟨rfl, rfl⟩ | trivial | exact .inr (oblA rfl) | exact .inr ⟨rfl, oblA rfl⟩ | exact .inr bel_strs | exact .inr ⟨rfl, bel_strs⟩ | exact .inr ⟨by simp, bel_strs⟩ | (simp; done) | exact .inr ⟨rfl, by simp⟩ | exact .inr ⟨by simp, by simp⟩)); done
        · (have e1 := cG_yes (by omega) hx hy (nm_eq (by assumption)); exact ⟨by omega, by omega, by omega, hN, by rw [e1, h3], fun _ _ => rfl, by rw [e1, h3, List.length_take]; omega⟩)
        rintro ⟨k2, q, r⟩ ⟨g1, g2, g3, g4, g5, g6, g7⟩
        simp only [go_sem, hset, List.set_set, List.length_set])
    | (
        refine ⟨k + 1, ?_, ?_, ?_⟩
        · (try simp only [go_sem]); (try rw [wrap64_id (by omega) (by omega)]); (try simp only [List.set_set, List.length_set]); (repeat' (first | assumption | exact OwnBel.wk (hob _) | exact wkK_self | exact .inr ⟨rfl, decide_eq_true hid⟩ | exact .inr (decide_eq_true hid) | refine And.intro ?_ ?_ | exact .inl rfl | exact .inr rfl | exact .inr ⟨rfl, rfl⟩ | trivial | exact .inr (oblA rfl) | exact .inr ⟨rfl, oblA rfl⟩ | exact .inr bel_strs | exact .inr ⟨rfl, bel_strs⟩ | exact .inr ⟨by simp, bel_strs⟩ | (simp; done) | exact .inr ⟨rfl, by simp⟩ | exact .inr ⟨by simp, by simp⟩)); done
        · exact ⟨by omega, by omega, cp_next h1 h3 hx hy (nm_ne (by assumption))⟩
        · (try simp only []); omega)
    | (
        refine ⟨(k2 + 1, q + 1, r.set q u), ?_, ?_, ?_⟩
        · (try simp only [go_sem]); (try rw [wrap64_id (by omega) (by omega)]); (try simp only [List.set_set, List.length_set]); (repeat' (first | assumption | exact OwnBel.wk (hob _) | exact wkK_self | exact .inr ⟨rfl, decide_eq_true hid⟩ | exact .inr (decide_eq_true hid) | refine And.intro ?_ ?_ | exact .inl rfl | exact .inr rfl | exact .inr ⟨rfl, rfl⟩ | trivial | exact .inr (oblA rfl) | exact .inr ⟨rfl, oblA rfl⟩ | exact .inr bel_strs | exact .inr ⟨rfl, bel_strs⟩ | exact .inr ⟨by simp, bel_strs⟩ | (simp; done) | exact .inr ⟨rfl, by simp⟩ | exact .inr ⟨by simp, by simp⟩)); done
        · (try dsimp only); first
        | (have e1 := cG_no (l := l) (i := k + k2) (by omega) hu2 hv2 (nm_ne (by assumption)); exact ⟨by omega, by omega, by omega, by rw [List.length_set]; exact g4, by rw [show k + (k2 + 1) = k + k2 + 1 by omega, e1, ← g5]; exact take_set_next (by omega), fun j hj => by rw [List.getElem?_set_ne (by omega)]; exact g6 j (by omega), by rw [show k + (k2 + 1) = k + k2 + 1 by omega, e1, List.length_append, g7]; rfl⟩)
        | (have e1 := cG_yes (l := l) (i := k + k2) (by omega) hu2 hv2 (nm_eq (by assumption)); exact ⟨by omega, by omega, by omega, g4, by rw [show k + (k2 + 1) = k + k2 + 1 by omega, e1]; exact g5, fun j hj => g6 j (by omega), by rw [show k + (k2 + 1) = k + k2 + 1 by omega, e1]; exact g7⟩)
        · (try simp only []); omega)
    | (
        refine ⟨(k2 + 1, q, r), ?_, ?_, ?_⟩
        · (try simp only [go_sem]); (try rw [wrap64_id (by omega) (by omega)]); (try simp only [List.set_set, List.length_set]); (repeat' (first | assumption | exact OwnBel.wk (hob _) | exact wkK_self | exact .inr ⟨rfl, decide_eq_true hid⟩ | exact .inr (decide_eq_true hid) | refine And.intro ?_ ?_ | exact .inl rfl | exact .inr rfl | exact .inr ⟨rfl, rfl⟩ | trivial | exact .inr (oblA rfl) | exact .inr ⟨rfl, oblA rfl⟩ | exact .inr bel_strs | exact .inr ⟨rfl, bel_strs⟩ | exact .inr ⟨by simp, bel_strs⟩ | (simp; done) | exact .inr ⟨rfl, by simp⟩ | exact .inr ⟨by simp, by simp⟩)); done
        · (try dsimp only); first
        | (have e1 := cG_no (l := l) (i := k + k2) (by omega) hu2 hv2 (nm_ne (by assumption)); exact ⟨by omega, by omega, by omega, by rw [List.length_set]; exact g4, by rw [show k + (k2 + 1) = k + k2 + 1 by omega, e1, ← g5]; exact take_set_next (by omega), fun j hj => by rw [List.getElem?_set_ne (by omega)]; exact g6 j (by omega), by rw [show k + (k2 + 1) = k + k2 + 1 by omega, e1, List.length_append, g7]; rfl⟩)
        | (have e1 := cG_yes (l := l) (i := k + k2) (by omega) hu2 hv2 (nm_eq (by assumption)); exact ⟨by omega, by omega, by omega, g4, by rw [show k + (k2 + 1) = k + k2 + 1 by omega, e1]; exact g5, fun j hj => g6 j (by omega), by rw [show k + (k2 + 1) = k + k2 + 1 by omega, e1]; exact g7⟩)
        · (try simp only []); omega)
    | (
        first
        | (refine AWP.ret ?_
           (try simp only [inb_ret, athen_ret])
           (try simp only [List.set_set])
           exact hBr _ _ (by simp only [cmpct_short (show l.length < 2 by omega), hN]; rfl))
        | (refine AWP.ret ?_
           (try simp only [inb_ret, athen_ret])
           (try simp only [List.set_set])
           have e1 := cmpct_short (show l.length < 2 by omega)
           have e2 := hBr
           rw [e1, hN] at e2
           exact e2 _ _ rfl)
        | (refine AWP.ret ?_
           (try simp only [inb_ret, athen_ret])
           (try simp only [List.set_set])
           have e1 := cp_end (by omega) (by omega) h3
           have e2 := hBr
           rw [e1, hN] at e2
           exact e2 _ _ rfl)
        | (refine AWP.ret ?_
           (try simp only [inb_ret, athen_ret])
           (try simp only [List.set_set])
           have e2 := hBr
           rw [hcl] at e2
           exact e2 _ _ rfl))
    | refine AWP.fin (by assumption) ?_
    | fail)


end Go.Proofs.YtajeeghgiilhiaaGreat
end
section
set_option linter.unusedVariables false
set_option linter.unusedSimpArgs false
namespace Go.Proofs.YtajeeghgiilhiaaGreat
open Go Go.Abs Go.RowKit Go.Bk
theorem lt_t {d : Array Po} {i j : Nat} (h : cmpN (nmP d[i]!) (nmP d[j]!) < 0) : ltP d[i]! d[j]! = true := ltP_iff.2 h
theorem lt_f {d : Array Po} {i j : Nat} (h : ¬ cmpN (nmP d[i]!) (nmP d[j]!) < 0) : ltP d[i]! d[j]! = false := by
  cases e : ltP d[i]! d[j]! with
  | false => rfl
  | true => exact absurd (ltP_iff.1 e) h
theorem nlt_t {d : Array Po} {i j : Nat} (h : ¬ cmpN (nmP d[i]!) (nmP d[j]!) < 0) : (!ltP d[i]! d[j]!) = true := by rw [lt_f h]; rfl
theorem nlt_f {d : Array Po} {i j : Nat} (h : cmpN (nmP d[i]!) (nmP d[j]!) < 0) : (!ltP d[i]! d[j]!) = false := by rw [lt_t h]; rfl
theorem bs_lt {q : Nat → Bool} {i j : Nat} (h : i < j) (hq : q ((i + j) / 2) = true) : Go.Stb.bsG q i j = Go.Stb.bsG q ((i + j) / 2 + 1) j := by
  rw [Go.Stb.bsG, if_pos h, if_pos hq]
theorem bs_ge {q : Nat → Bool} {i j : Nat} (h : i < j) (hq : q ((i + j) / 2) = false) : Go.Stb.bsG q i j = Go.Stb.bsG q i ((i + j) / 2) := by
  rw [Go.Stb.bsG, if_pos h, if_neg (by rw [hq]; simp)]
theorem bs_end {q : Nat → Bool} {i j : Nat} (h : ¬ i < j) : Go.Stb.bsG q i j = i := by
  rw [Go.Stb.bsG, if_neg h]
section
variable {i k s x lo hi mi N : Nat} {d e1 e2 : Array Po}
theorem upS_step (h : k + 1 < i) : Go.Stb.upS k i d = Go.Stb.upS (k + 1) i (Go.Sort.swp d k (k + 1)) := by rw [Go.Stb.upS, if_pos h]
theorem upS_end (h : ¬ k + 1 < i) : Go.Stb.upS k i d = d := by rw [Go.Stb.upS, if_neg h]
theorem dnS_step (h : i < k) : Go.Stb.dnS i k d = Go.Stb.dnS i (k - 1) (Go.Sort.swp d k (k - 1)) := by
  cases k with
  | zero => omega
  | succ k => rw [Go.Stb.dnS, if_pos h]; rfl
theorem dnS_end (h : ¬ i < k) : Go.Stb.dnS i k d = d := by
  cases k with
  | zero => rfl
  | succ k => rw [Go.Stb.dnS, if_neg h]
theorem upS_size : ∀ (r k : Nat) (d : Array Po), i - k ≤ r → (Go.Stb.upS k i d).size = d.size
  | 0, k, d, h => by rw [upS_end (by omega)]
  | r + 1, k, d, h => by
    rcases Nat.lt_or_ge (k + 1) i with h2 | h2
    · rw [upS_step h2, upS_size r (k + 1) _ (by omega), Go.Sort.swp_size]
    · rw [upS_end (by omega)]
theorem dnS_size : ∀ (k : Nat) (d : Array Po), (Go.Stb.dnS i k d).size = d.size
  | 0, d => rfl
  | k + 1, d => by
    rcases Nat.lt_or_ge i (k + 1) with h2 | h2
    · rw [dnS_step h2]; show (Go.Stb.dnS i k _).size = _; rw [dnS_size k, Go.Sort.swp_size]
    · rw [dnS_end (by omega)]
theorem rotL_size0 : ∀ (r i j : Nat) (d : Array Po), i + j ≤ r → (Go.Stb.rotL mi i j d).size = d.size
  | r, i, j, d, h => by
    rw [Go.Stb.rotL]
    split
    · rfl
    · split
      · exact Go.Stb.swpR_size _ _ _ _ _ _ rfl
      · split
        · cases r with
          | zero => omega
          | succ r => rw [rotL_size0 r _ _ _ (by omega), Go.Stb.swpR_size _ _ _ _ _ _ rfl]
        · cases r with
          | zero => omega
          | succ r => rw [rotL_size0 r _ _ _ (by omega), Go.Stb.swpR_size _ _ _ _ _ _ rfl]
theorem rotIf_size : (Go.Stb.rotIf ltP lo mi hi d).size = d.size := by
  unfold Go.Stb.rotIf; split
  · exact rotL_size0 _ _ _ _ (Nat.le_refl _)
  · rfl
theorem symM_size0 : ∀ (r lo mi hi : Nat) (d : Array Po), hi - lo ≤ r → (Go.Stb.symM ltP lo mi hi d).size = d.size
  | r, lo, mi, hi, d, hr => by
    rw [Go.Stb.symM]
    split
    · exact upS_size _ _ _ (Nat.le_refl _)
    · split
      · exact dnS_size _ _
      · split
        · rename_i h2
          cases r with
          | zero => omega
          | succ r =>
            rw [symM_size0 r _ _ _ _ (by omega)]
            split
            · rw [symM_size0 r _ _ _ _ (by omega)]; exact rotIf_size
            · exact rotIf_size
        · split
          · cases r with
            | zero => omega
            | succ r => rw [symM_size0 r _ _ _ _ (by omega)]; exact rotIf_size
          · exact rotIf_size
theorem symM_size : (Go.Stb.symM ltP lo mi hi d).size = d.size := symM_size0 _ _ _ _ _ (Nat.le_refl _)
theorem rotIf_yes (hs : Go.Stb.sCut ltP lo mi hi d = s) (h1 : s < mi) (h2 : mi < (lo + hi) / 2 + mi - s) : Go.Stb.rotIf ltP lo mi hi d = Go.Stb.rotL mi (mi - s) ((lo + hi) / 2 + mi - s - mi) d := by
  unfold Go.Stb.rotIf; rw [hs, if_pos ⟨h1, h2⟩]
theorem rotIf_no (hs : Go.Stb.sCut ltP lo mi hi d = s) (h : ¬ (s < mi ∧ mi < (lo + hi) / 2 + mi - s)) : Go.Stb.rotIf ltP lo mi hi d = d := by
  unfold Go.Stb.rotIf; rw [hs, if_neg h]
theorem sym_1 (h : mi - lo = 1) : Go.Stb.symM ltP lo mi hi d = Go.Stb.upS lo (Go.Stb.bsG (fun x => ltP d[x]! d[lo]!) mi hi) d := by
  rw [Go.Stb.symM, if_pos h]
theorem sym_2 (h : ¬ mi - lo = 1) (h2 : hi - mi = 1) : Go.Stb.symM ltP lo mi hi d = Go.Stb.dnS (Go.Stb.bsG (fun x => !ltP d[mi]! d[x]!) lo mi) mi d := by
  rw [Go.Stb.symM, if_neg h, if_pos h2]
theorem sym_3 (h : ¬ mi - lo = 1) (h2 : ¬ hi - mi = 1) (hs : Go.Stb.sCut ltP lo mi hi d = s) (he1 : Go.Stb.rotIf ltP lo mi hi d = e1) (he2 : (if lo < s ∧ s < (lo + hi) / 2 then Go.Stb.symM ltP lo s ((lo + hi) / 2) e1 else e1) = e2) :
    Go.Stb.symM ltP lo mi hi d = if (lo + hi) / 2 < (lo + hi) / 2 + mi - s ∧ (lo + hi) / 2 + mi - s < hi then Go.Stb.symM ltP ((lo + hi) / 2) ((lo + hi) / 2 + mi - s) hi e2 else e2 := by
  rw [Go.Stb.symM, if_neg h, if_neg h2, hs, he1]
  simp only [dite_eq_ite]
  rw [he2]
theorem isort_size (h1 : lo ≤ hi) (h2 : hi ≤ d.size) : (Go.Sort.insertionSort ltP d lo hi).size = d.size := (Go.Sort.insertionSort_holds swo_P d lo hi h1 h2).1.1
theorem insB_step (h : x + 20 ≤ N) : Go.Stb.insB ltP N x (x + 20) d = Go.Stb.insB ltP N (x + 20) (x + 20 + 20) (Go.Sort.insertionSort ltP d x (x + 20)) := by rw [Go.Stb.insB, if_pos h]
theorem insB_stop (h : ¬ x + 20 ≤ N) : Go.Stb.insB ltP N x (x + 20) d = Go.Sort.insertionSort ltP d x N := by rw [Go.Stb.insB, if_neg h]
theorem mrgP_step (h0 : 0 < s) (h : x + 2 * s ≤ N) : Go.Stb.mrgP ltP N s x (x + 2 * s) d = Go.Stb.mrgP ltP N s (x + 2 * s) (x + 2 * s + 2 * s) (Go.Stb.symM ltP x (x + s) (x + 2 * s) d) := by rw [Go.Stb.mrgP, if_neg (by omega), if_pos h]
theorem mrgP_end1 (h0 : 0 < s) (h : ¬ x + 2 * s ≤ N) (h2 : x + s < N) : Go.Stb.mrgP ltP N s x (x + 2 * s) d = Go.Stb.symM ltP x (x + s) N d := by rw [Go.Stb.mrgP, if_neg (by omega), if_neg h, if_pos h2]
theorem mrgP_end2 (h0 : 0 < s) (h : ¬ x + 2 * s ≤ N) (h2 : ¬ x + s < N) : Go.Stb.mrgP ltP N s x (x + 2 * s) d = d := by rw [Go.Stb.mrgP, if_neg (by omega), if_neg h, if_neg h2]
theorem mrgL_step (h0 : 0 < s) (h : s < N) : Go.Stb.mrgL ltP N s d = Go.Stb.mrgL ltP N (s * 2) (Go.Stb.mrgP ltP N s 0 (2 * s) d) := by rw [Go.Stb.mrgL, dif_pos ⟨h0, h⟩]
theorem mrgL_stop (h : ¬ s < N) : Go.Stb.mrgL ltP N s d = d := by rw [Go.Stb.mrgL, dif_neg (by omega)]
end

set_option maxRecDepth 100000 in
set_option maxHeartbeats 16000000 in
theorem sym_call (rr : Nat) : ∀ {ops : Array Oper} {l0 : List Oper} {Q : Exit → St → Prop} {tmps up : List AV} {gl : Nat → Option (List AV)} {own : List (Option (List AV))} {tk : List Nat} {dst : Option Tmp} {x0 x1 x2 x3 x4 : Operand} {tys : Array TypeId} {ty : TypeId} {pos : String} {after : Array Edge} {id m N : Nat} {d : Array Po} {lo mi hi : Nat}
    (hx0 : St.ev ⟨tmps, own, tk, gl, none, up⟩ x0 = .mu id 5 0 N (N + m))
    (hx1 : St.ev ⟨tmps, own, tk, gl, none, up⟩ x1 = i64 (lo : Int))
    (hx2 : St.ev ⟨tmps, own, tk, gl, none, up⟩ x2 = i64 (mi : Int))
    (hx3 : St.ev ⟨tmps, own, tk, gl, none, up⟩ x3 = i64 (hi : Int))
    (hx4 : St.ev ⟨tmps, own, tk, gl, none, up⟩ x4 = .fn 104 [])
    (ho : own[id]? = some (some (rowP d m)))
    (hbu : (tmps ++ up).all (AV.bel own.length tk.length) = true)
    (hbo : OwnBel own own.length tk.length)
    (hl : N ≤ 1000000)
    (hN : d.size = N)
    (h1 : lo < mi)
    (h2 : mi < hi)
    (h3 : hi ≤ N)
    (hend : AWPL E ops l0 Q (St.put ⟨tmps, own.set id (some (rowP (Go.Stb.symM ltP lo mi hi d) m)), tk, gl, none, up⟩ dst (.tup []))) (hr : hi - lo ≤ rr), AWPL E ops (⟨dst, .call ⟨.value (.func 226), #[x0, x1, x2, x3, x4], tys⟩, ty, pos, after, none⟩ :: l0) Q ⟨tmps, own, tk, gl, none, up⟩ := by
  induction rr with
  | zero => intros; exfalso; omega
  | succ rr ih =>
  intro ops l0 Q tmps up gl own tk dst x0 x1 x2 x3 x4 tys ty pos after id m N d lo mi hi hx0 hx1 hx2 hx3 hx4 ho hbu hbo hl hN h1 h2 h3 hend hr
  have hid := lt_of_get ho
  obtain ⟨ow, how⟩ : ∃ ow : List (Option (List AV)), own = ow.set id (some (rowP d m)) := ⟨own, (set_same ho).symm⟩
  subst how
  rw [List.length_set] at hid
  have hob : ∀ d' : Array Po, OwnBel (ow.set id (some (rowP d' m))) ow.length tk.length := fun d' => by
    have := hbo.set (id := id) (bel_rowP d' m); rwa [List.set_set, List.length_set] at this
  have hob2 : ∀ d' : Array Po, OwnBel (ow.set id (some (rowP d' m))) (ow.set id (some (rowP d' m))).length tk.length := fun d' => by rw [List.length_set]; exact hob d'
  rw [List.length_set] at hbu
  simp only [List.set_set] at hend
  refine AWPL.call (caps := []) (rs := []) Tryz.func226 rfl Tryz.ntmps226 rfl (by kernel_rfl) rfl rfl ?_
  show AWP E _ _ ⟨([St.ev _ x0, St.ev _ x1, St.ev _ x2, St.ev _ x3, St.ev _ x4] ++ []) ++ List.replicate (220 - 5) (.v undef), _, tk, gl, none, tmps ++ up⟩
  rw [hx0, hx1, hx2, hx3, hx4]
  have hBn : ∀ (tm : List AV) (d' : Array Po), d' = Go.Stb.symM ltP lo mi hi d → AInPost E.P [] ⟨tmps, ow.set id (some (rowP d m)), tk, gl, none, up⟩ (fun s z => AWPL E ops l0 Q (s.put dst z)) .normal ⟨tm, ow.set id (some (rowP d' m)), tk, gl, none, tmps ++ up⟩ := fun tm d' e => by subst e; exact ⟨rfl, hend⟩
  have hBr : ∀ (tm : List AV) (d' : Array Po), d' = Go.Stb.symM ltP lo mi hi d → AInPost E.P [] ⟨tmps, ow.set id (some (rowP d m)), tk, gl, none, up⟩ (fun s z => AWPL E ops l0 Q (s.put dst z)) .ret ⟨tm, ow.set id (some (rowP d' m)), tk, gl, none, tmps ++ up⟩ := fun tm d' e => by subst e; exact ⟨rfl, hend⟩
  generalize AInPost E.P [] ⟨tmps, ow.set id (some (rowP d m)), tk, gl, none, up⟩ (fun s z => AWPL E ops l0 Q (s.put dst z)) = Q1 at hBn hBr ⊢
  generalize tmps ++ up = up' at hbu hBn hBr ⊢
  clear hend ho hbo hx0 hx1 hx2 hx3 hx4
  have hset : ∀ x, (ow.set id x)[id]? = some x := fun x => List.getElem?_set_self hid
  repeat' (first
    | refine AWP.seqk fun K hK => ?_
    | (
        refine AWP.here 0 25 4 rfl ?_
        have w0 : IntKind.i64.wrap ((mi : Int) - lo) = ((mi - lo : Nat) : Int) := by rw [wrap64_id (by omega) (by omega)]; omega
        refine AWP.region ?_; simp only [go_sem, hset, List.set_set, List.length_set, w0])
    | (
        refine AWP.here 4 34 7 rfl ?_
        have hh := half_eq (i := i) (j := j) (by omega) (by omega)
        refine AWP.region ?_; simp only [go_sem, hset, List.set_set, List.length_set, hh])
    | (
        refine AWP.here 5 40 11 rfl ?_
        have f1 : (rowP d m)[(i + j) / 2]? = some (poV d[(i + j) / 2]!) := row_get (by omega)
        have f2 : (rowP d m)[lo]? = some (poV d[lo]!) := row_get (by omega)
        refine AWP.regionO [0, 1, 2, 3, 4, 5, 6, 7, 8, 9, 10] [] (by kernel_rfl) (by kernel_rfl) rfl ?_; simp only [go_sem, hset, List.set_set, List.length_set, f1, f2, Int.toNat_natCast])
    | (
        refine AWP.here 8 54 2 rfl ?_
        obtain rfl : i = j := by omega
        have gi : Go.Stb.bsG (fun x => ltP d[x]! d[lo]!) mi hi = i := by rw [← g4, bs_end (by omega)]
        refine AWP.region ?_; simp only [go_sem, hset, List.set_set, List.length_set])
    | (
        refine AWP.here 9 55 4 rfl ?_
        have w0 : IntKind.i64.wrap ((i : Int) - 1) = ((i - 1 : Nat) : Int) := by rw [wrap64_id (by omega) (by omega)]; omega
        refine AWP.region ?_; simp only [go_sem, hset, List.set_set, List.length_set, w0])
    | (
        refine AWP.here 11 61 18 rfl ?_
        have w0 : IntKind.i64.wrap ((k : Int) + 1) = ((k + 1 : Nat) : Int) := by rw [wrap64_id (by omega) (by omega)]; omega
        have g1 : (rowP e m)[k]? = some (poV e[k]!) := row_get (by omega)
        have g2 : (rowP e m)[k + 1]? = some (poV e[k + 1]!) := row_get (by omega)
        have g3 : ((rowP e m).set (k) (poV e[k + 1]!))[k + 1]? = some (poV (e.setIfInBounds (k) e[k + 1]!)[k + 1]!) := by rw [row_set (by omega)]; exact row_get (by rw [Array.size_setIfInBounds]; omega)
        have g4 : ((rowP e m).set (k) (poV e[k + 1]!)).set (k + 1) (poV e[k]!) = rowP (Go.Sort.swp e (k) (k + 1)) m := row_swp (by omega) (by omega)
        refine AWP.regionO [0, 1, 2, 3, 4, 5, 6, 7, 8, 9, 10, 11, 12, 13, 14, 15, 16, 17] [] (by kernel_rfl) (by kernel_rfl) rfl ?_; simp only [go_sem, hset, List.set_set, List.length_set, w0, g1, g2, g3, g4, Int.toNat_natCast, hset, List.set_set])
    | (
        refine AWP.here 10 59 3 rfl ?_
        have w0 : IntKind.i64.wrap ((k : Int) + 1) = ((k + 1 : Nat) : Int) := by rw [wrap64_id (by omega) (by omega)]; omega
        refine AWP.region ?_; simp only [go_sem, hset, List.set_set, List.length_set, w0])
    | (
        refine AWP.here 12 77 4 rfl ?_
        have w0 : IntKind.i64.wrap ((hi : Int) - mi) = ((hi - mi : Nat) : Int) := by rw [wrap64_id (by omega) (by omega)]; omega
        refine AWP.region ?_; simp only [go_sem, hset, List.set_set, List.length_set, w0])
    | (
        refine AWP.here 16 86 7 rfl ?_
        have hh := half_eq (i := i) (j := j) (by omega) (by omega)
        refine AWP.region ?_; simp only [go_sem, hset, List.set_set, List.length_set, hh])
    | (
        refine AWP.here 17 92 12 rfl ?_
        have f1 : (rowP d m)[(i + j) / 2]? = some (poV d[(i + j) / 2]!) := row_get (by omega)
        have f2 : (rowP d m)[mi]? = some (poV d[mi]!) := row_get (by omega)
        refine AWP.regionO [0, 1, 2, 3, 4, 5, 6, 7, 8, 9, 10, 11] [] (by kernel_rfl) (by kernel_rfl) rfl ?_; simp only [go_sem, hset, List.set_set, List.length_set, f1, f2, Int.toNat_natCast])
    | (
        refine AWP.here 20 107 2 rfl ?_
        obtain rfl : i = j := by omega
        have gi : Go.Stb.bsG (fun x => !ltP d[mi]! d[x]!) lo mi = i := by rw [← g4, bs_end (by omega)]
        refine AWP.region ?_; simp only [go_sem, hset, List.set_set, List.length_set])
    | (
        refine AWP.here 23 113 18 rfl ?_
        have w0 : IntKind.i64.wrap ((k : Int) - 1) = ((k - 1 : Nat) : Int) := by rw [wrap64_id (by omega) (by omega)]; omega
        have g1 : (rowP e m)[k]? = some (poV e[k]!) := row_get (by omega)
        have g2 : (rowP e m)[k - 1]? = some (poV e[k - 1]!) := row_get (by omega)
        have g3 : ((rowP e m).set (k) (poV e[k - 1]!))[k - 1]? = some (poV (e.setIfInBounds (k) e[k - 1]!)[k - 1]!) := by rw [row_set (by omega)]; exact row_get (by rw [Array.size_setIfInBounds]; omega)
        have g4 : ((rowP e m).set (k) (poV e[k - 1]!)).set (k - 1) (poV e[k]!) = rowP (Go.Sort.swp e (k) (k - 1)) m := row_swp (by omega) (by omega)
        refine AWP.regionO [0, 1, 2, 3, 4, 5, 6, 7, 8, 9, 10, 11, 12, 13, 14, 15, 16, 17] [] (by kernel_rfl) (by kernel_rfl) rfl ?_; simp only [go_sem, hset, List.set_set, List.length_set, w0, g1, g2, g3, g4, Int.toNat_natCast, hset, List.set_set])
    | (
        refine AWP.here 22 111 3 rfl ?_
        have w0 : IntKind.i64.wrap ((k : Int) - 1) = ((k - 1 : Nat) : Int) := by rw [wrap64_id (by omega) (by omega)]; omega
        refine AWP.region ?_; simp only [go_sem, hset, List.set_set, List.length_set, w0])
    | (
        refine AWP.here 24 129 7 rfl ?_
        have hh := half_eq (i := lo) (j := hi) (by omega) (by omega)
        refine AWP.region ?_; simp only [go_sem, hset, List.set_set, List.length_set, hh])
    | (
        refine AWP.here 25 135 4 rfl ?_
        have w0 : IntKind.i64.wrap ((((lo + hi) / 2 : Nat) : Int) + mi) = (((lo + hi) / 2 + mi : Nat) : Int) := by rw [wrap64_id (by omega) (by omega)]; omega
        refine AWP.region ?_; simp only [go_sem, hset, List.set_set, List.length_set, w0])
    | (
        refine AWP.here 28 141 4 rfl ?_
        have w0 : IntKind.i64.wrap ((((lo + hi) / 2 + mi : Nat) : Int) - hi) = (((lo + hi) / 2 + mi - hi : Nat) : Int) := by rw [wrap64_id (by omega) (by omega)]; omega
        refine AWP.region ?_; simp only [go_sem, hset, List.set_set, List.length_set, w0])
    | (
        refine AWP.here 32 147 3 rfl ?_
        have w0 : IntKind.i64.wrap ((((lo + hi) / 2 + mi : Nat) : Int) - 1) = (((lo + hi) / 2 + mi - 1 : Nat) : Int) := by rw [wrap64_id (by omega) (by omega)]; omega
        refine AWP.region ?_; simp only [go_sem, hset, List.set_set, List.length_set, w0])
    | (
        refine AWP.here 34 152 7 rfl ?_
        have hh := half_eq (i := s) (j := r) (by omega) (by omega)
        refine AWP.region ?_; simp only [go_sem, hset, List.set_set, List.length_set, hh])
    | (
        refine AWP.here 35 158 14 rfl ?_
        have w0 : IntKind.i64.wrap ((((lo + hi) / 2 + mi - 1 : Nat) : Int) - (((s + r) / 2 : Nat) : Int)) = (((lo + hi) / 2 + mi - 1 - (s + r) / 2 : Nat) : Int) := by rw [wrap64_id (by omega) (by omega)]; omega
        have f1 : (rowP d m)[(lo + hi) / 2 + mi - 1 - (s + r) / 2]? = some (poV d[(lo + hi) / 2 + mi - 1 - (s + r) / 2]!) := row_get (by omega)
        have f2 : (rowP d m)[(s + r) / 2]? = some (poV d[(s + r) / 2]!) := row_get (by omega)
        refine AWP.regionO [0, 1, 2, 3, 4, 5, 6, 7, 8, 9, 10, 11, 12, 13] [] (by kernel_rfl) (by kernel_rfl) rfl ?_; simp only [go_sem, hset, List.set_set, List.length_set, w0, f1, f2, Int.toNat_natCast])
    | (
        refine AWP.here 38 175 4 rfl ?_
        obtain rfl : s = r := by omega
        have gs : Go.Stb.sCut ltP lo mi hi d = s := by rw [← g6, bs_end (by omega)]
        have w0 : IntKind.i64.wrap ((((lo + hi) / 2 + mi : Nat) : Int) - s) = (((lo + hi) / 2 + mi - s : Nat) : Int) := by rw [wrap64_id (by omega) (by omega)]; omega
        refine AWP.region ?_; simp only [go_sem, hset, List.set_set, List.length_set, w0])
    | (
        refine AWP.here 41 192 8 rfl ?_
        first
        | rw [show rowP (Go.Stb.rotL mi (mi - s) ((lo + hi) / 2 + mi - s - mi) d) m = rowP (Go.Stb.rotIf ltP lo mi hi d) m by rw [rotIf_yes gs (by omega) (by omega)]]
        | rw [show rowP d m = rowP (Go.Stb.rotIf ltP lo mi hi d) m by rw [rotIf_no gs (by omega)]]
        have z1 : (Go.Stb.rotIf ltP lo mi hi d).size = N := by rw [rotIf_size]; exact hN
        generalize he1 : Go.Stb.rotIf ltP lo mi hi d = e1 at z1 ⊢
        refine AWP.region ?_; simp only [go_sem, hset, List.set_set, List.length_set])
    | (
        refine AWP.here 43 206 8 rfl ?_
        first
        | rw [show rowP (Go.Stb.symM ltP lo s ((lo + hi) / 2) e1) m = rowP (if lo < s ∧ s < (lo + hi) / 2 then Go.Stb.symM ltP lo s ((lo + hi) / 2) e1 else e1) m by rw [if_pos (by omega)]]
        | rw [show rowP e1 m = rowP (if lo < s ∧ s < (lo + hi) / 2 then Go.Stb.symM ltP lo s ((lo + hi) / 2) e1 else e1) m by rw [if_neg (by omega)]]
        have z2 : (if lo < s ∧ s < (lo + hi) / 2 then Go.Stb.symM ltP lo s ((lo + hi) / 2) e1 else e1).size = N := by split <;> first | (rw [symM_size]; exact z1) | exact z1
        generalize he2 : (if lo < s ∧ s < (lo + hi) / 2 then Go.Stb.symM ltP lo s ((lo + hi) / 2) e1 else e1) = e2 at z2 ⊢
        refine AWP.region ?_; simp only [go_sem, hset, List.set_set, List.length_set])
    | (
        refine AWP.here 40 186 6 rfl ?_
        refine AWP.regionL ?_
        refine AWPL.at 6 5 rfl ?_
        simp only [go_sem, hset, List.set_set, List.length_set]
        refine rot_call (id := id) (m := m) (N := N) (d := d) (lo := s) (mi := mi) (hi := (lo + hi) / 2 + mi - s) (by rfl) (by rfl) (by rfl) (by rfl) (by rfl) (hset _) (by simp only [List.length_set, List.all_append, hbu, List.all_cons, List.all_nil, List.cons_append, List.nil_append, AV.bel, AV.bel2, AV.bel1, decide_eq_true hid, Bool.and_true, Bool.true_and, List.all_replicate]) (hob2 _) hl (by first | assumption | omega) (by omega) (by omega) (by omega) ?_
        simp only [go_sem, hset, List.set_set, List.length_set]
        refine AWPL.of ?_
        (try simp only [go_sem, hset, List.set_set, List.length_set]))
    | (
        refine AWP.here 42 200 6 rfl ?_
        refine AWP.regionL ?_
        refine AWPL.at 6 5 rfl ?_
        simp only [go_sem, hset, List.set_set, List.length_set]
        refine ih (id := id) (m := m) (N := N) (d := e1) (lo := lo) (mi := s) (hi := (lo + hi) / 2) (by rfl) (by rfl) (by rfl) (by rfl) (by rfl) (hset _) (by simp only [List.length_set, List.all_append, hbu, List.all_cons, List.all_nil, List.cons_append, List.nil_append, AV.bel, AV.bel2, AV.bel1, decide_eq_true hid, Bool.and_true, Bool.true_and, List.all_replicate]) (hob2 _) hl (by first | assumption | omega) (by omega) (by omega) (by omega) ?_ (by omega)
        simp only [go_sem, hset, List.set_set, List.length_set]
        refine AWPL.of ?_
        (try simp only [go_sem, hset, List.set_set, List.length_set]))
    | (
        refine AWP.here 44 214 6 rfl ?_
        refine AWP.regionL ?_
        refine AWPL.at 6 5 rfl ?_
        simp only [go_sem, hset, List.set_set, List.length_set]
        refine ih (id := id) (m := m) (N := N) (d := e2) (lo := (lo + hi) / 2) (mi := (lo + hi) / 2 + mi - s) (hi := hi) (by rfl) (by rfl) (by rfl) (by rfl) (by rfl) (hset _) (by simp only [List.length_set, List.all_append, hbu, List.all_cons, List.all_nil, List.cons_append, List.nil_append, AV.bel, AV.bel2, AV.bel1, decide_eq_true hid, Bool.and_true, Bool.true_and, List.all_replicate]) (hob2 _) hl (by first | assumption | omega) (by omega) (by omega) (by omega) ?_ (by omega)
        simp only [go_sem, hset, List.set_set, List.length_set]
        refine AWPL.of ?_
        (try simp only [go_sem, hset, List.set_set, List.length_set]))
    | (refine AWP.region ?_; simp only [go_sem, hset, List.set_set, List.length_set])
    | (refine AWP.here 5 40 11 rfl ?_; refine AWP.regionO [0, 1, 2, 3, 4, 5, 6, 7, 8, 9, 10] [] (by kernel_rfl) (by kernel_rfl) rfl ?_; simp only [go_sem, hset, List.set_set, List.length_set])
    | (refine AWP.here 11 61 18 rfl ?_; refine AWP.regionO [0, 1, 2, 3, 4, 5, 6, 7, 8, 9, 10, 11, 12, 13, 14, 15, 16, 17] [] (by kernel_rfl) (by kernel_rfl) rfl ?_; simp only [go_sem, hset, List.set_set, List.length_set])
    | (refine AWP.here 17 92 12 rfl ?_; refine AWP.regionO [0, 1, 2, 3, 4, 5, 6, 7, 8, 9, 10, 11] [] (by kernel_rfl) (by kernel_rfl) rfl ?_; simp only [go_sem, hset, List.set_set, List.length_set])
    | (refine AWP.here 23 113 18 rfl ?_; refine AWP.regionO [0, 1, 2, 3, 4, 5, 6, 7, 8, 9, 10, 11, 12, 13, 14, 15, 16, 17] [] (by kernel_rfl) (by kernel_rfl) rfl ?_; simp only [go_sem, hset, List.set_set, List.length_set])
    | (refine AWP.here 35 158 14 rfl ?_; refine AWP.regionO [0, 1, 2, 3, 4, 5, 6, 7, 8, 9, 10, 11, 12, 13] [] (by kernel_rfl) (by kernel_rfl) rfl ?_; simp only [go_sem, hset, List.set_set, List.length_set])
    | (refine hK _ ?_; clear hK K)
    | refine AWP.block ?_
    | refine AWP.cond rfl (fun c => ?_) (fun c => ?_) <;> first | exact Bool.noConfusion c | (try simp only [dD] at c)
    | refine AWP.skip ?_
    | (refine AWP.exit ?_; simp only [go_sem, hset, List.set_set, List.length_set])
    | (refine ACall.one (rot_call ) (by kernel_rfl) rfl ?_; simp only [go_sem, hset, List.set_set, List.length_set])
    | (refine ACall.one (byn_c _ _) (by kernel_rfl) rfl ?_; simp only [go_sem, hset, List.set_set, List.length_set])
    | (refine AGuard.splitN (fun h => ?_) (fun h => ?_) <;> simp only [h, go_sem, hset, List.set_set, List.length_set] <;> (try simp only [dD] at h))
    | (refine AGuard.split (fun h => ?_) (fun h => ?_) <;> simp only [h, go_sem, hset, List.set_set, List.length_set] <;> (try simp only [dD] at h))
    | (refine AGet.haveM (by assumption) ?_; (try simp only [go_sem, hset, List.set_set, List.length_set]))
    | (refine AGet.have' (by assumption) ?_; (try simp only [go_sem, hset, List.set_set, List.length_set]))
    | ((first | refine AGet.nth ?_ (fun b hb => ?_) | refine AGet.nth1 ?_ (fun b hb => ?_) | with_reducible refine And.intro ?_ ?_); (focus (first | omega | assumption | exact List.length_pos_iff.2 (by assumption) | (simp only [List.length_append, List.length_cons, List.length_nil, List.length_map, List.length_take, List.length_drop] at *; omega) | (rw [wrap64_id (by omega) (by omega)]; omega) | (simp; done) | (simp [spare_len]; done) | (exact ⟨by omega, by omega⟩))); (try simp only [hb, go_sem, hset, List.set_set, List.length_set]))
    | (
        refine AWP.here 3 31 3 rfl ?_
        refine AWP.loopN (ι := Nat × Nat) [12, 31, 32, 33, 34, 35, 36, 37, 38, 39, 40, 41, 42, 43, 44, 45, 46, 47, 48, 49, 50, 51, 52, 53] (fun ⟨i, j⟩ => [(10, i64 i), (11, i64 j)]) (fun ⟨i, j⟩ => mi ≤ i ∧ i ≤ j ∧ j ≤ hi ∧ Go.Stb.bsG (fun x => ltP d[x]! d[lo]!) i j = Go.Stb.bsG (fun x => ltP d[x]! d[lo]!) mi hi) (fun ⟨i, j⟩ => j - i) ((mi, hi)) ?_ ?_ ?_
        · (try simp only [go_sem]); (try simp only [List.set_set, List.length_set]); (repeat' (first | assumption | exact OwnBel.wk (hob _) | exact wkK_self | exact .inr ⟨rfl, decide_eq_true hid⟩ | exact .inr (decide_eq_true hid) | refine And.intro ?_ ?_ | exact .inl rfl | exact .inr rfl | exact .inr ⟨rfl, rfl⟩ | trivial | exact .inr (oblA rfl) | exact .inr ⟨rfl, oblA rfl⟩ | exact .inr bel_strs | exact .inr ⟨rfl, bel_strs⟩ | exact .inr ⟨by simp, bel_strs⟩ | (simp; done) | exact .inr ⟨rfl, by simp⟩ | exact .inr ⟨by simp, by simp⟩)); done
        · exact ⟨by omega, by omega, by omega, rfl⟩
        rintro ⟨i, j⟩ ⟨g1, g2, g3, g4⟩
        simp only [go_sem, hset, List.set_set, List.length_set])
    | (
        refine AWP.here 9 55 4 rfl ?_
        refine AWP.loopM (ι := Nat × Array Po) [55, 56, 57, 58, 59, 60, 61, 62, 63, 64, 65, 66, 67, 68, 69, 70, 71, 72, 73, 74, 75, 76] (fun ⟨k, e⟩ => [(13, i64 k)]) (fun ⟨k, e⟩ => ow.set id (some (rowP e m))) (fun ⟨k, e⟩ => tk) (fun ⟨k, e⟩ => lo ≤ k ∧ e.size = N ∧ Go.Stb.upS k i e = Go.Stb.upS lo i d) (fun ⟨k, e⟩ => i - k) ((lo, d)) ?_ ?_ ?_
        · (try simp only [go_sem]); (try simp only [List.set_set, List.length_set]); (repeat' (first | assumption | exact OwnBel.wk (hob _) | exact wkK_self | exact .inr ⟨rfl, decide_eq_true hid⟩ | exact .inr (decide_eq_true hid) | refine And.intro ?_ ?_ | exact .inl rfl | exact .inr rfl | exact .inr ⟨rfl, rfl⟩ | trivial | exact .inr (oblA rfl) | exact .inr ⟨rfl, oblA rfl⟩ | exact .inr bel_strs | exact .inr ⟨rfl, bel_strs⟩ | exact .inr ⟨by simp, bel_strs⟩ | (simp; done) | exact .inr ⟨rfl, by simp⟩ | exact .inr ⟨by simp, by simp⟩)); done
        · exact ⟨by omega, hN, rfl⟩
        rintro ⟨k, e⟩ ⟨k1, k2, k3⟩
        simp only [go_sem, hset, List.set_set, List.length_set])
    | (
        refine AWP.here 15 83 3 rfl ?_
        refine AWP.loopN (ι := Nat × Nat) [16, 83, 84, 85, 86, 87, 88, 89, 90, 91, 92, 93, 94, 95, 96, 97, 98, 99, 100, 101, 102, 103, 104, 105, 106] (fun ⟨i, j⟩ => [(14, i64 i), (15, i64 j)]) (fun ⟨i, j⟩ => lo ≤ i ∧ i ≤ j ∧ j ≤ mi ∧ Go.Stb.bsG (fun x => !ltP d[mi]! d[x]!) i j = Go.Stb.bsG (fun x => !ltP d[mi]! d[x]!) lo mi) (fun ⟨i, j⟩ => j - i) ((lo, mi)) ?_ ?_ ?_
        · (try simp only [go_sem]); (try simp only [List.set_set, List.length_set]); (repeat' (first | assumption | exact OwnBel.wk (hob _) | exact wkK_self | exact .inr ⟨rfl, decide_eq_true hid⟩ | exact .inr (decide_eq_true hid) | refine And.intro ?_ ?_ | exact .inl rfl | exact .inr rfl | exact .inr ⟨rfl, rfl⟩ | trivial | exact .inr (oblA rfl) | exact .inr ⟨rfl, oblA rfl⟩ | exact .inr bel_strs | exact .inr ⟨rfl, bel_strs⟩ | exact .inr ⟨by simp, bel_strs⟩ | (simp; done) | exact .inr ⟨rfl, by simp⟩ | exact .inr ⟨by simp, by simp⟩)); done
        · exact ⟨by omega, by omega, by omega, rfl⟩
        rintro ⟨i, j⟩ ⟨g1, g2, g3, g4⟩
        simp only [go_sem, hset, List.set_set, List.length_set])
    | (
        refine AWP.here 21 108 3 rfl ?_
        refine AWP.loopM (ι := Nat × Array Po) [108, 109, 110, 111, 112, 113, 114, 115, 116, 117, 118, 119, 120, 121, 122, 123, 124, 125, 126, 127, 128] (fun ⟨k, e⟩ => [(17, i64 k)]) (fun ⟨k, e⟩ => ow.set id (some (rowP e m))) (fun ⟨k, e⟩ => tk) (fun ⟨k, e⟩ => k ≤ mi ∧ e.size = N ∧ Go.Stb.dnS i k e = Go.Stb.dnS i mi d) (fun ⟨k, e⟩ => k) ((mi, d)) ?_ ?_ ?_
        · (try simp only [go_sem]); (try simp only [List.set_set, List.length_set]); (repeat' (first | assumption | exact OwnBel.wk (hob _) | exact wkK_self | exact .inr ⟨rfl, decide_eq_true hid⟩ | exact .inr (decide_eq_true hid) | refine And.intro ?_ ?_ | exact .inl rfl | exact .inr rfl | exact .inr ⟨rfl, rfl⟩ | trivial | exact .inr (oblA rfl) | exact .inr ⟨rfl, oblA rfl⟩ | exact .inr bel_strs | exact .inr ⟨rfl, bel_strs⟩ | exact .inr ⟨by simp, bel_strs⟩ | (simp; done) | exact .inr ⟨rfl, by simp⟩ | exact .inr ⟨by simp, by simp⟩)); done
        · exact ⟨by omega, hN, rfl⟩
        rintro ⟨k, e⟩ ⟨k1, k2, k3⟩
        simp only [go_sem, hset, List.set_set, List.length_set])
    | (
        refine AWP.here 33 149 3 rfl ?_
        refine AWP.loopN (ι := Nat × Nat) [23, 149, 150, 151, 152, 153, 154, 155, 156, 157, 158, 159, 160, 161, 162, 163, 164, 165, 166, 167, 168, 169, 170, 171, 172, 173, 174] (fun ⟨s, r⟩ => [(20, i64 s), (21, i64 r)]) (fun ⟨s, r⟩ => lo ≤ s ∧ (lo + hi) / 2 + mi ≤ hi + s ∧ s ≤ r ∧ r ≤ (lo + hi) / 2 ∧ r ≤ mi ∧ Go.Stb.bsG (fun x => !ltP d[(lo + hi) / 2 + mi - 1 - x]! d[x]!) s r = Go.Stb.sCut ltP lo mi hi d) (fun ⟨s, r⟩ => r - s) ((if (lo + hi) / 2 < mi then (lo + hi) / 2 + mi - hi else lo, if (lo + hi) / 2 < mi then (lo + hi) / 2 else mi)) ?_ ?_ ?_
        · (try simp only [go_sem]); (first | rw [if_pos (by omega), if_pos (by omega)] | rw [if_neg (by omega), if_neg (by omega)]); (try simp only [List.set_set, List.length_set]); (repeat' (first | assumption | exact OwnBel.wk (hob _) | exact wkK_self | exact .inr ⟨rfl, decide_eq_true hid⟩ | exact .inr (decide_eq_true hid) | refine And.intro ?_ ?_ | exact .inl rfl | exact .inr rfl | exact .inr ⟨rfl, rfl⟩ | trivial | exact .inr (oblA rfl) | exact .inr ⟨rfl, oblA rfl⟩ | exact .inr bel_strs | exact .inr ⟨rfl, bel_strs⟩ | exact .inr ⟨by simp, bel_strs⟩ | (simp; done) | exact .inr ⟨rfl, by simp⟩ | exact .inr ⟨by simp, by simp⟩)); done
        · first | (rw [if_pos (by omega), if_pos (by omega)]; exact ⟨by omega, by omega, by omega, by omega, by omega, by unfold Go.Stb.sCut; rw [if_pos (by omega), if_pos (by omega)]⟩) | (rw [if_neg (by omega), if_neg (by omega)]; exact ⟨by omega, by omega, by omega, by omega, by omega, by unfold Go.Stb.sCut; rw [if_neg (by omega), if_neg (by omega)]⟩)
        rintro ⟨s, r⟩ ⟨g1, g2, g3, g4, g5, g6⟩
        simp only [go_sem, hset, List.set_set, List.length_set])
    | (
        first
        | (refine ⟨((i + j) / 2 + 1, j), ?_, ⟨by show mi ≤ (i + j) / 2 + 1; omega, by show (i + j) / 2 + 1 ≤ j; omega, g3, by rw [← g4]; exact (bs_lt (by omega) (lt_t (by assumption))).symm⟩, by show j - ((i + j) / 2 + 1) < j - i; omega⟩
           (try simp only [go_sem]); (try rw [wrap64_id (by omega) (by omega)]); (try simp only [List.set_set, List.length_set]); (repeat' (first | assumption | exact OwnBel.wk (hob _) | exact wkK_self | exact .inr ⟨rfl, decide_eq_true hid⟩ | exact .inr (decide_eq_true hid) | refine And.intro ?_ ?_ | exact .inl rfl | exact .inr rfl | exact .inr ⟨rfl, rfl⟩ | trivial | exact .inr (oblA rfl) | exact .inr ⟨rfl, oblA rfl⟩ | exact .inr bel_strs | exact .inr ⟨rfl, bel_strs⟩ | exact .inr ⟨by simp, bel_strs⟩ | (simp; done) | exact .inr ⟨rfl, by simp⟩ | exact .inr ⟨by simp, by simp⟩)); done)
        | (refine ⟨(i, (i + j) / 2), ?_, ⟨g1, by show i ≤ (i + j) / 2; omega, by show (i + j) / 2 ≤ hi; omega, by rw [← g4]; exact (bs_ge (by omega) (lt_f (by assumption))).symm⟩, by show (i + j) / 2 - i < j - i; omega⟩
           (try simp only [go_sem]); (try simp only [List.set_set, List.length_set]); (repeat' (first | assumption | exact OwnBel.wk (hob _) | exact wkK_self | exact .inr ⟨rfl, decide_eq_true hid⟩ | exact .inr (decide_eq_true hid) | refine And.intro ?_ ?_ | exact .inl rfl | exact .inr rfl | exact .inr ⟨rfl, rfl⟩ | trivial | exact .inr (oblA rfl) | exact .inr ⟨rfl, oblA rfl⟩ | exact .inr bel_strs | exact .inr ⟨rfl, bel_strs⟩ | exact .inr ⟨by simp, bel_strs⟩ | (simp; done) | exact .inr ⟨rfl, by simp⟩ | exact .inr ⟨by simp, by simp⟩)); done))
    | (
        refine ⟨(k + 1, Go.Sort.swp e k (k + 1)), ?_, ?_, ?_⟩
        · (try simp only [go_sem]); (try rw [wrap64_id (by omega) (by omega)]); (try simp only [List.set_set, List.length_set]); (repeat' (first | assumption | exact OwnBel.wk (hob _) | exact wkK_self | exact .inr ⟨rfl, decide_eq_true hid⟩ | exact .inr (decide_eq_true hid) | refine And.intro ?_ ?_ | exact .inl rfl | exact .inr rfl | exact .inr ⟨rfl, rfl⟩ | trivial | exact .inr (oblA rfl) | exact .inr ⟨rfl, oblA rfl⟩ | exact .inr bel_strs | exact .inr ⟨rfl, bel_strs⟩ | exact .inr ⟨by simp, bel_strs⟩ | (simp; done) | exact .inr ⟨rfl, by simp⟩ | exact .inr ⟨by simp, by simp⟩)); done
        · (try dsimp only); exact ⟨by omega, by rw [Go.Sort.swp_size]; exact k2, (upS_step (by omega)).symm.trans k3⟩
        · (try simp only []); omega)
    | (
        first
        | (refine ⟨((i + j) / 2 + 1, j), ?_, ⟨by show lo ≤ (i + j) / 2 + 1; omega, by show (i + j) / 2 + 1 ≤ j; omega, g3, by rw [← g4]; exact (bs_lt (by omega) (nlt_t (by assumption))).symm⟩, by show j - ((i + j) / 2 + 1) < j - i; omega⟩
           (try simp only [go_sem]); (try rw [wrap64_id (by omega) (by omega)]); (try simp only [List.set_set, List.length_set]); (repeat' (first | assumption | exact OwnBel.wk (hob _) | exact wkK_self | exact .inr ⟨rfl, decide_eq_true hid⟩ | exact .inr (decide_eq_true hid) | refine And.intro ?_ ?_ | exact .inl rfl | exact .inr rfl | exact .inr ⟨rfl, rfl⟩ | trivial | exact .inr (oblA rfl) | exact .inr ⟨rfl, oblA rfl⟩ | exact .inr bel_strs | exact .inr ⟨rfl, bel_strs⟩ | exact .inr ⟨by simp, bel_strs⟩ | (simp; done) | exact .inr ⟨rfl, by simp⟩ | exact .inr ⟨by simp, by simp⟩)); done)
        | (refine ⟨(i, (i + j) / 2), ?_, ⟨g1, by show i ≤ (i + j) / 2; omega, by show (i + j) / 2 ≤ mi; omega, by rw [← g4]; exact (bs_ge (by omega) (nlt_f (by assumption))).symm⟩, by show (i + j) / 2 - i < j - i; omega⟩
           (try simp only [go_sem]); (try simp only [List.set_set, List.length_set]); (repeat' (first | assumption | exact OwnBel.wk (hob _) | exact wkK_self | exact .inr ⟨rfl, decide_eq_true hid⟩ | exact .inr (decide_eq_true hid) | refine And.intro ?_ ?_ | exact .inl rfl | exact .inr rfl | exact .inr ⟨rfl, rfl⟩ | trivial | exact .inr (oblA rfl) | exact .inr ⟨rfl, oblA rfl⟩ | exact .inr bel_strs | exact .inr ⟨rfl, bel_strs⟩ | exact .inr ⟨by simp, bel_strs⟩ | (simp; done) | exact .inr ⟨rfl, by simp⟩ | exact .inr ⟨by simp, by simp⟩)); done))
    | (
        refine ⟨(k - 1, Go.Sort.swp e k (k - 1)), ?_, ?_, ?_⟩
        · (try simp only [go_sem]); (try rw [wrap64_id (by omega) (by omega)]); (try simp only [List.set_set, List.length_set]); (repeat' (first | assumption | exact OwnBel.wk (hob _) | exact wkK_self | exact .inr ⟨rfl, decide_eq_true hid⟩ | exact .inr (decide_eq_true hid) | refine And.intro ?_ ?_ | exact .inl rfl | exact .inr rfl | exact .inr ⟨rfl, rfl⟩ | trivial | exact .inr (oblA rfl) | exact .inr ⟨rfl, oblA rfl⟩ | exact .inr bel_strs | exact .inr ⟨rfl, bel_strs⟩ | exact .inr ⟨by simp, bel_strs⟩ | (simp; done) | exact .inr ⟨rfl, by simp⟩ | exact .inr ⟨by simp, by simp⟩)); done
        · (try dsimp only); exact ⟨by omega, by rw [Go.Sort.swp_size]; exact k2, (dnS_step (by omega)).symm.trans k3⟩
        · (try simp only []); omega)
    | (
        first
        | (refine ⟨((s + r) / 2 + 1, r), ?_, ⟨by show lo ≤ (s + r) / 2 + 1; omega, by show (lo + hi) / 2 + mi ≤ hi + ((s + r) / 2 + 1); omega, by show (s + r) / 2 + 1 ≤ r; omega, g4, g5, by rw [← g6]; exact (bs_lt (by omega) (nlt_t (by assumption))).symm⟩, by show r - ((s + r) / 2 + 1) < r - s; omega⟩
           (try simp only [go_sem]); (try rw [wrap64_id (by omega) (by omega)]); (try simp only [List.set_set, List.length_set]); (repeat' (first | assumption | exact OwnBel.wk (hob _) | exact wkK_self | exact .inr ⟨rfl, decide_eq_true hid⟩ | exact .inr (decide_eq_true hid) | refine And.intro ?_ ?_ | exact .inl rfl | exact .inr rfl | exact .inr ⟨rfl, rfl⟩ | trivial | exact .inr (oblA rfl) | exact .inr ⟨rfl, oblA rfl⟩ | exact .inr bel_strs | exact .inr ⟨rfl, bel_strs⟩ | exact .inr ⟨by simp, bel_strs⟩ | (simp; done) | exact .inr ⟨rfl, by simp⟩ | exact .inr ⟨by simp, by simp⟩)); done)
        | (refine ⟨(s, (s + r) / 2), ?_, ⟨g1, g2, by show s ≤ (s + r) / 2; omega, by show (s + r) / 2 ≤ (lo + hi) / 2; omega, by show (s + r) / 2 ≤ mi; omega, by rw [← g6]; exact (bs_ge (by omega) (nlt_f (by assumption))).symm⟩, by show (s + r) / 2 - s < r - s; omega⟩
           (try simp only [go_sem]); (try simp only [List.set_set, List.length_set]); (repeat' (first | assumption | exact OwnBel.wk (hob _) | exact wkK_self | exact .inr ⟨rfl, decide_eq_true hid⟩ | exact .inr (decide_eq_true hid) | refine And.intro ?_ ?_ | exact .inl rfl | exact .inr rfl | exact .inr ⟨rfl, rfl⟩ | trivial | exact .inr (oblA rfl) | exact .inr ⟨rfl, oblA rfl⟩ | exact .inr bel_strs | exact .inr ⟨rfl, bel_strs⟩ | exact .inr ⟨by simp, bel_strs⟩ | (simp; done) | exact .inr ⟨rfl, by simp⟩ | exact .inr ⟨by simp, by simp⟩)); done))
    | (
        refine AWP.ret ?_
        (try simp only [inb_ret, athen_ret])
        (try simp only [List.set_set])
        first
        | exact hBr _ _ (by rw [sym_1 (by omega), gi, ← k3, upS_end (by omega)])
        | exact hBr _ _ (by rw [sym_2 (by omega) (by omega), gi, ← k3, dnS_end (by omega)]))
    | (exfalso; omega)
    | (refine hBn _ _ ?_; rw [sym_3 (by omega) (by omega) gs he1 he2]; rw [if_pos (by omega)]; done)
    | (refine hBn _ _ ?_; rw [sym_3 (by omega) (by omega) gs he1 he2]; rw [if_neg (by omega)]; done)
    | refine AWP.fin (by assumption) ?_
    | fail)


end Go.Proofs.YtajeeghgiilhiaaGreat
end
section
set_option linter.unusedVariables false
set_option linter.unusedSimpArgs false
namespace Go.Proofs.YtajeeghgiilhiaaGreat
open Go Go.Abs Go.RowKit Go.Bk

set_option maxRecDepth 100000 in
set_option maxHeartbeats 16000000 in
theorem stb_call {ops : Array Oper} {l0 : List Oper} {Q : Exit → St → Prop} {tmps up : List AV} {gl : Nat → Option (List AV)} {own : List (Option (List AV))} {tk : List Nat} {dst : Option Tmp} {x0 x1 x2 : Operand} {tys : Array TypeId} {ty : TypeId} {pos : String} {after : Array Edge} {id m N : Nat} {d : Array Po} 
    (hx0 : St.ev ⟨tmps, own, tk, gl, none, up⟩ x0 = .mu id 5 0 N (N + m))
    (hx1 : St.ev ⟨tmps, own, tk, gl, none, up⟩ x1 = i64 (N : Int))
    (hx2 : St.ev ⟨tmps, own, tk, gl, none, up⟩ x2 = .fn 104 [])
    (ho : own[id]? = some (some (rowP d m)))
    (hbu : (tmps ++ up).all (AV.bel own.length tk.length) = true)
    (hbo : OwnBel own own.length tk.length)
    (hl : N ≤ 1000000)
    (hN : d.size = N)
    (hend : AWPL E ops l0 Q (St.put ⟨tmps, own.set id (some (rowP (Go.Stb.stable ltP d) m)), tk, gl, none, up⟩ dst (.tup []))) : AWPL E ops (⟨dst, .call ⟨.value (.func 185), #[x0, x1, x2], tys⟩, ty, pos, after, none⟩ :: l0) Q ⟨tmps, own, tk, gl, none, up⟩ := by
  have hid := lt_of_get ho
  obtain ⟨ow, how⟩ : ∃ ow : List (Option (List AV)), own = ow.set id (some (rowP d m)) := ⟨own, (set_same ho).symm⟩
  subst how
  rw [List.length_set] at hid
  have hob : ∀ d' : Array Po, OwnBel (ow.set id (some (rowP d' m))) ow.length tk.length := fun d' => by
    have := hbo.set (id := id) (bel_rowP d' m); rwa [List.set_set, List.length_set] at this
  have hob2 : ∀ d' : Array Po, OwnBel (ow.set id (some (rowP d' m))) (ow.set id (some (rowP d' m))).length tk.length := fun d' => by rw [List.length_set]; exact hob d'
  rw [List.length_set] at hbu
  simp only [List.set_set] at hend
  refine AWPL.call (caps := []) (rs := []) Tryz.func185 rfl Tryz.ntmps185 rfl (by kernel_rfl) rfl rfl ?_
  show AWP E _ _ ⟨([St.ev _ x0, St.ev _ x1, St.ev _ x2] ++ []) ++ List.replicate (63 - 3) (.v undef), _, tk, gl, none, tmps ++ up⟩
  rw [hx0, hx1, hx2]
  have hBn : ∀ (tm : List AV) (d' : Array Po), d' = Go.Stb.stable ltP d → AInPost E.P [] ⟨tmps, ow.set id (some (rowP d m)), tk, gl, none, up⟩ (fun s z => AWPL E ops l0 Q (s.put dst z)) .normal ⟨tm, ow.set id (some (rowP d' m)), tk, gl, none, tmps ++ up⟩ := fun tm d' e => by subst e; exact ⟨rfl, hend⟩
  have hBr : ∀ (tm : List AV) (d' : Array Po), d' = Go.Stb.stable ltP d → AInPost E.P [] ⟨tmps, ow.set id (some (rowP d m)), tk, gl, none, up⟩ (fun s z => AWPL E ops l0 Q (s.put dst z)) .ret ⟨tm, ow.set id (some (rowP d' m)), tk, gl, none, tmps ++ up⟩ := fun tm d' e => by subst e; exact ⟨rfl, hend⟩
  generalize AInPost E.P [] ⟨tmps, ow.set id (some (rowP d m)), tk, gl, none, up⟩ (fun s z => AWPL E ops l0 Q (s.put dst z)) = Q1 at hBn hBr ⊢
  generalize tmps ++ up = up' at hbu hBn hBr ⊢
  clear hend ho hbo hx0 hx1 hx2
  have hset : ∀ x, (ow.set id x)[id]? = some x := fun x => List.getElem?_set_self hid
  repeat' (first
    | refine AWP.seqk fun K hK => ?_
    | (
        refine AWP.here 5 20 4 rfl ?_
        have w0 : IntKind.i64.wrap (((x + 20 : Nat) : Int) + 20) = ((x + 20 + 20 : Nat) : Int) := by rw [wrap64_id (by omega) (by omega)]; omega
        refine AWP.region ?_; simp only [go_sem, hset, List.set_set, List.length_set, w0])
    | (
        refine AWP.here 8 31 4 rfl ?_
        have w0 : IntKind.i64.wrap ((2 : Int) * s) = ((2 * s : Nat) : Int) := by rw [wrap64_id (by omega) (by omega)]; omega
        refine AWP.region ?_; simp only [go_sem, hset, List.set_set, List.length_set, w0])
    | (
        refine AWP.here 12 45 5 rfl ?_
        have w0 : IntKind.i64.wrap ((2 : Int) * s) = ((2 * s : Nat) : Int) := by rw [wrap64_id (by omega) (by omega)]; omega
        have w1 : IntKind.i64.wrap (((x + 2 * s : Nat) : Int) + ((2 * s : Nat) : Int)) = ((x + 2 * s + 2 * s : Nat) : Int) := by rw [wrap64_id (by omega) (by omega)]; omega
        refine AWP.region ?_; simp only [go_sem, hset, List.set_set, List.length_set, w0, w1])
    | (
        refine AWP.here 13 49 4 rfl ?_
        have w0 : IntKind.i64.wrap ((x : Int) + s) = ((x + s : Nat) : Int) := by rw [wrap64_id (by omega) (by omega)]; omega
        refine AWP.region ?_; simp only [go_sem, hset, List.set_set, List.length_set, w0])
    | (
        refine AWP.here 16 61 3 rfl ?_
        first
        | rw [show rowP (Go.Stb.symM ltP x (x + s) N e2) m = rowP (Go.Stb.mrgP ltP N s 0 (2 * s) e) m by rw [← k3, mrgP_end1 (by omega) (by omega) (by omega)]]
        | rw [show rowP e2 m = rowP (Go.Stb.mrgP ltP N s 0 (2 * s) e) m by rw [← k3, mrgP_end2 (by omega) (by omega) (by omega)]]
        have z3 : (Go.Stb.mrgP ltP N s 0 (2 * s) e).size = N := by
          rw [← k3]
          rcases Nat.lt_or_ge (x + s) N with q | q
          · rw [mrgP_end1 (by omega) (by omega) (by omega), symM_size]; exact k2
          · rw [mrgP_end2 (by omega) (by omega) (by omega)]; exact k2
        have w0 : IntKind.i64.wrap ((s : Int) * 2) = ((s * 2 : Nat) : Int) := by rw [wrap64_id (by omega) (by omega)]; omega
        refine AWP.region ?_; simp only [go_sem, hset, List.set_set, List.length_set, w0])
    | (
        refine AWP.here 3 14 5 rfl ?_
        refine AWP.regionL ?_
        refine AWPL.at 5 4 rfl ?_
        simp only [go_sem, hset, List.set_set, List.length_set]
        (repeat (refine ⟨⟨_, rfl⟩, ?_⟩))
        refine isr_call (id := id) (m := m) (N := N) (d := e) (lo := x) (hi := x + 20) (by rfl) (by rfl) (by rfl) (by rfl) (hset _) (by simp only [List.length_set, List.all_append, hbu, List.all_cons, List.all_nil, List.cons_append, List.nil_append, AV.bel, AV.bel2, AV.bel1, decide_eq_true hid, Bool.and_true, Bool.true_and, List.all_replicate]) (hob2 _) hl (by first | assumption | omega) (by omega) (by omega) ?_
        simp only [go_sem, hset, List.set_set, List.length_set]
        refine AWPL.of ?_
        (try simp only [go_sem, hset, List.set_set, List.length_set]))
    | (
        refine AWP.here 6 23 5 rfl ?_
        refine AWP.regionL ?_
        refine AWPL.at 5 4 rfl ?_
        simp only [go_sem, hset, List.set_set, List.length_set]
        (repeat (refine ⟨⟨_, rfl⟩, ?_⟩))
        refine isr_call (id := id) (m := m) (N := N) (d := e) (lo := x) (hi := N) (by rfl) (by rfl) (by rfl) (by rfl) (hset _) (by simp only [List.length_set, List.all_append, hbu, List.all_cons, List.all_nil, List.cons_append, List.nil_append, AV.bel, AV.bel2, AV.bel1, decide_eq_true hid, Bool.and_true, Bool.true_and, List.all_replicate]) (hob2 _) hl (by first | assumption | omega) (by omega) (by omega) ?_
        simp only [go_sem, hset, List.set_set, List.length_set]
        refine AWPL.of ?_
        (try simp only [go_sem, hset, List.set_set, List.length_set])
        rw [show Go.Sort.insertionSort ltP e x N = Go.Stb.insB ltP N 0 20 d by rw [← g3, insB_stop (by omega)]]
        have z1 : (Go.Stb.insB ltP N 0 20 d).size = N := by rw [← g3, insB_stop (by omega), isort_size (by omega) (by omega)]; exact g2
        generalize he1 : Go.Stb.insB ltP N 0 20 d = e1 at z1 ⊢)
    | (
        refine AWP.here 10 36 8 rfl ?_
        have w0 : IntKind.i64.wrap ((x : Int) + s) = ((x + s : Nat) : Int) := by rw [wrap64_id (by omega) (by omega)]; omega
        refine AWP.regionL ?_
        refine AWPL.at 8 7 rfl ?_
        simp only [go_sem, hset, List.set_set, List.length_set, w0]
        (repeat (refine ⟨⟨_, rfl⟩, ?_⟩))
        refine sym_call _ (id := id) (m := m) (N := N) (d := e2) (lo := x) (mi := x + s) (hi := x + 2 * s) (by rfl) (by rfl) (by rfl) (by rfl) (by rfl) (hset _) (by simp only [List.length_set, List.all_append, hbu, List.all_cons, List.all_nil, List.cons_append, List.nil_append, AV.bel, AV.bel2, AV.bel1, decide_eq_true hid, Bool.and_true, Bool.true_and, List.all_replicate]) (hob2 _) hl (by first | assumption | omega) (by omega) (by omega) (by omega) ?_ (Nat.le_refl _)
        simp only [go_sem, hset, List.set_set, List.length_set, w0]
        refine AWPL.of ?_
        (try simp only [go_sem, hset, List.set_set, List.length_set, w0]))
    | (
        refine AWP.here 15 55 6 rfl ?_
        refine AWP.regionL ?_
        refine AWPL.at 6 5 rfl ?_
        simp only [go_sem, hset, List.set_set, List.length_set]
        (repeat (refine ⟨⟨_, rfl⟩, ?_⟩))
        refine sym_call _ (id := id) (m := m) (N := N) (d := e2) (lo := x) (mi := x + s) (hi := N) (by rfl) (by rfl) (by rfl) (by rfl) (by rfl) (hset _) (by simp only [List.length_set, List.all_append, hbu, List.all_cons, List.all_nil, List.cons_append, List.nil_append, AV.bel, AV.bel2, AV.bel1, decide_eq_true hid, Bool.and_true, Bool.true_and, List.all_replicate]) (hob2 _) hl (by first | assumption | omega) (by omega) (by omega) (by omega) ?_ (Nat.le_refl _)
        simp only [go_sem, hset, List.set_set, List.length_set]
        refine AWPL.of ?_
        (try simp only [go_sem, hset, List.set_set, List.length_set]))
    | (refine AWP.region ?_; simp only [go_sem, hset, List.set_set, List.length_set])
    | (refine hK _ ?_; clear hK K)
    | refine AWP.block ?_
    | refine AWP.cond rfl (fun c => ?_) (fun c => ?_) <;> first | exact Bool.noConfusion c | (try simp only [dD] at c)
    | refine AWP.skip ?_
    | (refine AWP.exit ?_; simp only [go_sem, hset, List.set_set, List.length_set])
    | (refine ACall.one (isr_call ) (by kernel_rfl) rfl ?_; simp only [go_sem, hset, List.set_set, List.length_set])
    | (refine ACall.one (sym_call ) (by kernel_rfl) rfl ?_; simp only [go_sem, hset, List.set_set, List.length_set])
    | (refine AGet.haveM (by assumption) ?_; (try simp only [go_sem, hset, List.set_set, List.length_set]))
    | (refine AGet.have' (by assumption) ?_; (try simp only [go_sem, hset, List.set_set, List.length_set]))
    | ((first | refine AGet.nth ?_ (fun b hb => ?_) | refine AGet.nth1 ?_ (fun b hb => ?_) | with_reducible refine And.intro ?_ ?_); (focus (first | omega | assumption | exact List.length_pos_iff.2 (by assumption) | (simp only [List.length_append, List.length_cons, List.length_nil, List.length_map, List.length_take, List.length_drop] at *; omega) | (rw [wrap64_id (by omega) (by omega)]; omega) | (simp; done) | (simp [spare_len]; done) | (exact ⟨by omega, by omega⟩))); (try simp only [hb, go_sem, hset, List.set_set, List.length_set]))
    | (
        refine AWP.here 2 11 3 rfl ?_
        refine AWP.loopM (ι := Nat × Array Po) [11, 12, 13, 14, 15, 16, 17, 18, 19, 20, 21, 22] (fun ⟨x, e⟩ => [(7, i64 x), (8, i64 ((x + 20 : Nat) : Int))]) (fun ⟨x, e⟩ => ow.set id (some (rowP e m))) (fun ⟨x, e⟩ => tk) (fun ⟨x, e⟩ => x ≤ N ∧ e.size = N ∧ Go.Stb.insB ltP N x (x + 20) e = Go.Stb.insB ltP N 0 20 d) (fun ⟨x, e⟩ => N - x) ((0, d)) ?_ ?_ ?_
        · (try simp only [go_sem]); (try simp only [List.set_set, List.length_set]); (repeat' (first | assumption | exact OwnBel.wk (hob _) | exact wkK_self | exact .inr ⟨rfl, decide_eq_true hid⟩ | exact .inr (decide_eq_true hid) | refine And.intro ?_ ?_ | exact .inl rfl | exact .inr rfl | exact .inr ⟨rfl, rfl⟩ | trivial | exact .inr (oblA rfl) | exact .inr ⟨rfl, oblA rfl⟩ | exact .inr bel_strs | exact .inr ⟨rfl, bel_strs⟩ | exact .inr ⟨by simp, bel_strs⟩ | (simp; done) | exact .inr ⟨rfl, by simp⟩ | exact .inr ⟨by simp, by simp⟩)); done
        · exact ⟨by omega, hN, rfl⟩
        rintro ⟨x, e⟩ ⟨g1, g2, g3⟩
        simp only [go_sem, hset, List.set_set, List.length_set])
    | (
        refine AWP.here 7 28 3 rfl ?_
        refine AWP.loopM (ι := Nat × Array Po) [7, 8, 9, 28, 29, 30, 31, 32, 33, 34, 35, 36, 37, 38, 39, 40, 41, 42, 43, 44, 45, 46, 47, 48, 49, 50, 51, 52, 53, 54, 55, 56, 57, 58, 59, 60, 61, 62] (fun ⟨s, e⟩ => [(6, i64 s)]) (fun ⟨s, e⟩ => ow.set id (some (rowP e m))) (fun ⟨s, e⟩ => tk) (fun ⟨s, e⟩ => 0 < s ∧ s ≤ 2 * N + 20 ∧ e.size = N ∧ Go.Stb.mrgL ltP N s e = Go.Stb.mrgL ltP N 20 e1) (fun ⟨s, e⟩ => N - s) ((20, e1)) ?_ ?_ ?_
        · (try simp only [go_sem]); (try simp only [List.set_set, List.length_set]); (repeat' (first | assumption | exact OwnBel.wk (hob _) | exact wkK_self | exact .inr ⟨rfl, decide_eq_true hid⟩ | exact .inr (decide_eq_true hid) | refine And.intro ?_ ?_ | exact .inl rfl | exact .inr rfl | exact .inr ⟨rfl, rfl⟩ | trivial | exact .inr (oblA rfl) | exact .inr ⟨rfl, oblA rfl⟩ | exact .inr bel_strs | exact .inr ⟨rfl, bel_strs⟩ | exact .inr ⟨by simp, bel_strs⟩ | (simp; done) | exact .inr ⟨rfl, by simp⟩ | exact .inr ⟨by simp, by simp⟩)); done
        · exact ⟨by omega, by omega, z1, rfl⟩
        rintro ⟨s, e⟩ ⟨j1, j2, j3, j4⟩
        simp only [go_sem, hset, List.set_set, List.length_set])
    | (
        refine AWP.here 9 33 3 rfl ?_
        refine AWP.loopM (ι := Nat × Array Po) [33, 34, 35, 36, 37, 38, 39, 40, 41, 42, 43, 44, 45, 46, 47, 48] (fun ⟨x, e2⟩ => [(7, i64 x), (8, i64 ((x + 2 * s : Nat) : Int))]) (fun ⟨x, e2⟩ => ow.set id (some (rowP e2 m))) (fun ⟨x, e2⟩ => tk) (fun ⟨x, e2⟩ => x ≤ N ∧ e2.size = N ∧ Go.Stb.mrgP ltP N s x (x + 2 * s) e2 = Go.Stb.mrgP ltP N s 0 (2 * s) e) (fun ⟨x, e2⟩ => N - x) ((0, e)) ?_ ?_ ?_
        · (try simp only [go_sem]); (try rw [Nat.zero_add]); (try simp only [List.set_set, List.length_set]); (repeat' (first | assumption | exact OwnBel.wk (hob _) | exact wkK_self | exact .inr ⟨rfl, decide_eq_true hid⟩ | exact .inr (decide_eq_true hid) | refine And.intro ?_ ?_ | exact .inl rfl | exact .inr rfl | exact .inr ⟨rfl, rfl⟩ | trivial | exact .inr (oblA rfl) | exact .inr ⟨rfl, oblA rfl⟩ | exact .inr bel_strs | exact .inr ⟨rfl, bel_strs⟩ | exact .inr ⟨by simp, bel_strs⟩ | (simp; done) | exact .inr ⟨rfl, by simp⟩ | exact .inr ⟨by simp, by simp⟩)); done
        · exact ⟨by omega, j3, by rw [Nat.zero_add]⟩
        rintro ⟨x, e2⟩ ⟨k1, k2, k3⟩
        simp only [go_sem, hset, List.set_set, List.length_set])
    | (
        refine ⟨(x + 20, Go.Sort.insertionSort ltP e x (x + 20)), ?_, ?_, ?_⟩
        · (try simp only [go_sem]); (try rw [wrap64_id (by omega) (by omega)]); (try simp only [List.set_set, List.length_set]); (repeat' (first | assumption | exact OwnBel.wk (hob _) | exact wkK_self | exact .inr ⟨rfl, decide_eq_true hid⟩ | exact .inr (decide_eq_true hid) | refine And.intro ?_ ?_ | exact .inl rfl | exact .inr rfl | exact .inr ⟨rfl, rfl⟩ | trivial | exact .inr (oblA rfl) | exact .inr ⟨rfl, oblA rfl⟩ | exact .inr bel_strs | exact .inr ⟨rfl, bel_strs⟩ | exact .inr ⟨by simp, bel_strs⟩ | (simp; done) | exact .inr ⟨rfl, by simp⟩ | exact .inr ⟨by simp, by simp⟩)); done
        · (try dsimp only); exact ⟨by omega, by rw [isort_size (by omega) (by omega)]; exact g2, (insB_step (by omega)).symm.trans g3⟩
        · (try simp only []); omega)
    | (
        refine ⟨(s * 2, Go.Stb.mrgP ltP N s 0 (2 * s) e), ?_, ?_, ?_⟩
        · (try simp only [go_sem]); (try rw [wrap64_id (by omega) (by omega)]); (try simp only [List.set_set, List.length_set]); (repeat' (first | assumption | exact OwnBel.wk (hob _) | exact wkK_self | exact .inr ⟨rfl, decide_eq_true hid⟩ | exact .inr (decide_eq_true hid) | refine And.intro ?_ ?_ | exact .inl rfl | exact .inr rfl | exact .inr ⟨rfl, rfl⟩ | trivial | exact .inr (oblA rfl) | exact .inr ⟨rfl, oblA rfl⟩ | exact .inr bel_strs | exact .inr ⟨rfl, bel_strs⟩ | exact .inr ⟨by simp, bel_strs⟩ | (simp; done) | exact .inr ⟨rfl, by simp⟩ | exact .inr ⟨by simp, by simp⟩)); done
        · (try dsimp only); exact ⟨by omega, by omega, z3, (mrgL_step (by omega) (by omega)).symm.trans j4⟩
        · (try simp only []); omega)
    | (
        refine ⟨(x + 2 * s, Go.Stb.symM ltP x (x + s) (x + 2 * s) e2), ?_, ?_, ?_⟩
        · (try simp only [go_sem]); (try rw [wrap64_id (by omega) (by omega)]); (try simp only [List.set_set, List.length_set]); (repeat' (first | assumption | exact OwnBel.wk (hob _) | exact wkK_self | exact .inr ⟨rfl, decide_eq_true hid⟩ | exact .inr (decide_eq_true hid) | refine And.intro ?_ ?_ | exact .inl rfl | exact .inr rfl | exact .inr ⟨rfl, rfl⟩ | trivial | exact .inr (oblA rfl) | exact .inr ⟨rfl, oblA rfl⟩ | exact .inr bel_strs | exact .inr ⟨rfl, bel_strs⟩ | exact .inr ⟨by simp, bel_strs⟩ | (simp; done) | exact .inr ⟨rfl, by simp⟩ | exact .inr ⟨by simp, by simp⟩)); done
        · (try dsimp only); exact ⟨by omega, by rw [symM_size]; exact k2, (mrgP_step (by omega) (by omega)).symm.trans k3⟩
        · (try simp only []); omega)
    | (
        refine AWP.ret ?_
        (try simp only [inb_ret, athen_ret])
        (try simp only [List.set_set])
        exact hBr _ _ rfl)
    | (refine hBn _ _ ?_; unfold Go.Stb.stable; rw [hN, he1, ← j4, mrgL_stop (by omega)]; done)
    | (exfalso; omega)
    | refine AWP.fin (by assumption) ?_
    | fail)

set_option maxRecDepth 100000 in
set_option maxHeartbeats 16000000 in
theorem ssf_call {ops : Array Oper} {l0 : List Oper} {Q : Exit → St → Prop} {tmps up : List AV} {gl : Nat → Option (List AV)} {own : List (Option (List AV))} {tk : List Nat} {dst : Option Tmp} {x0 x1 : Operand} {tys : Array TypeId} {ty : TypeId} {pos : String} {after : Array Edge} {id m N : Nat} {d : Array Po} 
    (hx0 : St.ev ⟨tmps, own, tk, gl, none, up⟩ x0 = .mu id 5 0 N (N + m))
    (hx1 : St.ev ⟨tmps, own, tk, gl, none, up⟩ x1 = .fn 104 [])
    (ho : own[id]? = some (some (rowP d m)))
    (hbu : (tmps ++ up).all (AV.bel own.length tk.length) = true)
    (hbo : OwnBel own own.length tk.length)
    (hl : N ≤ 1000000)
    (hN : d.size = N)
    (hend : AWPL E ops l0 Q (St.put ⟨tmps, own.set id (some (rowP (Go.Stb.stable ltP d) m)), tk, gl, none, up⟩ dst (.tup []))) : AWPL E ops (⟨dst, .call ⟨.value (.func 137), #[x0, x1], tys⟩, ty, pos, after, none⟩ :: l0) Q ⟨tmps, own, tk, gl, none, up⟩ := by
  have hid := lt_of_get ho
  obtain ⟨ow, how⟩ : ∃ ow : List (Option (List AV)), own = ow.set id (some (rowP d m)) := ⟨own, (set_same ho).symm⟩
  subst how
  rw [List.length_set] at hid
  have hob : ∀ d' : Array Po, OwnBel (ow.set id (some (rowP d' m))) ow.length tk.length := fun d' => by
    have := hbo.set (id := id) (bel_rowP d' m); rwa [List.set_set, List.length_set] at this
  have hob2 : ∀ d' : Array Po, OwnBel (ow.set id (some (rowP d' m))) (ow.set id (some (rowP d' m))).length tk.length := fun d' => by rw [List.length_set]; exact hob d'
  rw [List.length_set] at hbu
  simp only [List.set_set] at hend
  refine AWPL.call (caps := []) (rs := []) Tryz.func137 rfl Tryz.ntmps137 rfl (by kernel_rfl) rfl rfl ?_
  show AWP E _ _ ⟨([St.ev _ x0, St.ev _ x1] ++ []) ++ List.replicate (9 - 2) (.v undef), _, tk, gl, none, tmps ++ up⟩
  rw [hx0, hx1]
  have hBn : ∀ (tm : List AV) (d' : Array Po), d' = Go.Stb.stable ltP d → AInPost E.P [] ⟨tmps, ow.set id (some (rowP d m)), tk, gl, none, up⟩ (fun s z => AWPL E ops l0 Q (s.put dst z)) .normal ⟨tm, ow.set id (some (rowP d' m)), tk, gl, none, tmps ++ up⟩ := fun tm d' e => by subst e; exact ⟨rfl, hend⟩
  have hBr : ∀ (tm : List AV) (d' : Array Po), d' = Go.Stb.stable ltP d → AInPost E.P [] ⟨tmps, ow.set id (some (rowP d m)), tk, gl, none, up⟩ (fun s z => AWPL E ops l0 Q (s.put dst z)) .ret ⟨tm, ow.set id (some (rowP d' m)), tk, gl, none, tmps ++ up⟩ := fun tm d' e => by subst e; exact ⟨rfl, hend⟩
  generalize AInPost E.P [] ⟨tmps, ow.set id (some (rowP d m)), tk, gl, none, up⟩ (fun s z => AWPL E ops l0 Q (s.put dst z)) = Q1 at hBn hBr ⊢
  generalize tmps ++ up = up' at hbu hBn hBr ⊢
  clear hend ho hbo hx0 hx1
  have hset : ∀ x, (ow.set id x)[id]? = some x := fun x => List.getElem?_set_self hid
  repeat' (first
    | refine AWP.seqk fun K hK => ?_
    | (
        refine AWP.here 0 4 5 rfl ?_
        refine AWP.regionL ?_
        refine AWPL.at 5 4 rfl ?_
        simp only [go_sem, hset, List.set_set, List.length_set]
        (repeat (refine ⟨⟨_, rfl⟩, ?_⟩))
        refine stb_call (id := id) (m := m) (N := N) (d := d) (by rfl) (by rfl) (by rfl) (hset _) (by simp only [List.length_set, List.all_append, hbu, List.all_cons, List.all_nil, List.cons_append, List.nil_append, AV.bel, AV.bel2, AV.bel1, decide_eq_true hid, Bool.and_true, Bool.true_and, List.all_replicate]) (hob2 _) hl (by first | assumption | omega)  ?_
        simp only [go_sem, hset, List.set_set, List.length_set]
        refine AWPL.of ?_
        (try simp only [go_sem, hset, List.set_set, List.length_set]))
    | (refine AWP.region ?_; simp only [go_sem, hset, List.set_set, List.length_set])
    | (refine hK _ ?_; clear hK K)
    | refine AWP.block ?_
    | refine AWP.cond rfl (fun c => ?_) (fun c => ?_) <;> first | exact Bool.noConfusion c | (try simp only [dD] at c)
    | refine AWP.skip ?_
    | (refine AWP.exit ?_; simp only [go_sem, hset, List.set_set, List.length_set])
    | (refine ACall.one (stb_call ) (by kernel_rfl) rfl ?_; simp only [go_sem, hset, List.set_set, List.length_set])
    | (refine AGet.haveM (by assumption) ?_; (try simp only [go_sem, hset, List.set_set, List.length_set]))
    | (refine AGet.have' (by assumption) ?_; (try simp only [go_sem, hset, List.set_set, List.length_set]))
    | ((first | refine AGet.nth ?_ (fun b hb => ?_) | refine AGet.nth1 ?_ (fun b hb => ?_) | with_reducible refine And.intro ?_ ?_); (focus (first | omega | assumption | exact List.length_pos_iff.2 (by assumption) | (simp only [List.length_append, List.length_cons, List.length_nil, List.length_map, List.length_take, List.length_drop] at *; omega) | (rw [wrap64_id (by omega) (by omega)]; omega) | (simp; done) | (simp [spare_len]; done) | (exact ⟨by omega, by omega⟩))); (try simp only [hb, go_sem, hset, List.set_set, List.length_set]))
    | (
        refine AWP.ret ?_
        (try simp only [inb_ret, athen_ret])
        (try simp only [List.set_set])
        exact hBr _ _ rfl)
    | (exact hBn _ _ rfl)
    | refine AWP.fin (by assumption) ?_
    | fail)


end Go.Proofs.YtajeeghgiilhiaaGreat
end
section
/- Appending whatever comes, nothing too, to a row of one's own. -/
set_option linter.unusedVariables false
set_option linter.unusedSimpArgs false
namespace Go.Abs
open Go Go.RowKit
theorem AWPL.appMuG {E : Env} {Q : Exit → St → Prop} {st : St} {ops : Array Oper} {l : List Oper} {dst : Option Tmp} {t tx ty : TypeId} {x y : Operand} {pos : String} {after : Array Edge} {e : TypeId} {k n id m0 : Nat} {es xs : List AV}
    (hx : srcTy E.P tx = true) (hai : appInfo E.P t = some (e, k, n)) (hs : st.ev x = .mu id k 0 es.length (es.length + m0)) (hsrc : ASrc (st.ev y) k = some xs) (ho : st.own[id]? = some (some (es ++ spare k m0))) (h62 : es.length + xs.length ≤ 4611686018427387904) (hbt : (es.length + xs.length) * n ≤ 140737488355328)
    (h : ∀ m, AWPL E ops l Q (St.put { st with own := st.own.set id none ++ [some (es ++ xs ++ spare k m)] } dst (.mu st.own.length k 0 (es.length + xs.length) (es.length + xs.length + m)))) : AWPL E ops (⟨dst, .call ⟨.builtin .append, #[x, y], #[t, tx]⟩, ty, pos, after, none⟩ :: l) Q st := by
  intro w0 im0 cx a w h0 hG r
  refine wpList_step (fun K' hK' => ?_)
  have hw : Region.wanted ⟨dst, .call ⟨.builtin .append, #[x, y], #[t, tx]⟩, ty, pos, after, none⟩ (yielded ops a.tmps) = true := rfl
  rw [if_pos hw]
  have hv := r.ev x
  rw [hs] at hv
  have fin : ∀ (v' : Value) (w' : World) (c' : Ctx) (m : Nat), (Builtin.append_ #[t, tx] ty #[a.eval x, a.eval y]).run E.P w = .ok v' w' → Rel w0 im0 c' { st with own := st.own.set id none ++ [some (es ++ xs ++ spare k m)] } a w' → VR c' (.mu st.own.length k 0 (es.length + xs.length) (es.length + xs.length + m)) v' →
      Oper.wp E.P ⟨dst, .call ⟨.builtin .append, #[x, y], #[t, tx]⟩, ty, pos, after, none⟩ a w K' (fun e a' w' => Hands w0 im0 (Q e) a' w') := fun v' w' c' m h1 h2 h3 => by
    refine wp_value (w' := w') (v := v') ?_ (hK' _ _ (h m w0 im0 _ _ _ h0 hG (h2.put dst h3)))
    simp only [execOp, resolve, Sem.run_bind, Sem.run_pure, Result.andThen_ok, invoke, builtin, List.map_toArray, List.map_cons, List.map_nil, h1]
  by_cases hne : xs = []
  · subst hne
    obtain ⟨hu, hss, hk0, i, zv, hi, hz, hsize, hbytes, hzs⟩ := appInfo_ok hai
    obtain ⟨news, hnl, hnc, hlen, hone, hfirst⟩ := src_ok (P := E.P) r (r.ev y) hk0 hsrc
    have hnews : news = [] := List.eq_nil_of_length_eq_zero (by simpa using hnl)
    subst hnews
    have hrun : ∀ base (N C : Nat), N ≤ C → a.eval x = .slice base N C → (Builtin.append_ #[t, tx] ty #[a.eval x, a.eval y]).run E.P w = .ok (a.eval x) w := fun base N C hNC hb => by
      rw [hb]
      have := run_append_place (P := E.P) (w := w) (ty := ty) (base := base) (n := N) (cap := C) hu hss hx (hlen w) (hfirst w (fun _ _ => rfl)) (by simpa using hNC)
      rw [this]
      cases base <;> simp [storeCells]
    rcases hv.inv_mu with ⟨g, hb, hcap, he⟩ | ⟨hz1, hz2, he⟩
    · obtain ⟨hle, r2⟩ := r.moveOwn hb ho
      refine fin _ w _ m0 (hrun _ _ _ (by omega) he) (by simpa using r2) ?_
      rw [he]
      exact .mu (by show (cx.β ++ [_])[_]? = _; rw [← r.ownlen]; simp) (by simp)
    · have hes : es = [] := List.eq_nil_of_length_eq_zero hz1
      have hm0 : m0 = 0 := by omega
      subst hes; subst hm0
      obtain ⟨hle, r2⟩ := (r.dropOwn id).addNil
      exact fin _ w _ 0 (hrun _ _ _ (Nat.le_refl _) he) (by simpa [spare] using r2) (by rw [he]; exact .muN)
  · obtain ⟨v', w', c', m, hr, hR, hV⟩ := append_mu (P := E.P) (ty := ty) r hx hai (r.ev y) hsrc hne (es := es) (sp := spare k m0) (by rw [spare_len]; exact hv) ho h62 hbt
    exact fin v' w' c' m hr (by simpa using hR) (by simpa using hV)
end Go.Abs
end
section
set_option linter.unusedVariables false
set_option linter.unusedSimpArgs false
namespace Go.Proofs.YtajeeghgiilhiaaGreat
open Go Go.Abs Go.RowKit Go.Bk
theorem po_ren (σ : Nat → Option Nat) (a : List Po) (m : Nat) : (a.map poV ++ spare 5 m).map (AV.ren σ) = a.map poV ++ spare 5 m := ren_row fun _ => rfl
abbrev pssV (l : List (List Po)) : AV := .sl none 1 (l.map fun x => AV.sl none 5 (x.map poV))
theorem togF_n {n : Nm} {l : List Po} {i : Nat} {qs vs : List Int} (hi : l.length ≤ i) (hq : qs = (l.take i).map (·.qty)) (hv : vs = (l.take i).map (·.value)) (ho : (l.take i).any (·.over) = false) (h : (sumF qs).2 = false ∨ (sumF vs).2 = false) : togF n l = ⟨n.1, n.2, 0, 0, true⟩ := by
  rw [togF_end hi hq hv ho, if_neg]
  rcases h with h | h <;> simp [h]
theorem togF_y {n : Nm} {l : List Po} {i : Nat} {qs vs : List Int} (hi : l.length ≤ i) (hq : qs = (l.take i).map (·.qty)) (hv : vs = (l.take i).map (·.value)) (ho : (l.take i).any (·.over) = false) (h : (sumF qs).2 = true) (h2 : (sumF vs).2 = true) : togF n l = ⟨n.1, n.2, (sumF qs).1, (sumF vs).1, false⟩ := by
  rw [togF_end hi hq hv ho, if_pos (by rw [h, h2]; rfl)]
abbrev posV (l : List Po) : AV := .sl none 5 (l.map poV)
theorem bel_pos {no nt m : Nat} {l : List Po} : ∀ es, some (l.map poV ++ spare 5 m) = some es → ∀ e ∈ es, ∀ z ∈ e.leaves, z.bel no nt = true := bel_row fun x z hz => by
  simp only [AV.leaves, List.mem_cons, List.not_mem_nil, or_false] at hz
  rcases hz with rfl | rfl | rfl | rfl | rfl <;> rfl
theorem cl_po (l : List Po) : ∀ e ∈ l.map poV, ∀ x ∈ e.leaves, x.clean1 = some x := by
  intro e he x hx
  obtain ⟨o, _, rfl⟩ := List.mem_map.1 he
  simp only [AV.leaves, List.mem_cons, List.not_mem_nil, or_false] at hx
  rcases hx with rfl | rfl | rfl | rfl | rfl <;> rfl

set_option maxHeartbeats 4000000 in
set_option maxRecDepth 8000 in
theorem mright_c (l : List Po) (hl : l.length ≤ 1000000) : ACalls E 40 [posV l] (fun r t => r = bl (riseP l) ∧ t = []) := by -- checkroll/merge.Right
  refine ACalls.of_awp (n := 47) (rs := [.tmp 2]) Tryz.func40 rfl Tryz.ntmps40 rfl ?_
  repeat' (first
    | refine AWP.seqk fun K hK => ?_
    | (
        refine AWP.here 3 9 6 rfl ?_
        obtain ⟨x, hx⟩ : ∃ x, l[i]? = some x := ⟨_, List.getElem?_eq_getElem (by omega)⟩
        refine AWP.region ?_; simp only [go_sem])
    | (refine AWP.region ?_; simp only [go_sem])
    | (refine AWP.here 4 12 12 rfl ?_; refine AWP.regionO [0, 1, 2, 3, 4, 5, 6, 7, 8, 9, 10, 11] [] (by kernel_rfl) (by kernel_rfl) rfl ?_; simp only [go_sem])
    | (refine hK _ ?_; clear hK K)
    | refine AWP.block ?_
    | refine AWP.cond rfl (fun c => ?_) (fun c => ?_) <;> first | exact Bool.noConfusion c | (try simp only [dD] at c)
    | refine AWP.skip ?_
    | (refine AWP.exit ?_; simp only [go_sem])
    | (refine ACall.one (byn_c b x) (by kernel_rfl) rfl ?_; simp only [go_sem])
    | (refine ACall.one (numr_c x.qty) (by kernel_rfl) rfl ?_; simp only [go_sem])
    | (refine ACall.one (numr_c x.value) (by kernel_rfl) rfl ?_; simp only [go_sem])
    | (refine AGuard.splitN (fun h => ?_) (fun h => ?_) <;> simp only [h, go_sem] <;> (try simp only [dD] at h))
    | (refine AGuard.split (fun h => ?_) (fun h => ?_) <;> simp only [h, go_sem] <;> (try simp only [dD] at h))
    | (refine AGet.haveM (by assumption) ?_; (try simp only [go_sem]))
    | (refine AGet.have' (by assumption) ?_; (try simp only [go_sem]))
    | ((first | refine AGet.nth ?_ (fun b hb => ?_) | refine AGet.nth1 ?_ (fun b hb => ?_) | with_reducible refine And.intro ?_ ?_); (focus (first | omega | assumption | exact List.length_pos_iff.2 (by assumption) | (simp only [List.length_append, List.length_cons, List.length_nil, List.length_map, List.length_take, List.length_drop] at *; omega) | (rw [wrap64_id (by omega) (by omega)]; omega) | (simp; done) | (simp [spare_len]; done) | (exact ⟨by omega, by omega⟩))); (try simp only [hb, go_sem]))
    | (
        refine AWP.here 2 8 1 rfl ?_
        refine AWP.loopN (ι := Nat) [2, 3, 4, 8, 9, 10, 11, 12, 13, 14, 15, 16, 17, 18, 19, 20, 21, 22, 23, 24, 25, 26, 27, 28, 29, 30, 31, 32, 33, 34, 35, 36, 37, 38, 39, 40, 41, 42, 43, 44, 45, 46] (fun (i : Nat) => [(7, i64 i)]) (fun (i : Nat) => i ≤ l.length ∧ ∀ k, k < i → okR l k = true) (fun (i : Nat) => l.length - i) (0) ?_ ?_ ?_
        · (try simp only [go_sem]); (repeat' (first | refine And.intro ?_ ?_ | exact .inl rfl | exact .inr rfl | exact .inr ⟨rfl, rfl⟩ | trivial | exact .inr (oblA rfl) | exact .inr ⟨rfl, oblA rfl⟩ | exact .inr bel_strs | exact .inr ⟨rfl, bel_strs⟩ | exact .inr ⟨by simp, bel_strs⟩ | (simp; done) | exact .inr ⟨rfl, by simp⟩ | exact .inr ⟨by simp, by simp⟩)); done
        · exact ⟨by omega, fun k hk => by omega⟩
        rintro i ⟨h1, h3⟩
        simp only [go_sem])
    | (
        refine ⟨i + 1, ?_, ?_, ?_⟩
        · (try simp only [go_sem]); (try rw [wrap64_id (by omega) (by omega)]); (repeat' (first | refine And.intro ?_ ?_ | exact .inl rfl | exact .inr rfl | exact .inr ⟨rfl, rfl⟩ | trivial | exact .inr (oblA rfl) | exact .inr ⟨rfl, oblA rfl⟩ | exact .inr bel_strs | exact .inr ⟨rfl, bel_strs⟩ | exact .inr ⟨by simp, bel_strs⟩ | (simp; done) | exact .inr ⟨rfl, by simp⟩ | exact .inr ⟨by simp, by simp⟩)); done
        · exact ⟨by omega, upto_next h3 (by first | exact okR_ok0 hx (by omega) (by first | exact okP_n (by assumption) (by assumption) (by assumption) | exact okP_z (by assumption) (by assumption) (by assumption) (by assumption)) | (rw [wrap_pred (by omega) (by omega)] at hb; exact okR_ok hx hb (by first | exact okP_n (by assumption) (by assumption) (by assumption) | exact okP_z (by assumption) (by assumption) (by assumption) (by assumption)) (by omega)))⟩
        · (try simp only []); omega)
    | (
        refine AWP.ret ?_
        refine AEnd.is ?_; simp only [go_sem, out_v, out_s, out_n, v_int, v_bool, v_str] <;> (first | (rw [riseP_no hx (okR_bad1 hx (by first | exact okP_q (by assumption) | exact okP_v (by assumption) | exact okP_o (by assumption) (.inl (by assumption)) | exact okP_o (by assumption) (.inr (by assumption))))]; done) | (rw [wrap_pred (by omega) (by omega)] at hb; rw [riseP_no hx (okR_bad2 hx (by omega) hb (by omega))]; done) | (rw [riseP_yes (by omega) h3]; done) | skip))
    | refine AWP.fin (by assumption) ?_
    | fail)

set_option maxHeartbeats 4000000 in
set_option maxRecDepth 8000 in
theorem mget_c (l : List Po) (a s : Bs) (hl : l.length ≤ 9223372036854775807) : ACalls E 69 [posV l, str a, str s] (fun r t => r = poV (getP l (a, s)) ∧ t = []) := by -- checkroll/merge.Get
  refine ACalls.of_awp (n := 30) (rs := [.cell 6 49]) Tryz.func69 rfl Tryz.ntmps69 rfl ?_
  repeat' (first
    | refine AWP.seqk fun K hK => ?_
    | (
        refine AWP.here 3 13 4 rfl ?_
        obtain ⟨x, hx⟩ : ∃ x, l[i]? = some x := ⟨_, List.getElem?_eq_getElem (by omega)⟩
        refine AWP.region ?_; simp only [go_sem])
    | (refine AWP.region ?_; simp only [go_sem])
    | (refine hK _ ?_; clear hK K)
    | refine AWP.block ?_
    | refine AWP.cond rfl (fun c => ?_) (fun c => ?_) <;> first | exact Bool.noConfusion c | (try simp only [dD] at c)
    | refine AWP.skip ?_
    | (refine AWP.exit ?_; simp only [go_sem])
    | (refine AGuard.splitN (fun h => ?_) (fun h => ?_) <;> simp only [h, go_sem] <;> (try simp only [dD] at h))
    | (refine AGuard.split (fun h => ?_) (fun h => ?_) <;> simp only [h, go_sem] <;> (try simp only [dD] at h))
    | (refine AGet.haveM (by assumption) ?_; (try simp only [go_sem]))
    | (refine AGet.have' (by assumption) ?_; (try simp only [go_sem]))
    | ((first | refine AGet.nth ?_ (fun b hb => ?_) | refine AGet.nth1 ?_ (fun b hb => ?_) | with_reducible refine And.intro ?_ ?_); (focus (first | omega | assumption | exact List.length_pos_iff.2 (by assumption) | (simp only [List.length_append, List.length_cons, List.length_nil, List.length_map, List.length_take, List.length_drop] at *; omega) | (rw [wrap64_id (by omega) (by omega)]; omega) | (simp; done) | (simp [spare_len]; done) | (exact ⟨by omega, by omega⟩))); (try simp only [hb, go_sem]))
    | (
        refine AWP.here 2 12 1 rfl ?_
        refine AWP.loopN (ι := Nat) [8, 12, 13, 14, 15, 16, 17, 18, 19, 20, 21, 22, 23, 24, 25, 26] (fun (i : Nat) => [(11, i64 i)]) (fun (i : Nat) => i ≤ l.length ∧ ∀ k y, k < i → l[k]? = some y → ¬ (y.acc = a ∧ y.sym = s)) (fun (i : Nat) => l.length - i) (0) ?_ ?_ ?_
        · (try simp only [go_sem]); (repeat' (first | refine And.intro ?_ ?_ | exact .inl rfl | exact .inr rfl | exact .inr ⟨rfl, rfl⟩ | trivial | exact .inr (oblA rfl) | exact .inr ⟨rfl, oblA rfl⟩ | exact .inr bel_strs | exact .inr ⟨rfl, bel_strs⟩ | exact .inr ⟨by simp, bel_strs⟩ | (simp; done) | exact .inr ⟨rfl, by simp⟩ | exact .inr ⟨by simp, by simp⟩)); done
        · exact ⟨by omega, fun k y hk => by omega⟩
        rintro i ⟨h1, h3⟩
        simp only [go_sem])
    | (
        refine ⟨i + 1, ?_, ?_, ?_⟩
        · (try simp only [go_sem]); (try rw [wrap64_id (by omega) (by omega)]); (repeat' (first | refine And.intro ?_ ?_ | exact .inl rfl | exact .inr rfl | exact .inr ⟨rfl, rfl⟩ | trivial | exact .inr (oblA rfl) | exact .inr ⟨rfl, oblA rfl⟩ | exact .inr bel_strs | exact .inr ⟨rfl, bel_strs⟩ | exact .inr ⟨by simp, bel_strs⟩ | (simp; done) | exact .inr ⟨rfl, by simp⟩ | exact .inr ⟨by simp, by simp⟩)); done
        · exact ⟨by omega, noneP_next h3 hx (by (try clear hK); simp_all)⟩
        · (try simp only []); omega)
    | (
        refine AWP.ret ?_
        refine AEnd.is ?_; simp only [go_sem, out_v, out_s, out_n, v_int, v_bool, v_str] <;> (first | (rw [getP_no (n := (a, s)) (by omega) h3]; done) | (rw [getP_no (n := (a, s)) (by omega) h3]; simp; done) | (rw [getP_yes (n := (a, s)) hx h3 (by (try clear hK); simp_all)]; done) | (rw [getP_yes (n := (a, s)) hx h3 (by (try clear hK); simp_all)]; simp; done) | skip))
    | refine AWP.fin (by assumption) ?_
    | fail)

set_option maxHeartbeats 8000000 in
set_option maxRecDepth 8000 in
theorem mtog_c (l : List Po) (p0 : Po) (hl : l.length ≤ 1000000) (hp0 : l[0]? = some p0) : ACalls E 138 [posV l] (fun r t => r = poV (togF (nmP p0) l) ∧ t = []) := by -- checkroll/merge.together
  refine ACalls.of_awp (n := 65) (rs := [.cell 2 49]) Tryz.func138 rfl Tryz.ntmps138 rfl ?_
  repeat' (first
    | refine AWP.seqk fun K hK => ?_
    | (
        refine AWP.here 5 25 4 rfl ?_
        obtain ⟨x, hx⟩ : ∃ x, l[i]? = some x := ⟨_, List.getElem?_eq_getElem (by omega)⟩
        refine AWP.region ?_; simp only [go_sem])
    | (refine AWP.region ?_; simp only [go_sem])
    | (refine AWP.here 1 12 11 rfl ?_; refine AWP.regionO [0, 1, 2, 3, 4, 5, 6, 7, 8, 9, 10] [3] (by kernel_rfl) (by kernel_rfl) rfl ?_; simp only [go_sem])
    | (refine hK _ ?_; clear hK K)
    | refine AWP.block ?_
    | refine AWP.cond rfl (fun c => ?_) (fun c => ?_) <;> first | exact Bool.noConfusion c | (try simp only [dD] at c)
    | refine AWP.skip ?_
    | (refine AWP.exit ?_; simp only [go_sem])
    | (refine ACall.one (nsum_c qs (by omega)) (by kernel_rfl) rfl ?_; simp only [go_sem])
    | (refine ACall.one (nsum_c vs (by omega)) (by kernel_rfl) rfl ?_; simp only [go_sem])
    | (refine AGuard.splitN (fun h => ?_) (fun h => ?_) <;> simp only [h, go_sem] <;> (try simp only [dD] at h))
    | (refine AGuard.split (fun h => ?_) (fun h => ?_) <;> simp only [h, go_sem] <;> (try simp only [dD] at h))
    | (refine AGet.haveM (by assumption) ?_; (try simp only [go_sem]))
    | (refine AGet.have' (by assumption) ?_; (try simp only [go_sem]))
    | ((first | refine AGet.nth ?_ (fun b hb => ?_) | refine AGet.nth1 ?_ (fun b hb => ?_) | with_reducible refine And.intro ?_ ?_); (focus (first | omega | assumption | exact List.length_pos_iff.2 (by assumption) | (simp only [List.length_append, List.length_cons, List.length_nil, List.length_map, List.length_take, List.length_drop] at *; omega) | (rw [wrap64_id (by omega) (by omega)]; omega) | (simp; done) | (simp [spare_len]; done) | (exact ⟨by omega, by omega⟩))); (try simp only [hb, go_sem]))
    | (
        refine AWP.here 4 24 1 rfl ?_
        refine AWP.nilTok 4 1 rfl ?_
        refine AWP.nilTok 5 1 rfl ?_
        simp only [go_sem]
        refine AWP.loopM (ι := Nat × List Int × List Int) [7, 24, 25, 26, 27, 28, 29, 30, 31, 32, 33, 34, 35, 36, 37, 38, 39, 40, 41] (fun ⟨i, qs, vs⟩ => [(23, i64 i), (4, .sl (some 0) 1 (qs.map i64)), (5, .sl (some 1) 1 (vs.map i64))]) (fun ⟨i, qs, vs⟩ => [some [.agg [str [], str [], i64 0, i64 0, bl false]], some [.agg [str p0.acc, str p0.sym, i64 0, i64 0, bl false]]]) (fun ⟨i, qs, vs⟩ => [qs.length, vs.length]) (fun ⟨i, qs, vs⟩ => i ≤ l.length ∧ qs = (l.take i).map (·.qty) ∧ vs = (l.take i).map (·.value) ∧ (l.take i).any (·.over) = false) (fun ⟨i, qs, vs⟩ => l.length - i) ((0, [], [])) ?_ ?_ ?_
        · (try simp only [go_sem]); (repeat' (first | refine And.intro ?_ ?_ | exact .inl rfl | exact .inr rfl | exact .inr ⟨rfl, rfl⟩ | trivial | exact .inr (oblA rfl) | exact .inr ⟨rfl, oblA rfl⟩ | exact .inr bel_strs | exact .inr ⟨rfl, bel_strs⟩ | exact .inr ⟨by simp, bel_strs⟩ | (simp; done) | exact .inr ⟨rfl, by simp⟩ | exact .inr ⟨by simp, by simp⟩)); done
        · exact ⟨by omega, rfl, rfl, rfl⟩
        rintro ⟨i, qs, vs⟩ ⟨h1, h2, h3, h4⟩
        simp only [go_sem]
        have hql : qs.length = i := by rw [h2, List.length_map, List.length_take]; omega
        have hvl : vs.length = i := by rw [h3, List.length_map, List.length_take]; omega)
    | (
        first
        | (refine ⟨(i + 1, qs ++ [x.qty], vs ++ [x.value]), ?_, ⟨by show i + 1 ≤ l.length; omega, by show qs ++ [x.qty] = (l.take (i + 1)).map (·.qty); rw [h2, take_next hx]; simp, by show vs ++ [x.value] = (l.take (i + 1)).map (·.value); rw [h3, take_next hx]; simp, any_next hx h4 (by assumption)⟩, by show l.length - (i + 1) < l.length - i; omega⟩
           (try simp only [go_sem]); (try rw [wrap64_id (by omega) (by omega)]); (repeat' (first | refine And.intro ?_ ?_ | exact .inl rfl | exact .inr rfl | exact .inr ⟨rfl, rfl⟩ | trivial | exact .inr (oblA rfl) | exact .inr ⟨rfl, oblA rfl⟩ | exact .inr bel_strs | exact .inr ⟨rfl, bel_strs⟩ | exact .inr ⟨by simp, bel_strs⟩ | (simp; done) | exact .inr ⟨rfl, by simp⟩ | exact .inr ⟨by simp, by simp⟩)); done))
    | (
        refine AWP.ret ?_
        refine AEnd.is ?_; simp only [go_sem, out_v, out_s, out_n, v_int, v_bool, v_str] <;> (first | (rw [togF_over hx (by assumption)]; simp [nmP]; done) | (rw [togF_n (by omega) h2 h3 h4 (.inl (by assumption))]; simp [nmP]; done) | (rw [togF_n (by omega) h2 h3 h4 (.inr (by assumption))]; simp [nmP]; done) | (rw [togF_y (by omega) h2 h3 h4 (by assumption) (by assumption)]; simp [nmP]; done) | skip))
    | refine AWP.fin (by assumption) ?_
    | fail)


end Go.Proofs.YtajeeghgiilhiaaGreat
end
section
set_option linter.unusedVariables false
set_option linter.unusedSimpArgs false
namespace Go.Proofs.YtajeeghgiilhiaaGreat
open Go Go.Abs Go.RowKit Go.Bk

end Go.Proofs.YtajeeghgiilhiaaGreat
end
section
set_option linter.unusedVariables false
set_option linter.unusedSimpArgs false
namespace Go.Proofs.YtajeeghgiilhiaaGreat
open Go Go.Abs Go.RowKit Go.Bk
theorem grpF_len : ∀ (k : Nat) (l : List Po), (grpF k l).length ≤ k
  | 0, _ => by simp [grpF]
  | k + 1, [] => by simp [grpF]
  | k + 1, p :: l => by rw [grpF, List.length_cons]; have := grpF_len k (l.dropWhile fun q => decide (nmP q = nmP p)); omega
theorem merge_len (ls : List (List Po)) : (mergeF ls).1.length ≤ ls.flatten.length := by
  unfold mergeF; split
  · exact grpF_len _ _
  · simp

set_option maxHeartbeats 16000000 in
set_option maxRecDepth 8000 in
theorem mall_c (ls : List (List Po)) (hl1 : ls.length ≤ 1000000) (hl2 : ls.flatten.length ≤ 1000000) : ACalls E 61 [pssV ls] (fun r t => r = .tup [posV (mergeF ls).1, i64 (mergeF ls).2] ∧ t = []) := by -- checkroll/merge.All
  refine ACalls.of_awp (n := 55) (rs := [.tmp 2, .tmp 3]) Tryz.func61 rfl Tryz.ntmps61 rfl ?_
  repeat' (first
    | refine AWP.seqk fun K hK => ?_
    | (
        refine AWP.here 4 13 3 rfl ?_
        obtain ⟨l, hx⟩ : ∃ l, ls[i]? = some l := ⟨_, List.getElem?_eq_getElem (by omega)⟩
        have hml := mem_len hx
        have hfn := flat_len (ls := ls) (i := i + 1)
        rw [flat_next hx, List.length_append] at hfn
        refine AWP.region ?_; simp only [go_sem])
    | (
        refine AWP.here 8 21 2 rfl ?_
        refine AWP.renum [1] (by decide) rfl rfl ?_
        simp only [go_sem, po_ren, List.length_map]
        refine AWP.region ?_; simp only [go_sem])
    | (
        refine AWP.here 10 7 1 rfl ?_
        refine AWP.publishN 4 0 5 ls.flatten.length (ls.flatten.length + m) ((stbP ls.flatten).map poV) (spare 5 m) rfl rfl (by rw [List.length_map, stbP_len]) (cl_po _) ?_
        simp only [go_sem]
        refine AWP.region ?_; simp only [go_sem])
    | (
        refine AWP.here 12 8 1 rfl ?_
        obtain ⟨p, r, hq⟩ : ∃ p r, q = p :: r := by
          match q, (show 0 < q.length by omega) with
          | p :: r, _ => exact ⟨p, r, rfl⟩
        have hq0 : q[0]? = some p := by rw [hq]; rfl
        refine AWP.region ?_; simp only [go_sem])
    | (
        refine AWP.here 15 44 8 rfl ?_
        have hn : n = 1 + (r.takeWhile (smB p)).length := by
          first | exact tw_stop j1 j2 (hq ▸ hb) (by assumption) | exact tw_end j2 (by rw [← hq]; omega)
        have ht : q.take n = p :: r.takeWhile (smB p) := by rw [hn, hq]; exact tw_take
        have hd : q.drop n = r.dropWhile (smB p) := by rw [hn, hq]; exact tw_drop
        have hnl : n ≤ q.length := by omega
        refine AWP.region ?_; simp only [go_sem])
    | (
        refine AWP.here 7 18 4 rfl ?_
        refine AWP.regionL ?_
        refine AWPL.at 4 2 rfl ?_
        simp only [go_sem]
        refine AWPL.appMuG (es := (ls.take i).flatten.map poV) (xs := l.map poV) (m0 := m) sr27 ap27 (by simp only [List.length_map]; rfl) rfl rfl (by simp only [List.length_map]; omega) (by simp only [List.length_map]; omega) ?_
        intro mm
        simp only [go_sem]
        refine AWPL.of ?_
        simp only [go_sem])
    | (
        refine AWP.here 9 22 2 rfl ?_
        have hti : ls.take i = ls := List.take_of_length_le (by omega)
        have hall : ls.all riseP = true := all_riseEnd (by omega) h2
        rw [hti]
        refine AWP.regionL ?_
        refine AWPL.at 2 1 rfl ?_
        simp only [go_sem]
        (repeat (refine ⟨⟨_, rfl⟩, ?_⟩))
        refine ssf_call (id := 0) (m := m) (N := ls.flatten.length) (d := ls.flatten.toArray) (by rfl) (by rfl) (by rfl) (by first | rfl | (simp [AV.bel, AV.bel2, AV.bel1]; done)) (OwnBel.cons (fun es h => by cases h; exact bel_rowP ls.flatten.toArray m) OwnBel.nil) (by omega) (by simp) ?_
        simp only [go_sem]
        refine AWPL.of ?_
        simp only [go_sem])
    | (refine AWP.region ?_; simp only [go_sem])
    | (refine AWP.here 13 27 15 rfl ?_; refine AWP.regionO [0, 1, 2, 3, 4, 5, 6, 7, 8, 9, 10, 11, 12, 13, 14] [] (by kernel_rfl) (by kernel_rfl) rfl ?_; simp only [go_sem])
    | (refine hK _ ?_; clear hK K)
    | refine AWP.block ?_
    | refine AWP.cond rfl (fun c => ?_) (fun c => ?_) <;> first | exact Bool.noConfusion c | (try simp only [dD] at c)
    | refine AWP.skip ?_
    | (refine AWP.exit ?_; simp only [go_sem])
    | (refine ACall.one (mright_c l (by have := mem_len hx; omega)) (by kernel_rfl) rfl ?_; simp only [go_sem])
    | (refine ACall.one (byn_c p b) (by kernel_rfl) rfl ?_; simp only [go_sem])
    | (rw [ht]; refine ACall.one (mtog_c (p :: r.takeWhile (smB p)) p (by have := tw_le (p := p) (r := r); rw [← hq] at this; simp only [List.length_cons]; omega) rfl) (by kernel_rfl) rfl ?_; simp only [go_sem])
    | (refine AGuard.splitN (fun h => ?_) (fun h => ?_) <;> simp only [h, go_sem] <;> (try simp only [dD] at h))
    | (refine AGuard.split (fun h => ?_) (fun h => ?_) <;> simp only [h, go_sem] <;> (try simp only [dD] at h))
    | (refine AGet.haveM (by assumption) ?_; (try simp only [go_sem]))
    | (refine AGet.have' (by assumption) ?_; (try simp only [go_sem]))
    | ((first | refine AGet.nth ?_ (fun b hb => ?_) | refine AGet.nth1 ?_ (fun b hb => ?_) | with_reducible refine And.intro ?_ ?_); (focus (first | omega | assumption | exact List.length_pos_iff.2 (by assumption) | (simp only [List.length_append, List.length_cons, List.length_nil, List.length_map, List.length_take, List.length_drop] at *; omega) | (rw [wrap64_id (by omega) (by omega)]; omega) | (simp; done) | (simp [spare_len]; done) | (exact ⟨by omega, by omega⟩))); (try simp only [hb, go_sem]))
    | (
        refine AWP.here 3 12 1 rfl ?_
        refine AWP.nilMu 4 5 rfl ?_
        simp only [go_sem]
        refine AWP.loopM (ι := Nat × Nat) [2, 3, 6, 12, 13, 14, 15, 16, 17, 18, 19, 20, 21] (fun ⟨i, m⟩ => [(11, i64 i), (4, .mu 0 5 0 (ls.take i).flatten.length ((ls.take i).flatten.length + m))]) (fun ⟨i, m⟩ => [some ((ls.take i).flatten.map poV ++ spare 5 m)]) (fun ⟨i, m⟩ => []) (fun ⟨i, m⟩ => i ≤ ls.length ∧ (ls.take i).all riseP = true) (fun ⟨i, m⟩ => ls.length - i) ((0, 0)) ?_ ?_ ?_
        · (try simp only [go_sem]); (repeat' (first | exact .inr bel_pos | exact .inr ⟨rfl, bel_pos⟩ | exact .inr ⟨by simp, bel_pos⟩ | refine And.intro ?_ ?_ | exact .inl rfl | exact .inr rfl | exact .inr ⟨rfl, rfl⟩ | trivial | exact .inr (oblA rfl) | exact .inr ⟨rfl, oblA rfl⟩ | exact .inr bel_strs | exact .inr ⟨rfl, bel_strs⟩ | exact .inr ⟨by simp, bel_strs⟩ | (simp; done) | exact .inr ⟨rfl, by simp⟩ | exact .inr ⟨by simp, by simp⟩)); done
        · exact ⟨by omega, rfl⟩
        rintro ⟨i, m⟩ ⟨h1, h2⟩
        simp only [go_sem]
        have hfl := flat_len (ls := ls) (i := i))
    | (
        refine AWP.here 11 24 3 rfl ?_
        refine AWP.nilTok 7 5 rfl ?_
        simp only [go_sem]
        refine AWP.loopM (ι := List Po × List Po) [8, 24, 25, 26, 27, 28, 29, 30, 31, 32, 33, 34, 35, 36, 37, 38, 39, 40, 41, 42, 43, 44, 45, 46, 47, 48, 49, 50, 51, 52, 53] (fun ⟨q, out⟩ => [(4, posV q), (7, .sl (some 0) 5 (out.map poV))]) (fun ⟨q, out⟩ => [none]) (fun ⟨q, out⟩ => [out.length]) (fun ⟨q, out⟩ => q.length + out.length ≤ ls.flatten.length ∧ out ++ grpA q = grpA (stbP ls.flatten)) (fun ⟨q, out⟩ => q.length) ((stbP ls.flatten, [])) ?_ ?_ ?_
        · (try simp only [go_sem]); (repeat' (first | exact .inr bel_pos | exact .inr ⟨rfl, bel_pos⟩ | exact .inr ⟨by simp, bel_pos⟩ | refine And.intro ?_ ?_ | exact .inl rfl | exact .inr rfl | exact .inr ⟨rfl, rfl⟩ | trivial | exact .inr (oblA rfl) | exact .inr ⟨rfl, oblA rfl⟩ | exact .inr bel_strs | exact .inr ⟨rfl, bel_strs⟩ | exact .inr ⟨by simp, bel_strs⟩ | (simp; done) | exact .inr ⟨rfl, by simp⟩ | exact .inr ⟨by simp, by simp⟩)); done
        · exact ⟨by rw [stbP_len]; simp, rfl⟩
        rintro ⟨q, out⟩ ⟨k1, k2⟩
        simp only [go_sem])
    | (
        refine AWP.here 13 27 15 rfl ?_
        have hrl := tw_le (p := p) (r := r)
        rw [← hq] at hrl
        refine AWP.loopN (ι := Nat) [27, 28, 29, 30, 31, 32, 33, 34, 35, 36, 37, 38, 39, 40, 41, 42, 43] (fun (n : Nat) => [(8, i64 n)]) (fun (n : Nat) => 1 ≤ n ∧ n ≤ 1 + (r.takeWhile (smB p)).length) (fun (n : Nat) => q.length - n) (1) ?_ ?_ ?_
        · (try simp only [go_sem]); (repeat' (first | refine And.intro ?_ ?_ | exact .inl rfl | exact .inr rfl | exact .inr ⟨rfl, rfl⟩ | trivial | exact .inr (oblA rfl) | exact .inr ⟨rfl, oblA rfl⟩ | exact .inr bel_strs | exact .inr ⟨rfl, bel_strs⟩ | exact .inr ⟨by simp, bel_strs⟩ | (simp; done) | exact .inr ⟨rfl, by simp⟩ | exact .inr ⟨by simp, by simp⟩)); done
        · exact ⟨by omega, by omega⟩
        rintro n ⟨j1, j2⟩
        simp only [go_sem])
    | (
        refine ⟨(i + 1, mm), ?_, ⟨by show i + 1 ≤ ls.length; omega, all_riseNext hx h2 (by assumption)⟩, by show ls.length - (i + 1) < ls.length - i; omega⟩
        (try simp only [go_sem]); (try rw [wrap64_id (by omega) (by omega)]); rw [flat_next hx, List.length_append]; (repeat' (first | exact .inr bel_pos | exact .inr ⟨rfl, bel_pos⟩ | exact .inr ⟨by simp, bel_pos⟩ | refine And.intro ?_ ?_ | exact .inl rfl | exact .inr rfl | exact .inr ⟨rfl, rfl⟩ | trivial | exact .inr (oblA rfl) | exact .inr ⟨rfl, oblA rfl⟩ | exact .inr bel_strs | exact .inr ⟨rfl, bel_strs⟩ | exact .inr ⟨by simp, bel_strs⟩ | (simp; done) | exact .inr ⟨rfl, by simp⟩ | exact .inr ⟨by simp, by simp⟩)); done)
    | (
        refine ⟨(r.dropWhile (smB p), out ++ [togF (nmP p) (p :: r.takeWhile (smB p))]), ?_, ⟨by show (r.dropWhile (smB p)).length + (out ++ [_]).length ≤ _; rw [← hd, List.length_drop, List.length_append, List.length_singleton]; omega, by show (out ++ [_]) ++ grpA (r.dropWhile (smB p)) = _; rw [← k2, hq, grpA_cons]; simp⟩, by show (r.dropWhile (smB p)).length < q.length; rw [← hd, List.length_drop]; omega⟩
        (try simp only [go_sem]); rw [hd]; (try simp only [List.map_append, List.map_cons, List.map_nil, List.length_append, List.length_singleton]); (repeat' (first | exact .inr bel_pos | exact .inr ⟨rfl, bel_pos⟩ | exact .inr ⟨by simp, bel_pos⟩ | refine And.intro ?_ ?_ | exact .inl rfl | exact .inr rfl | exact .inr ⟨rfl, rfl⟩ | trivial | exact .inr (oblA rfl) | exact .inr ⟨rfl, oblA rfl⟩ | exact .inr bel_strs | exact .inr ⟨rfl, bel_strs⟩ | exact .inr ⟨by simp, bel_strs⟩ | (simp; done) | exact .inr ⟨rfl, by simp⟩ | exact .inr ⟨by simp, by simp⟩)); done)
    | (
        refine ⟨n + 1, ?_, ?_, ?_⟩
        · (try simp only [go_sem]); (try rw [wrap64_id (by omega) (by omega)]); (repeat' (first | refine And.intro ?_ ?_ | exact .inl rfl | exact .inr rfl | exact .inr ⟨rfl, rfl⟩ | trivial | exact .inr (oblA rfl) | exact .inr ⟨rfl, oblA rfl⟩ | exact .inr bel_strs | exact .inr ⟨rfl, bel_strs⟩ | exact .inr ⟨by simp, bel_strs⟩ | (simp; done) | exact .inr ⟨rfl, by simp⟩ | exact .inr ⟨by simp, by simp⟩)); done
        · exact ⟨by omega, tw_next j1 j2 (hq ▸ hb) (by assumption)⟩
        · (try simp only []); omega)
    | (
        refine AWP.ret ?_
        refine AEnd.is ?_; simp only [go_sem, out_v, out_s, out_n, v_int, v_bool, v_str] <;> (first | (rw [all_riseNo hx (by assumption)]; exact ⟨trivial, rfl⟩) | (rw [mergeF_eq hall, ← k2]; simp [grpA, grpF, show q = [] from List.eq_nil_of_length_eq_zero (by omega)]; done) | skip))
    | refine AWP.fin (by assumption) ?_
    | fail)

set_option maxHeartbeats 4000000 in
set_option maxRecDepth 8000 in
theorem over1_c (p : Po) : ACalls E 135 [poV p] (fun r t => r = bl p.over ∧ t = []) := by -- checkroll/roll.over$1
  refine ACalls.of_awp (n := 5) (rs := [.tmp 2]) Tryz.func135 rfl Tryz.ntmps135 rfl ?_
  repeat' (first
    | refine AWP.seqk fun K hK => ?_
    | (refine AWP.region ?_; simp only [go_sem])
    | (refine hK _ ?_; clear hK K)
    | refine AWP.block ?_
    | refine AWP.cond rfl (fun c => ?_) (fun c => ?_) <;> first | exact Bool.noConfusion c | (try simp only [dD] at c)
    | refine AWP.skip ?_
    | (refine AWP.exit ?_; simp only [go_sem])
    | (refine AGet.haveM (by assumption) ?_; (try simp only [go_sem]))
    | (refine AGet.have' (by assumption) ?_; (try simp only [go_sem]))
    | ((first | refine AGet.nth ?_ (fun b hb => ?_) | refine AGet.nth1 ?_ (fun b hb => ?_) | with_reducible refine And.intro ?_ ?_); (focus (first | omega | assumption | exact List.length_pos_iff.2 (by assumption) | (simp only [List.length_append, List.length_cons, List.length_nil, List.length_map, List.length_take, List.length_drop] at *; omega) | (rw [wrap64_id (by omega) (by omega)]; omega) | (simp; done) | (simp [spare_len]; done) | (exact ⟨by omega, by omega⟩))); (try simp only [hb, go_sem]))
    | (
        refine AWP.ret ?_
        refine AEnd.is ?_; simp only [go_sem, out_v, out_s, out_n, v_int, v_bool, v_str] <;> rfl)
    | refine AWP.fin (by assumption) ?_
    | fail)

set_option maxHeartbeats 4000000 in
set_option maxRecDepth 8000 in
theorem ovidx_c (l : List Po) (hl : l.length ≤ 9223372036854775807) : ACalls E 184 [posV l, .fn 135 []] (fun r t => r = i64 (idxP (fun p : Po => p.over) l) ∧ t = []) := by -- slices.IndexFunc[[]checkroll/api.Pos,checkroll/api.Pos]
  refine ACalls.of_awp (n := 19) (rs := [.tmp 4]) Tryz.func184 rfl Tryz.ntmps184 rfl ?_
  repeat' (first
    | refine AWP.seqk fun K hK => ?_
    | (refine AWP.region ?_; simp only [go_sem])
    | (refine hK _ ?_; clear hK K)
    | refine AWP.block ?_
    | refine AWP.cond rfl (fun c => ?_) (fun c => ?_) <;> first | exact Bool.noConfusion c | (try simp only [dD] at c)
    | refine AWP.skip ?_
    | (refine AWP.exit ?_; simp only [go_sem])
    | (refine ACall.one (over1_c _) (by kernel_rfl) rfl ?_; simp only [go_sem])
    | (refine AGet.haveM (by assumption) ?_; (try simp only [go_sem]))
    | (refine AGet.have' (by assumption) ?_; (try simp only [go_sem]))
    | ((first | refine AGet.nth ?_ (fun b hb => ?_) | refine AGet.nth1 ?_ (fun b hb => ?_) | with_reducible refine And.intro ?_ ?_); (focus (first | omega | assumption | exact List.length_pos_iff.2 (by assumption) | (simp only [List.length_append, List.length_cons, List.length_nil, List.length_map, List.length_take, List.length_drop] at *; omega) | (rw [wrap64_id (by omega) (by omega)]; omega) | (simp; done) | (simp [spare_len]; done) | (exact ⟨by omega, by omega⟩))); (try simp only [hb, go_sem]))
    | (
        refine AWP.here 2 9 1 rfl ?_
        refine AWP.loopN (ι := Nat) [4, 5, 9, 10, 11, 12, 13, 14, 15, 16, 17, 18] (fun (i : Nat) => [(8, i64 i)]) (fun (i : Nat) => i ≤ l.length ∧ (l.take i).all (fun p : Po => !p.over) = true) (fun (i : Nat) => l.length - i) (0) ?_ ?_ ?_
        · (try simp only [go_sem]); (repeat' (first | refine And.intro ?_ ?_ | exact .inl rfl | exact .inr rfl | exact .inr ⟨rfl, rfl⟩ | trivial | exact .inr (oblA rfl) | exact .inr ⟨rfl, oblA rfl⟩ | exact .inr bel_strs | exact .inr ⟨rfl, bel_strs⟩ | exact .inr ⟨by simp, bel_strs⟩ | (simp; done) | exact .inr ⟨rfl, by simp⟩ | exact .inr ⟨by simp, by simp⟩)); done
        · exact ⟨by omega, by simp⟩
        rintro i ⟨h1, h2⟩
        simp only [go_sem])
    | (
        refine ⟨i + 1, ?_, ?_, ?_⟩
        · (try simp only [go_sem]); (try rw [wrap64_id (by omega) (by omega)]); (repeat' (first | refine And.intro ?_ ?_ | exact .inl rfl | exact .inr rfl | exact .inr ⟨rfl, rfl⟩ | trivial | exact .inr (oblA rfl) | exact .inr ⟨rfl, oblA rfl⟩ | exact .inr bel_strs | exact .inr ⟨rfl, bel_strs⟩ | exact .inr ⟨by simp, bel_strs⟩ | (simp; done) | exact .inr ⟨rfl, by simp⟩ | exact .inr ⟨by simp, by simp⟩)); done
        · exact ⟨by omega, all_next hb h2 (by simp_all)⟩
        · (try simp only []); omega)
    | (
        refine AWP.ret ?_
        refine AEnd.is ?_; simp only [go_sem, out_v, out_s, out_n, v_int, v_bool, v_str] <;> (first | (rw [idxP_of hb (by simp_all) h2]; done) | (rw [idxP_none (by omega) h2]; done) | skip))
    | refine AWP.fin (by assumption) ?_
    | fail)

set_option maxHeartbeats 4000000 in
set_option maxRecDepth 8000 in
theorem ovcf_c (l : List Po) (hl : l.length ≤ 9223372036854775807) : ACalls E 134 [posV l, .fn 135 []] (fun r t => r = bl (decide (0 ≤ idxP (fun p : Po => p.over) l)) ∧ t = []) := by -- slices.ContainsFunc[[]checkroll/api.Pos,checkroll/api.Pos]
  refine ACalls.of_awp (n := 9) (rs := [.tmp 4]) Tryz.func134 rfl Tryz.ntmps134 rfl ?_
  repeat' (first
    | refine AWP.seqk fun K hK => ?_
    | (refine AWP.region ?_; simp only [go_sem])
    | (refine hK _ ?_; clear hK K)
    | refine AWP.block ?_
    | refine AWP.cond rfl (fun c => ?_) (fun c => ?_) <;> first | exact Bool.noConfusion c | (try simp only [dD] at c)
    | refine AWP.skip ?_
    | (refine AWP.exit ?_; simp only [go_sem])
    | (refine ACall.one (ovidx_c l hl) (by kernel_rfl) rfl ?_; simp only [go_sem])
    | (refine AGet.haveM (by assumption) ?_; (try simp only [go_sem]))
    | (refine AGet.have' (by assumption) ?_; (try simp only [go_sem]))
    | ((first | refine AGet.nth ?_ (fun b hb => ?_) | refine AGet.nth1 ?_ (fun b hb => ?_) | with_reducible refine And.intro ?_ ?_); (focus (first | omega | assumption | exact List.length_pos_iff.2 (by assumption) | (simp only [List.length_append, List.length_cons, List.length_nil, List.length_map, List.length_take, List.length_drop] at *; omega) | (rw [wrap64_id (by omega) (by omega)]; omega) | (simp; done) | (simp [spare_len]; done) | (exact ⟨by omega, by omega⟩))); (try simp only [hb, go_sem]))
    | (
        refine AWP.ret ?_
        refine AEnd.is ?_; simp only [go_sem, out_v, out_s, out_n, v_int, v_bool, v_str] <;> rfl)
    | refine AWP.fin (by assumption) ?_
    | fail)

set_option maxHeartbeats 4000000 in
set_option maxRecDepth 8000 in
theorem rover_c (l : List Po) (hl : l.length ≤ 9223372036854775807) : ACalls E 57 [posV l] (fun r t => r = bl (l.any (·.over)) ∧ t = []) := by -- checkroll/roll.over
  refine ACalls.of_awp (n := 5) (rs := [.tmp 2]) Tryz.func57 rfl Tryz.ntmps57 rfl ?_
  repeat' (first
    | refine AWP.seqk fun K hK => ?_
    | (refine AWP.region ?_; simp only [go_sem])
    | (refine hK _ ?_; clear hK K)
    | refine AWP.block ?_
    | refine AWP.cond rfl (fun c => ?_) (fun c => ?_) <;> first | exact Bool.noConfusion c | (try simp only [dD] at c)
    | refine AWP.skip ?_
    | (refine AWP.exit ?_; simp only [go_sem])
    | (refine ACall.one (ovcf_c l hl) (by kernel_rfl) rfl ?_; simp only [go_sem])
    | (refine AGet.haveM (by assumption) ?_; (try simp only [go_sem]))
    | (refine AGet.have' (by assumption) ?_; (try simp only [go_sem]))
    | ((first | refine AGet.nth ?_ (fun b hb => ?_) | refine AGet.nth1 ?_ (fun b hb => ?_) | with_reducible refine And.intro ?_ ?_); (focus (first | omega | assumption | exact List.length_pos_iff.2 (by assumption) | (simp only [List.length_append, List.length_cons, List.length_nil, List.length_map, List.length_take, List.length_drop] at *; omega) | (rw [wrap64_id (by omega) (by omega)]; omega) | (simp; done) | (simp [spare_len]; done) | (exact ⟨by omega, by omega⟩))); (try simp only [hb, go_sem]))
    | (
        refine AWP.ret ?_
        refine AEnd.is ?_; simp only [go_sem, out_v, out_s, out_n, v_int, v_bool, v_str] <;> (first | exact idxP_any | skip))
    | refine AWP.fin (by assumption) ?_
    | fail)

set_option maxHeartbeats 4000000 in
set_option maxRecDepth 8000 in
theorem rcarry_c (x y : List Po) (hx : x.length ≤ 400000) (hy : y.length ≤ 400000) : ACalls E 17 [posV x, posV y] (fun r t => r = .tup [posV (carryF x y).1, i64 (carryF x y).2] ∧ t = []) := by -- checkroll/roll.Carry
  have hml := merge_len [x, y]
  simp only [List.flatten_cons, List.flatten_nil, List.append_nil, List.length_append] at hml
  refine ACalls.of_awp (n := 21) (rs := [.tmp 4, .tmp 5]) Tryz.func17 rfl Tryz.ntmps17 rfl ?_
  repeat' (first
    | refine AWP.seqk fun K hK => ?_
    | (refine AWP.region ?_; simp only [go_sem])
    | (refine hK _ ?_; clear hK K)
    | refine AWP.block ?_
    | refine AWP.cond rfl (fun c => ?_) (fun c => ?_) <;> first | exact Bool.noConfusion c | (try simp only [dD] at c)
    | refine AWP.skip ?_
    | (refine AWP.exit ?_; simp only [go_sem])
    | (refine ACall.one (mall_c [x, y] (by simp) (by simp only [List.flatten_cons, List.flatten_nil, List.append_nil, List.length_append]; omega)) (by kernel_rfl) rfl ?_; simp only [go_sem])
    | (refine ACall.one (rover_c (mergeF [x, y]).1 (by omega)) (by kernel_rfl) rfl ?_; simp only [go_sem])
    | (refine AGet.haveM (by assumption) ?_; (try simp only [go_sem]))
    | (refine AGet.have' (by assumption) ?_; (try simp only [go_sem]))
    | ((first | refine AGet.nth ?_ (fun b hb => ?_) | refine AGet.nth1 ?_ (fun b hb => ?_) | with_reducible refine And.intro ?_ ?_); (focus (first | omega | assumption | exact List.length_pos_iff.2 (by assumption) | (simp only [List.length_append, List.length_cons, List.length_nil, List.length_map, List.length_take, List.length_drop] at *; omega) | (rw [wrap64_id (by omega) (by omega)]; omega) | (simp; done) | (simp [spare_len]; done) | (exact ⟨by omega, by omega⟩))); (try simp only [hb, go_sem]))
    | (
        refine AWP.ret ?_
        refine AEnd.is ?_; simp only [go_sem, out_v, out_s, out_n, v_int, v_bool, v_str] <;> (first | (unfold carryF; rw [if_pos (by assumption)]; first | exact ⟨trivial, rfl⟩ | (simp; done)) | (unfold carryF; rw [if_neg (by simp_all), if_pos (by assumption)]; first | exact ⟨trivial, rfl⟩ | (simp; done)) | (unfold carryF; rw [if_neg (by simp_all), if_neg (by simp_all)]; first | exact ⟨⟨rfl, rfl⟩, rfl⟩ | (simp; done)) | skip))
    | refine AWP.fin (by assumption) ?_
    | fail)


end Go.Proofs.YtajeeghgiilhiaaGreat
end
section
set_option linter.unusedVariables false
set_option linter.unusedSimpArgs false
namespace Go.Proofs.YtajeeghgiilhiaaGreat
open Go Go.Abs Go.RowKit Go.Bk
theorem bel_nmsE {no nt m : Nat} {l : List Nm} : ∀ es, some (l.map nmV ++ spare 2 m) = some es → ∀ e ∈ es, ∀ z ∈ e.leaves, z.bel no nt = true := bel_row fun x z hz => by
  simp only [AV.leaves, List.mem_cons, List.not_mem_nil, or_false] at hz
  rcases hz with rfl | rfl <;> rfl
theorem nm_take {l : List Nm} {m : Nat} : (l.map nmV ++ spare 2 m).take l.length = l.map nmV := List.take_left' (by simp)
theorem nm_snoc {l : List Nm} {a s : Bs} : l.map nmV ++ [.agg [str a, str s]] = (l ++ [(a, s)]).map nmV := by simp
@[go_sem] theorem ren_nms {σ : Nat → Option Nat} {l : List Nm} {m : Nat} : (l.map nmV ++ spare 2 m).map (AV.ren σ) = l.map nmV ++ spare 2 m := ren_row fun _ => rfl

set_option maxHeartbeats 16000000 in
set_option maxRecDepth 8000 in
theorem lall_c (bk : Bk) (ho : bk.orders.length ≤ 9223372036854775807) (hf : bk.fills.length ≤ 1000000) (hi : bk.ids.length ≤ 9223372036854775807) : ACalls E 56 [bkV bk] (fun r t => r = posV (allP bk) ∧ t = []) := by -- checkroll/ledger.All
  have hnlen : (nmsB bk).length = bk.fills.length := List.length_map _
  have hcl := cmpct_len (srtN (nmsB bk))
  rw [srtN_len] at hcl
  refine ACalls.of_awp (n := 48) (rs := [.tmp 2]) Tryz.func56 rfl Tryz.ntmps56 rfl ?_
  repeat' (first
    | refine AWP.seqk fun K hK => ?_
    | (
        refine AWP.here 6 17 4 rfl ?_
        obtain ⟨f, hb⟩ : ∃ f, bk.fills[i]? = some f := ⟨_, List.getElem?_eq_getElem (by omega)⟩
        refine AWP.region ?_; simp only [go_sem])
    | (
        refine AWP.here 8 27 2 rfl ?_
        rw [nm_take, nm_snoc]
        refine AWP.renum [0, 3] (by decide) rfl rfl ?_
        simp only [go_sem]
        refine AWP.region ?_; simp only [go_sem])
    | (
        refine AWP.here 13 35 4 rfl ?_
        obtain ⟨n, hn⟩ : ∃ n, (cmpct (srtN (nmsB bk)))[j]? = some n := ⟨_, List.getElem?_eq_getElem (by omega)⟩
        have f1 := nm_get (m := m') hn
        refine AWP.region ?_; simp only [go_sem, f1, Int.toNat_natCast])
    | (
        refine AWP.here 9 28 2 rfl ?_
        have hnl : nl = nmsB bk := by rw [h4, List.take_of_length_le (by omega)]; rfl
        rw [hnl]
        refine AWP.regionL ?_
        refine AWPL.at 2 1 rfl ?_
        simp only [go_sem]
        (repeat (refine ⟨⟨_, rfl⟩, ?_⟩))
        refine srtF_call (id := 1) (l := nmsB bk) (by rfl) (by rfl) (by omega) ?_
        simp only [go_sem]
        refine AWPL.of ?_
        simp only [go_sem])
    | (
        refine AWP.here 11 30 4 rfl ?_
        refine AWP.regionL ?_
        refine AWPL.at 4 1 rfl ?_
        simp only [go_sem]
        refine cpt_call (id := 1) (m := m) (N := (nmsB bk).length) (l := srtN (nmsB bk)) (by rfl) (by rfl) (by first | rfl | (simp [AV.bel, AV.bel2, AV.bel1]; done)) (by (repeat' (first | exact OwnBel.nil | refine OwnBel.cons ?_ ?_)) <;> (intro es h; first | (cases h; exact bel_nms) | (cases h; simp [AV.leaves, AV.bel, AV.bel2, AV.bel1]))) (by omega) (srtN_len _) ?_
        intro m'
        simp only [go_sem]
        refine AWPL.of ?_
        simp only [go_sem]
        (repeat (refine ⟨⟨_, rfl⟩, ?_⟩)))
    | (refine AWP.region ?_; simp only [go_sem])
    | (refine hK _ ?_; clear hK K)
    | refine AWP.block ?_
    | refine AWP.cond rfl (fun c => ?_) (fun c => ?_) <;> first | exact Bool.noConfusion c | (try simp only [dD] at c)
    | refine AWP.skip ?_
    | (refine AWP.exit ?_; simp only [go_sem])
    | (refine ACall.one (bright_c bk ho (by omega) hi) (by kernel_rfl) rfl ?_; simp only [go_sem])
    | (refine ACall.one (lof_c bk n.1 n.2 ho (by omega) hi) (by kernel_rfl) rfl ?_; simp only [go_sem])
    | (refine AGet.haveM (by assumption) ?_; (try simp only [go_sem]))
    | (refine AGet.have' (by assumption) ?_; (try simp only [go_sem]))
    | ((first | refine AGet.nth ?_ (fun b hb => ?_) | refine AGet.nth1 ?_ (fun b hb => ?_) | with_reducible refine And.intro ?_ ?_); (focus (first | omega | assumption | exact List.length_pos_iff.2 (by assumption) | (simp only [List.length_append, List.length_cons, List.length_nil, List.length_map, List.length_take, List.length_drop] at *; omega) | (rw [wrap64_id (by omega) (by omega)]; omega) | (simp; done) | (simp [spare_len]; done) | (exact ⟨by omega, by omega⟩))); (try simp only [hb, go_sem]))
    | (
        refine AWP.here 5 16 1 rfl ?_
        refine AWP.nilMu 3 2 rfl ?_
        simp only [go_sem]
        refine AWP.loopM (ι := Nat × List Nm × Nat) [5, 16, 17, 18, 19, 20, 21, 22, 23, 24, 25, 26, 27] (fun ⟨i, nl, m⟩ => [(15, i64 i), (3, .mu 1 2 0 nl.length (nl.length + m))]) (fun ⟨i, nl, m⟩ => [some [.agg [odsV bk.orders, dnsV bk.fills, .sl none 1 (bk.ids.map str), i64 bk.clock, i64 bk.bad]], some (nl.map nmV ++ spare 2 m)]) (fun ⟨i, nl, m⟩ => []) (fun ⟨i, nl, m⟩ => i ≤ bk.fills.length ∧ nl = (bk.fills.take i).map fun f => (f.acc, f.sym)) (fun ⟨i, nl, m⟩ => bk.fills.length - i) ((0, [], 0)) ?_ ?_ ?_
        · (try simp only [go_sem]); (repeat' (first | exact .inr bel_nmsE | exact .inr ⟨rfl, bel_nmsE⟩ | exact .inr ⟨by simp, bel_nmsE⟩ | refine And.intro ?_ ?_ | exact .inl rfl | exact .inr rfl | exact .inr ⟨rfl, rfl⟩ | trivial | exact .inr (oblA rfl) | exact .inr ⟨rfl, oblA rfl⟩ | exact .inr bel_strs | exact .inr ⟨rfl, bel_strs⟩ | exact .inr ⟨by simp, bel_strs⟩ | (simp; done) | exact .inr ⟨rfl, by simp⟩ | exact .inr ⟨by simp, by simp⟩)); done
        · exact ⟨by omega, rfl⟩
        rintro ⟨i, nl, m⟩ ⟨h3, h4⟩
        simp only [go_sem]
        have hll : nl.length = i := by rw [h4, List.length_map, List.length_take]; omega)
    | (
        refine AWP.here 12 34 1 rfl ?_
        refine AWP.nilTok 6 5 rfl ?_
        simp only [go_sem]
        refine AWP.loopM (ι := Nat × List Po) [8, 34, 35, 36, 37, 38, 39, 40, 41, 42, 43, 44, 45, 46] (fun ⟨j, out⟩ => [(33, i64 j), (6, .sl (some 0) 5 (out.map poV))]) (fun ⟨j, out⟩ => [some [.agg [odsV bk.orders, dnsV bk.fills, .sl none 1 (bk.ids.map str), i64 bk.clock, i64 bk.bad]], some ((cmpct (srtN (nmsB bk))).map nmV ++ spare 2 m')]) (fun ⟨j, out⟩ => [out.length]) (fun ⟨j, out⟩ => j ≤ (cmpct (srtN (nmsB bk))).length ∧ out = ((cmpct (srtN (nmsB bk))).take j).map fun n => posF bk n.1 n.2) (fun ⟨j, out⟩ => (cmpct (srtN (nmsB bk))).length - j) ((0, [])) ?_ ?_ ?_
        · (try simp only [go_sem]); (repeat' (first | exact .inr bel_nmsE | exact .inr ⟨rfl, bel_nmsE⟩ | exact .inr ⟨by simp, bel_nmsE⟩ | refine And.intro ?_ ?_ | exact .inl rfl | exact .inr rfl | exact .inr ⟨rfl, rfl⟩ | trivial | exact .inr (oblA rfl) | exact .inr ⟨rfl, oblA rfl⟩ | exact .inr bel_strs | exact .inr ⟨rfl, bel_strs⟩ | exact .inr ⟨by simp, bel_strs⟩ | (simp; done) | exact .inr ⟨rfl, by simp⟩ | exact .inr ⟨by simp, by simp⟩)); done
        · exact ⟨by omega, rfl⟩
        rintro ⟨j, out⟩ ⟨g1, g2⟩
        simp only [go_sem]
        have hol : out.length = j := by rw [g2, List.length_map, List.length_take]; omega)
    | (
        refine ⟨(i + 1, nl ++ [(f.acc, f.sym)], mm), ?_, ⟨by show i + 1 ≤ _; omega, by show nl ++ [(f.acc, f.sym)] = (bk.fills.take (i + 1)).map _; rw [h4, take_next hb]; simp⟩, by show bk.fills.length - (i + 1) < bk.fills.length - i; omega⟩
        (try simp only [go_sem]); (try rw [wrap64_id (by omega) (by omega)]); (try simp only [List.length_append, List.length_singleton]); (repeat' (first | exact .inr bel_nmsE | exact .inr ⟨rfl, bel_nmsE⟩ | exact .inr ⟨by simp, bel_nmsE⟩ | refine And.intro ?_ ?_ | exact .inl rfl | exact .inr rfl | exact .inr ⟨rfl, rfl⟩ | trivial | exact .inr (oblA rfl) | exact .inr ⟨rfl, oblA rfl⟩ | exact .inr bel_strs | exact .inr ⟨rfl, bel_strs⟩ | exact .inr ⟨by simp, bel_strs⟩ | (simp; done) | exact .inr ⟨rfl, by simp⟩ | exact .inr ⟨by simp, by simp⟩)); done)
    | (
        refine ⟨(j + 1, out ++ [posF bk n.1 n.2]), ?_, ⟨by show j + 1 ≤ _; omega, by show out ++ [posF bk n.1 n.2] = (List.take (j + 1) _).map _; rw [g2, take_next hn]; simp⟩, by show _ - (j + 1) < _ - j; omega⟩
        (try simp only [go_sem]); (try rw [wrap64_id (by omega) (by omega)]); (try simp only [List.map_append, List.map_cons, List.map_nil, List.length_append, List.length_singleton]); (repeat' (first | exact .inr bel_nmsE | exact .inr ⟨rfl, bel_nmsE⟩ | exact .inr ⟨by simp, bel_nmsE⟩ | refine And.intro ?_ ?_ | exact .inl rfl | exact .inr rfl | exact .inr ⟨rfl, rfl⟩ | trivial | exact .inr (oblA rfl) | exact .inr ⟨rfl, oblA rfl⟩ | exact .inr bel_strs | exact .inr ⟨rfl, bel_strs⟩ | exact .inr ⟨by simp, bel_strs⟩ | (simp; done) | exact .inr ⟨rfl, by simp⟩ | exact .inr ⟨by simp, by simp⟩)); done)
    | (
        refine AWP.ret ?_
        refine AEnd.is ?_; simp only [go_sem, out_v, out_s, out_n, v_int, v_bool, v_str] <;> (first | (unfold allP; rw [if_neg (by simp_all)]; first | exact trivial | (simp; done)) | (unfold allP; rw [if_pos (by assumption), g2, List.take_of_length_le (by omega)]; done) | skip))
    | (refine fun (mm : Nat) => ?_; simp only [go_sem])
    | refine AWP.fin (by assumption) ?_
    | fail)


end Go.Proofs.YtajeeghgiilhiaaGreat
end
section
/- A day is closed; what an account has then; the worst. No program. -/
set_option linter.unusedVariables false
set_option linter.unusedSimpArgs false
namespace Go.Bk
open Go Go.Abs
def finsB (b : Bk) : List Dn := b.fills.filter fun f => finalF b f
def restB (b : Bk) : List Dn := b.fills.filter fun f => !finalF b f
def doneB (b : Bk) : Bk := ⟨[], finsB b, b.ids, b.clock, 0⟩
def closeF (b : Bk) : Bk × List Po × Int :=
  if rightBk b then (if (allP (doneB b)).any (·.over) then (b, [], 9) else (⟨b.orders, restB b, b.ids, b.clock, b.bad⟩, allP (doneB b), 0)) else (b, [], 1)
theorem dayc_no {b : Bk} (h : rightBk b = false) : closeF b = (b, [], 1) := by unfold closeF; rw [if_neg (by rw [h]; simp)]
theorem dayc_over {b : Bk} (h : rightBk b = true) (h2 : (allP (doneB b)).any (·.over) = true) : closeF b = (b, [], 9) := by unfold closeF; rw [if_pos h, if_pos h2]
theorem dayc_ok {b : Bk} (h : rightBk b = true) (h2 : (allP (doneB b)).any (·.over) = false) : closeF b = (⟨b.orders, restB b, b.ids, b.clock, b.bad⟩, allP (doneB b), 0) := by unfold closeF; rw [if_pos h, if_neg (by rw [h2]; simp)]
def hasR (b : Bk) (car : List Po) (a s : Bs) : Po :=
  if (mergeF [[posF b a s], [getP car (a, s)]]).2 ≠ 0 then ⟨a, s, 0, 0, true⟩ else getP (mergeF [[posF b a s], [getP car (a, s)]]).1 (a, s)
def worstR (b : Bk) (car : List Po) (a s : Bs) : Ws :=
  if (getP car (a, s)).over then ofF b a s else plusW (ofF b a s) ((getP car (a, s)).qty, IntKind.i64.wrap (0 - (getP car (a, s)).qty))
theorem fil_no {l : List Dn} {p : Dn → Bool} {i : Nat} {f : Dn} (hf : l[i]? = some f) (h : p f = false) : (l.take (i + 1)).filter p = (l.take i).filter p := by
  rw [take_next hf, List.filter_append]; simp [h]
theorem fil_yes {l : List Dn} {p : Dn → Bool} {i : Nat} {f : Dn} (hf : l[i]? = some f) (h : p f = true) : (l.take (i + 1)).filter p = (l.take i).filter p ++ [f] := by
  rw [take_next hf, List.filter_append]; simp [h]
theorem allP_len (b : Bk) : (allP b).length ≤ b.fills.length := by
  unfold allP; split
  · rw [List.length_map]
    have := cmpct_len (srtN (nmsB b))
    rw [srtN_len] at this
    simpa [nmsB] using this
  · simp
/-- The fixed answer. -/
def awB : Bk := ⟨[], [⟨[97], [], [99], [115], true, 4, 5, 0, true⟩, ⟨[98], [], [99], [115], true, 2, 6, 15, true⟩], [[97], [98]], 20, 0⟩
def awN : Bk := ⟨[], [⟨[98], [], [99], [115], true, 2, 6, 15, true⟩], [[97], [98]], 20, 0⟩
theorem srtN_one (x : Nm) : srtN [x] = [x] := List.mergeSort_singleton x
theorem aw_right : rightBk awB = true := by decide
theorem aw_fins : finsB awB = [⟨[97], [], [99], [115], true, 4, 5, 0, true⟩] := by decide
theorem aw_rest : restB awB = [⟨[98], [], [99], [115], true, 2, 6, 15, true⟩] := by decide
theorem aw_all : allP (doneB awB) = [⟨[99], [115], 4, 20, false⟩] := by
  have e1 : doneB awB = ⟨[], [⟨[97], [], [99], [115], true, 4, 5, 0, true⟩], [[97], [98]], 20, 0⟩ := by unfold doneB; rw [aw_fins]; rfl
  rw [e1]
  unfold allP
  rw [if_pos (by decide)]
  have e2 : nmsB ⟨[], [⟨[97], [], [99], [115], true, 4, 5, 0, true⟩], [[97], [98]], 20, 0⟩ = [([99], [115])] := rfl
  rw [e2, srtN_one, cmpct_short (by simp)]
  rfl
theorem aw_close : closeF awB = (awN, [⟨[99], [115], 4, 20, false⟩], 0) := by
  rw [dayc_ok aw_right (by rw [aw_all]; rfl), aw_all, aw_rest]; rfl
theorem aw_pos : posF awN [99] [115] = ⟨[99], [115], 2, 12, false⟩ := by rfl
theorem aw_get : getP [⟨[99], [115], 4, 20, false⟩] ([99], [115]) = ⟨[99], [115], 4, 20, false⟩ := by rfl
theorem aw_merge : mergeF [[⟨[99], [115], 2, 12, false⟩], [⟨[99], [115], 4, 20, false⟩]] = ([⟨[99], [115], 6, 32, false⟩], 0) := by
  have h : ([[⟨[99], [115], 2, 12, false⟩], [⟨[99], [115], 4, 20, false⟩]] : List (List Po)).all riseP = true := by decide
  refine Prod.ext ?_ (merge_ok h)
  refine Merged.uniq (merge_spec h) ⟨List.pairwise_singleton .., fun p => ?_⟩
  simp only [List.flatten_cons, List.flatten_nil, List.append_nil, List.cons_append, List.nil_append, List.mem_cons, List.not_mem_nil, or_false]
  constructor
  · rintro rfl
    exact ⟨⟨_, .inl rfl, rfl⟩, by rfl⟩
  · rintro ⟨⟨q, hq, e⟩, hp⟩
    have hn : nmP p = ([99], [115]) := by rcases hq with rfl | rfl <;> exact e.symm
    rw [hp, hn]; rfl
theorem aw_has : hasR awN [⟨[99], [115], 4, 20, false⟩] [99] [115] = ⟨[99], [115], 6, 32, false⟩ := by
  unfold hasR; rw [aw_pos, aw_get, aw_merge]; rfl
theorem aw_worst : worstR awN [⟨[99], [115], 4, 20, false⟩] [99] [115] = (6, -4) := by decide
end Go.Bk
end
section
set_option linter.unusedVariables false
set_option linter.unusedSimpArgs false
namespace Go.Proofs.YtajeeghgiilhiaaGreat
open Go Go.Abs Go.RowKit Go.Bk
end Go.Proofs.YtajeeghgiilhiaaGreat
end
section
set_option linter.unusedVariables false
set_option linter.unusedSimpArgs false
namespace Go.Proofs.YtajeeghgiilhiaaGreat
open Go Go.Abs Go.RowKit Go.Bk

end Go.Proofs.YtajeeghgiilhiaaGreat
end
section
set_option linter.unusedVariables false
set_option linter.unusedSimpArgs false
namespace Go.Proofs.YtajeeghgiilhiaaGreat
open Go Go.Abs Go.RowKit Go.Bk
theorem dclone_p (l : List Dn) (hl : l.length ≤ 1000000) : ACalls E 127 [.sl none 9 (l.map dnV)] (fun r t => r = .sl none 9 (l.map dnV) ∧ t = []) := (dclone_c l hl).untok
theorem sclone_p (l : List Bs) (hl : l.length ≤ 1000000) : ACalls E 128 [.sl none 1 (l.map str)] (fun r t => r = .sl none 1 (l.map str) ∧ t = []) := (sclone_c l hl).untok

end Go.Proofs.YtajeeghgiilhiaaGreat
end
