import Derived.Test.YtajeeghgiilhiaaT6
import Derived.Test.YtajeeghgiilhiaaMr
import Derived.Test.YtajeeghgiilhiaaT1
import Derived.Shelf.SlSortCmp.NoneTotal
set_option linter.unusedVariables false
set_option linter.unusedSimpArgs false
namespace Go.Proofs.Ytajeeghgiilhiaa
open Go Go.Abs Go.RowKit Go.Bk
theorem srtF_sort (blk cap : Nat) (l : List Nm) (w : World) (hH : Go.Sort.HoldsK encN 2 w blk 0 l.toArray) (hb : blk < w.heap.size) (hl : l.length < 4611686018427387904) :
    Calls Try.prog 38 #[.slice (some ⟨blk, 0, none⟩) l.length cap, .func (.func 39) #[] #[]] w fun e w' => e = .returned (.tuple #[]) ∧ ∃ n os, w' = Go.Sort.grow (Go.Sort.putRowK encN 2 (Go.Sort.ahead w n) blk 0 (srtN l).toArray) os := by
  have h := Go.Proofs.AnyQ.slices_SortFunc_total Try.sortf38 2 Try.isAgg78 Try.sizeOf78 encN (fun _ => rfl) (fun x v hv => by
    simp only [encN, List.mem_cons, List.not_mem_nil, or_false] at hv
    rcases hv with rfl | rfl <;> rfl) cmpN ⟨ltN_irrefl, fun _ _ _ => ltN_trans, fun _ _ _ => ltN_nt⟩ 39 #[] blk 0 cap l.toArray w (Go.Proofs.enters_of Try.func39 (by kernel_rfl) rfl) (cmpLaysN _ _ _ _) hH hb hl (fun x y h1 h2 => ltN_ff h1 h2)
  exact h
theorem srtF_none (p : Option Addr) (cap : Nat) (w : World) : Calls Try.prog 38 #[.slice p 0 cap, .func (.func 39) #[] #[]] w fun e w' => e = .returned (.tuple #[]) ∧ w' = w := Go.Proofs.AnyF.slices_SortFunc_none Try.sortf38 p cap _ w
theorem srtF_call {ops : Array Oper} {rest : List Oper} {Q : Exit → St → Prop} {st : St} {dst : Option Tmp} {x : Operand} {tys : Array TypeId} {ty : TypeId} {pos : String} {after : Array Edge} {id cap : Nat} {l : List Nm} {sp : List AV}
    (hx : st.ev x = .mu id 2 0 l.length cap) (ho : st.own[id]? = some (some (l.map nmV ++ sp))) (hsz : l.length ≤ 1000000)
    (h : AWPL E ops rest Q (St.put { st with own := st.own.set id (some ((srtN l).map nmV ++ sp)) } dst (.tup []))) :
    AWPL E ops (⟨dst, .call ⟨.value (.func 38), #[x, .func 39], tys⟩, ty, pos, after, none⟩ :: rest) Q st :=
  AWPL.sortK encN 2 nmV (by decide) (fun _ => rfl) (fun _ => rfl) (fun x v hv => by
    simp only [encN, List.mem_cons, List.not_mem_nil, or_false] at hv
    rcases hv with rfl | rfl <;> rfl) (by kernel_rfl) rfl rfl srtN srtN_len srtF_sort srtF_none hx ho hsz h
theorem nm_get {l : List Nm} {m i : Nat} {x : Nm} (h : l[i]? = some x) : (l.map nmV ++ spare 2 m)[i]? = some (nmV x) := by
  rw [List.getElem?_append_left (by simpa using get_lt h), List.getElem?_map, h]; rfl
theorem nm_set {l : List Nm} {m i : Nat} {x : Nm} (h : i < l.length) : (l.map nmV ++ spare 2 m).set i (nmV x) = (l.set i x).map nmV ++ spare 2 m := by
  rw [List.set_append_left _ _ (by simpa using h), List.map_set]
theorem bel_nms {no nt m : Nat} {l : List Nm} : ∀ e ∈ l.map nmV ++ spare 2 m, ∀ z ∈ e.leaves, z.bel no nt = true := bel_row (f := nmV) (fun x z hz => by
  simp only [AV.leaves, List.mem_cons, List.not_mem_nil, or_false] at hz
  rcases hz with rfl | rfl <;> rfl) _ rfl
theorem cl_nm (l : List Nm) : ∀ e ∈ l.map nmV, ∀ x ∈ e.leaves, x.clean1 = some x := by
  intro e he x hx
  obtain ⟨o, _, rfl⟩ := List.mem_map.1 he
  simp only [AV.leaves, List.mem_cons, List.not_mem_nil, or_false] at hx
  rcases hx with rfl | rfl <;> rfl
theorem nm_ne {x y : Nm} (h : x.1 = y.1 → ¬ x.2 = y.2) : ¬ x = y := fun e => h (congrArg Prod.fst e) (congrArg Prod.snd e)
theorem nm_eq {x y : Nm} (h : x.1 = y.1 ∧ x.2 = y.2) : x = y := Prod.ext h.1 h.2
theorem cp_next {l : List Nm} {k : Nat} {x y : Nm} (hk : 1 ≤ k) (h : cG l k = l.take k) (hx : l[k]? = some x) (hy : l[k - 1]? = some y) (hne : ¬ x = y) : cG l (k + 1) = l.take (k + 1) := by
  rw [cG_no (by omega) hx hy hne, h, take_next hx]
theorem cp_end {l : List Nm} {k : Nat} (hk : l.length ≤ k) (hk2 : k ≤ l.length) (h : cG l k = l.take k) : cmpct l = l := by
  have : k = l.length := by omega
  subst this; unfold cmpct; rw [h, List.take_length]
theorem take_set_next {l : List Nm} {q : Nat} {x : Nm} (h : q < l.length) : (l.set q x).take (q + 1) = l.take q ++ [x] := by
  rw [List.take_add_one, List.getElem?_set_self h, List.take_set_of_le (Nat.le_refl _)]; rfl

set_option maxRecDepth 100000 in
set_option maxHeartbeats 16000000 in
theorem cpt_call {ops : Array Oper} {l0 : List Oper} {Q : Exit → St → Prop} {tmps up : List AV} {gl : Nat → Option (List AV)} {own : List (Option (List AV))} {tk : List Nat} {dst : Option Tmp} {x0 : Operand} {tys : Array TypeId} {ty : TypeId} {pos : String} {after : Array Edge} {id m N : Nat} {l : List Nm}
    (hx0 : St.ev ⟨tmps, own, tk, gl, none, up⟩ x0 = .mu id 2 0 N (N + m)) (ho : own[id]? = some (some (l.map nmV ++ spare 2 m))) (hbu : (tmps ++ up).all (AV.bel own.length tk.length) = true) (hbo : OwnBel own own.length tk.length) (hl : N ≤ 1000000) (hN : l.length = N)
    (hend : ∀ m' : Nat, AWPL E ops l0 Q (St.put ⟨tmps, own.set id (some ((cmpct l).map nmV ++ spare 2 m')), tk, gl, none, up⟩ dst (.mu id 2 0 (cmpct l).length (N + m)))) :
    AWPL E ops (⟨dst, .call ⟨.value (.func 42), #[x0], tys⟩, ty, pos, after, none⟩ :: l0) Q ⟨tmps, own, tk, gl, none, up⟩ := by
  have hid := lt_of_get ho
  obtain ⟨ow, how⟩ : ∃ ow : List (Option (List AV)), own = ow.set id (some (l.map nmV ++ spare 2 m)) := ⟨own, (set_same ho).symm⟩
  subst how
  rw [List.length_set] at hid
  have hob : ∀ (d' : List Nm), OwnBel (ow.set id (some (d'.map nmV ++ spare 2 m))) ow.length tk.length := fun d' => by
    have := hbo.set (id := id) (bel_nms (l := d') (m := m)); rwa [List.set_set, List.length_set] at this
  rw [List.length_set] at hbu
  simp only [List.set_set] at hend
  refine AWPL.call (caps := []) (rs := [.tmp 2]) Try.func42 rfl Try.ntmps42 rfl (by kernel_rfl) rfl rfl ?_
  show AWP E _ _ ⟨([St.ev _ x0] ++ []) ++ List.replicate (61 - 1) (.v undef), _, tk, gl, none, tmps ++ up⟩
  rw [hx0]
  have hBr : ∀ (tm : List AV) (m' : Nat), tm[2]? = some (.mu id 2 0 (cmpct l).length (N + m)) → AInPost E.P [.tmp 2] ⟨tmps, ow.set id (some (l.map nmV ++ spare 2 m)), tk, gl, none, up⟩ (fun s z => AWPL E ops l0 Q (s.put dst z)) .ret ⟨tm, ow.set id (some ((cmpct l).map nmV ++ spare 2 m')), tk, gl, none, tmps ++ up⟩ := fun tm m' hu => by
    refine ⟨rfl, ?_⟩
    have gu : ∀ ow, St.ev ⟨tm, ow, tk, gl, none, tmps ++ up⟩ (.tmp 2) = .mu id 2 0 (cmpct l).length (N + m) := fun ow => by simp [St.ev, List.getD_eq_getElem?_getD, hu]
    show AWPL E ops l0 Q (St.put _ dst (tupOf [St.ev _ (.tmp 2)]))
    rw [gu]
    exact hend m'
  generalize AInPost E.P [.tmp 2] ⟨tmps, ow.set id (some (l.map nmV ++ spare 2 m)), tk, gl, none, up⟩ (fun s z => AWPL E ops l0 Q (s.put dst z)) = Q1 at hBr ⊢
  generalize tmps ++ up = up' at hbu hBr ⊢
  clear hend ho hbo hx0
  have hset : ∀ x, (ow.set id x)[id]? = some x := fun x => List.getElem?_set_self hid
  repeat' (first
    | refine AWP.seqk fun K hK => ?_
    | (
        refine AWP.here 6 16 10 rfl ?_
        obtain ⟨x, hx⟩ : ∃ x, l[k]? = some x := ⟨_, List.getElem?_eq_getElem (by omega)⟩
        obtain ⟨y, hy⟩ : ∃ y, l[k - 1]? = some y := ⟨_, List.getElem?_eq_getElem (by omega)⟩
        have w0 : IntKind.i64.wrap ((k : Int) - 1) = ((k - 1 : Nat) : Int) := by rw [wrap64_id (by omega) (by omega)]; omega
        have f1 := nm_get (m := m) hx
        have f2 := nm_get (m := m) hy
        refine AWP.regionO [0, 1, 2, 3, 4, 5, 6, 7, 8, 9] [] (by kernel_rfl) (by kernel_rfl) rfl ?_; simp only [go_sem, hset, List.set_set, List.length_set, w0, f1, f2, Int.toNat_natCast])
    | (
        refine AWP.here 11 35 10 rfl ?_
        obtain ⟨u, hu2⟩ : ∃ x, l[k + k2]? = some x := ⟨_, List.getElem?_eq_getElem (by omega)⟩
        obtain ⟨v, hv2⟩ : ∃ x, l[k + k2 - 1]? = some x := ⟨_, List.getElem?_eq_getElem (by omega)⟩
        have hu3 := (g6 (k + k2) (by omega)).trans hu2
        have hv3 := (g6 (k + k2 - 1) (by omega)).trans hv2
        have w0 : IntKind.i64.wrap ((k2 : Int) - 1) = ((k2 - 1 : Nat) : Int) := by rw [wrap64_id (by omega) (by omega)]; omega
        have f1 := nm_get (m := m) hu3
        have f2 : (r.map nmV ++ spare 2 m)[k + (k2 - 1)]? = some (nmV v) := by rw [show k + (k2 - 1) = k + k2 - 1 by omega]; exact nm_get hv3
        refine AWP.regionO [0, 1, 2, 3, 4, 5, 6, 7, 8, 9] [] (by kernel_rfl) (by kernel_rfl) rfl ?_; simp only [go_sem, hset, List.set_set, List.length_set, w0, f1, f2, Int.toNat_natCast])
    | (
        refine AWP.here 12 45 8 rfl ?_
        have f3 : (r.map nmV ++ spare 2 m).set q (nmV u) = (r.set q u).map nmV ++ spare 2 m := nm_set (by omega)
        obtain ⟨z, hz⟩ : ∃ z, r[q]? = some z := ⟨_, List.getElem?_eq_getElem (by omega)⟩
        have f4 := nm_get (m := m) hz
        refine AWP.region ?_; simp only [go_sem, hset, List.set_set, List.length_set, f1, f3, f4, Int.toNat_natCast])
    | (
        refine AWP.here 13 52 3 rfl ?_
        have w0 : IntKind.i64.wrap ((q : Int) + 1) = ((q + 1 : Nat) : Int) := by rw [wrap64_id (by omega) (by omega)]; omega
        refine AWP.region ?_; simp only [go_sem, hset, List.set_set, List.length_set, w0])
    | (
        refine AWP.here 10 33 3 rfl ?_
        have w0 : IntKind.i64.wrap ((k2 : Int) + 1) = ((k2 + 1 : Nat) : Int) := by rw [wrap64_id (by omega) (by omega)]; omega
        refine AWP.region ?_; simp only [go_sem, hset, List.set_set, List.length_set, w0])
    | (
        refine AWP.here 7 26 4 rfl ?_
        refine AWP.regionL ?_
        refine AWPL.at 4 2 rfl ?_
        simp only [go_sem, hset, List.set_set, List.length_set]
        refine AWPL.sliceMu (e := 78) (k := 2) (l := k) (by kernel_rfl) (by kernel_rfl) (by rfl) (by rfl) (by omega) (by omega) (by omega) ?_
        simp only [go_sem, hset, List.set_set, List.length_set]
        refine AWPL.of ?_
        simp only [go_sem, hset, List.set_set, List.length_set])
    | (
        refine AWP.here 14 54 4 rfl ?_
        have hq : k + k2 = N := by omega
        have hcr : r.take q = cmpct l := by rw [g5, hq]; unfold cmpct; rw [hN]
        have hcl : (cmpct l).length = q := by rw [← hcr, List.length_take]; omega
        refine AWP.regionL ?_
        refine AWPL.at 4 2 rfl ?_
        simp only [go_sem, hset, List.set_set, List.length_set]
        refine AWPL.sliceMu (e := 78) (k := 2) (l := q) (by kernel_rfl) (by kernel_rfl) (by rfl) (by rfl) (by omega) (by omega) (by omega) ?_
        simp only [go_sem, hset, List.set_set, List.length_set]
        refine AWPL.clearMu (e := 78) (k := 2) (n := 32) (cap := N + m - q) (len := N - q - 1) (A := (cmpct l).map nmV) (B := (r.drop q).map nmV ++ spare 2 m) ap76 (by kernel_rfl) (by rw [List.length_map, hcl, show N - q - 1 + 1 = N - q by omega]; rfl) (by rw [hset, ← hcr, ← List.append_assoc, ← List.map_append, List.take_append_drop]) (by simp only [List.length_append, List.length_map, List.length_drop]; omega) ?_
        simp only [go_sem, hset, List.set_set, List.length_set]
        refine AWPL.of ?_
        simp only [go_sem, hset, List.set_set, List.length_set])
    | (refine AWP.region ?_; simp only [go_sem, hset, List.set_set, List.length_set])
    | (refine AWP.here 6 16 10 rfl ?_; refine AWP.regionO [0, 1, 2, 3, 4, 5, 6, 7, 8, 9] [] (by kernel_rfl) (by kernel_rfl) rfl ?_; simp only [go_sem, hset, List.set_set, List.length_set])
    | (refine AWP.here 11 35 10 rfl ?_; refine AWP.regionO [0, 1, 2, 3, 4, 5, 6, 7, 8, 9] [] (by kernel_rfl) (by kernel_rfl) rfl ?_; simp only [go_sem, hset, List.set_set, List.length_set])
    | (refine hK _ ?_; clear hK K)
    | refine AWP.block ?_
    | refine AWP.cond rfl (fun c => ?_) (fun c => ?_) <;> first | exact Bool.noConfusion c | (try simp only [dD] at c)
    | refine AWP.skip ?_
    | (refine AWP.exit ?_; simp only [go_sem, hset, List.set_set, List.length_set])
    | (refine AGet.haveM (by assumption) ?_; (try simp only [go_sem, hset, List.set_set, List.length_set]))
    | (refine AGet.have' (by assumption) ?_; (try simp only [go_sem, hset, List.set_set, List.length_set]))
    | ((first | refine AGet.nth ?_ (fun b hb => ?_) | refine AGet.nth1 ?_ (fun b hb => ?_) | with_reducible refine And.intro ?_ ?_); (focus (first | omega | assumption | exact List.length_pos_iff.2 (by assumption) | (simp only [List.length_append, List.length_cons, List.length_nil, List.length_map, List.length_take, List.length_drop] at *; omega) | (rw [wrap64_id (by omega) (by omega)]; omega) | (simp; done) | (simp [spare_len]; done) | (exact ⟨by omega, by omega⟩))); (try simp only [hb, go_sem, hset, List.set_set, List.length_set]))
    | (
        refine AWP.here 4 10 4 rfl ?_
        refine AWP.loopN (ι := Nat) [2, 4, 5, 10, 11, 12, 13, 14, 15, 16, 17, 18, 19, 20, 21, 22, 23, 24, 25, 26, 27, 28, 29, 30, 31, 32, 33, 34, 35, 36, 37, 38, 39, 40, 41, 42, 43, 44, 45, 46, 47, 48, 49, 50, 51, 52, 53, 54, 55, 56, 57, 58, 59] (fun (k : Nat) => [(3, i64 k)]) (fun (k : Nat) => 1 ≤ k ∧ k ≤ N ∧ cG l k = l.take k) (fun (k : Nat) => N - k) (1) ?_ ?_ ?_
        · (try simp only [go_sem]); (try simp only [List.set_set, List.length_set]); (repeat' (first | assumption | exact OwnBel.wk (hob _) | exact wkK_self | exact .inr ⟨rfl, decide_eq_true hid⟩ | exact .inr (decide_eq_true hid) | refine And.intro ?_ ?_ | exact .inl rfl | exact .inr rfl | exact .inr ⟨rfl, rfl⟩ | trivial | exact .inr (oblA rfl) | exact .inr ⟨rfl, oblA rfl⟩ | exact .inr bel_strs | exact .inr ⟨rfl, bel_strs⟩ | exact .inr ⟨by simp, bel_strs⟩ | (simp; done) | exact .inr ⟨rfl, by simp⟩ | exact .inr ⟨by simp, by simp⟩)); done
        · exact ⟨by omega, by omega, cG_one l⟩
        rintro k ⟨h1, h2, h3⟩
        simp only [go_sem, hset, List.set_set, List.length_set])
    | (
        refine AWP.here 9 29 4 rfl ?_
        refine AWP.loopM (ι := Nat × Nat × List Nm) [29, 30, 31, 32, 33, 34, 35, 36, 37, 38, 39, 40, 41, 42, 43, 44, 45, 46, 47, 48, 49, 50, 51, 52, 53] (fun ⟨k2, q, r⟩ => [(5, i64 k2), (3, i64 q)]) (fun ⟨k2, q, r⟩ => ow.set id (some (r.map nmV ++ spare 2 m))) (fun ⟨k2, q, r⟩ => tk) (fun ⟨k2, q, r⟩ => 1 ≤ k2 ∧ k + k2 ≤ N ∧ q + 1 ≤ k + k2 ∧ r.length = N ∧ r.take q = cG l (k + k2) ∧ (∀ j, k + k2 ≤ j + 1 → r[j]? = l[j]?) ∧ (cG l (k + k2)).length = q) (fun ⟨k2, q, r⟩ => N - k2) ((1, k, l)) ?_ ?_ ?_
        · (try simp only [go_sem]); (try simp only [List.set_set, List.length_set]); (repeat' (first | assumption | exact OwnBel.wk (hob _) | exact wkK_self | exact .inr ⟨rfl, decide_eq_true hid⟩ | exact .inr (decide_eq_true hid) | refine And.intro ?_ ?_ | exact .inl rfl | exact .inr rfl | exact .inr ⟨rfl, rfl⟩ | trivial | exact .inr (oblA rfl) | exact .inr ⟨rfl, oblA rfl⟩ | exact .inr bel_strs | exact .inr ⟨rfl, bel_strs⟩ | exact .inr ⟨by simp, bel_strs⟩ | (simp; done) | exact .inr ⟨rfl, by simp⟩ | exact .inr ⟨by simp, by simp⟩)); done
        · (have e1 := cG_yes (by omega) hx hy (nm_eq (by assumption)); exact ⟨by omega, by omega, by omega, hN, by rw [e1, h3], fun _ _ => rfl, by rw [e1, h3, List.length_take]; omega⟩)
        rintro ⟨k2, q, r⟩ ⟨g1, g2, g3, g4, g5, g6, g7⟩
        simp only [go_sem, hset, List.set_set, List.length_set])
    | (
        refine ⟨k + 1, ?_, ?_, ?_⟩
        · (try simp only [go_sem]); (try rw [wrap64_id (by omega) (by omega)]); (try simp only [List.set_set, List.length_set]); (repeat' (first | assumption | exact OwnBel.wk (hob _) | exact wkK_self | exact .inr ⟨rfl, decide_eq_true hid⟩ | exact .inr (decide_eq_true hid) | refine And.intro ?_ ?_ | exact .inl rfl | exact .inr rfl | exact .inr ⟨rfl, rfl⟩ | trivial | exact .inr (oblA rfl) | exact .inr ⟨rfl, oblA rfl⟩ | exact .inr bel_strs | exact .inr ⟨rfl, bel_strs⟩ | exact .inr ⟨by simp, bel_strs⟩ | (simp; done) | exact .inr ⟨rfl, by simp⟩ | exact .inr ⟨by simp, by simp⟩)); done
        · exact ⟨by omega, by omega, cp_next h1 h3 hx hy (nm_ne (by assumption))⟩
        · (try simp only []); omega)
    | (
        refine ⟨(k2 + 1, q + 1, r.set q u), ?_, ?_, ?_⟩
        · (try simp only [go_sem]); (try rw [wrap64_id (by omega) (by omega)]); (try simp only [List.set_set, List.length_set]); (repeat' (first | assumption | exact OwnBel.wk (hob _) | exact wkK_self | exact .inr ⟨rfl, decide_eq_true hid⟩ | exact .inr (decide_eq_true hid) | refine And.intro ?_ ?_ | exact .inl rfl | exact .inr rfl | exact .inr ⟨rfl, rfl⟩ | trivial | exact .inr (oblA rfl) | exact .inr ⟨rfl, oblA rfl⟩ | exact .inr bel_strs | exact .inr ⟨rfl, bel_strs⟩ | exact .inr ⟨by simp, bel_strs⟩ | (simp; done) | exact .inr ⟨rfl, by simp⟩ | exact .inr ⟨by simp, by simp⟩)); done
        · (try dsimp only); first
        | (have e1 := cG_no (l := l) (i := k + k2) (by omega) hu2 hv2 (nm_ne (by assumption)); exact ⟨by omega, by omega, by omega, by rw [List.length_set]; exact g4, by rw [show k + (k2 + 1) = k + k2 + 1 by omega, e1, ← g5]; exact take_set_next (by omega), fun j hj => by rw [List.getElem?_set_ne (by omega)]; exact g6 j (by omega), by rw [show k + (k2 + 1) = k + k2 + 1 by omega, e1, List.length_append, g7]; rfl⟩)
        | (have e1 := cG_yes (l := l) (i := k + k2) (by omega) hu2 hv2 (nm_eq (by assumption)); exact ⟨by omega, by omega, by omega, g4, by rw [show k + (k2 + 1) = k + k2 + 1 by omega, e1]; exact g5, fun j hj => g6 j (by omega), by rw [show k + (k2 + 1) = k + k2 + 1 by omega, e1]; exact g7⟩)
        · (try simp only []); omega)
    | (
        refine ⟨(k2 + 1, q, r), ?_, ?_, ?_⟩
        · (try simp only [go_sem]); (try rw [wrap64_id (by omega) (by omega)]); (try simp only [List.set_set, List.length_set]); (repeat' (first | assumption | exact OwnBel.wk (hob _) | exact wkK_self | exact .inr ⟨rfl, decide_eq_true hid⟩ | exact .inr (decide_eq_true hid) | refine And.intro ?_ ?_ | exact .inl rfl | exact .inr rfl | exact .inr ⟨rfl, rfl⟩ | trivial | exact .inr (oblA rfl) | exact .inr ⟨rfl, oblA rfl⟩ | exact .inr bel_strs | exact .inr ⟨rfl, bel_strs⟩ | exact .inr ⟨by simp, bel_strs⟩ | (simp; done) | exact .inr ⟨rfl, by simp⟩ | exact .inr ⟨by simp, by simp⟩)); done
        · (try dsimp only); first
        | (have e1 := cG_no (l := l) (i := k + k2) (by omega) hu2 hv2 (nm_ne (by assumption)); exact ⟨by omega, by omega, by omega, by rw [List.length_set]; exact g4, by rw [show k + (k2 + 1) = k + k2 + 1 by omega, e1, ← g5]; exact take_set_next (by omega), fun j hj => by rw [List.getElem?_set_ne (by omega)]; exact g6 j (by omega), by rw [show k + (k2 + 1) = k + k2 + 1 by omega, e1, List.length_append, g7]; rfl⟩)
        | (have e1 := cG_yes (l := l) (i := k + k2) (by omega) hu2 hv2 (nm_eq (by assumption)); exact ⟨by omega, by omega, by omega, g4, by rw [show k + (k2 + 1) = k + k2 + 1 by omega, e1]; exact g5, fun j hj => g6 j (by omega), by rw [show k + (k2 + 1) = k + k2 + 1 by omega, e1]; exact g7⟩)
        · (try simp only []); omega)
    | (
        first
        | (refine AWP.ret ?_
           (try simp only [inb_ret, athen_ret])
           (try simp only [List.set_set])
           exact hBr _ _ (by simp only [cmpct_short (show l.length < 2 by omega), hN]; rfl))
        | (refine AWP.ret ?_
           (try simp only [inb_ret, athen_ret])
           (try simp only [List.set_set])
           have e1 := cmpct_short (show l.length < 2 by omega)
           have e2 := hBr
           rw [e1, hN] at e2
           exact e2 _ _ rfl)
        | (refine AWP.ret ?_
           (try simp only [inb_ret, athen_ret])
           (try simp only [List.set_set])
           have e1 := cp_end (by omega) (by omega) h3
           have e2 := hBr
           rw [e1, hN] at e2
           exact e2 _ _ rfl)
        | (refine AWP.ret ?_
           (try simp only [inb_ret, athen_ret])
           (try simp only [List.set_set])
           have e2 := hBr
           rw [hcl] at e2
           exact e2 _ _ rfl))
    | refine AWP.fin (by assumption) ?_
    | fail)


end Go.Proofs.Ytajeeghgiilhiaa
