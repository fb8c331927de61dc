/- Texts of one chain, put together (T7, T8, G3, G4, G5, T9, K7, K1, K8, RwBase, RwBook, RwRight). -/
import Derived.Test.YtajeeghgiilhiaaGreatKrI
import Derived.Test.YtajeeghgiilhiaaGreatKrE
import Derived.Test.YtajeeghgiilhiaaGreatKrH
import Derived.Shelf.SlSortCmp.NoneTotal
import Derived.Test.YtajeeghgiilhiaaGreatKrG
import Derived.Test.YtajeeghgiilhiaaGreatRows
import Derived.Test.YtajeeghgiilhiaaGreatKrF
import Derived.Test.YtajeeghgiilhiaaGreatKrD
import Derived.ProofKit
import Derived.LaidMore
import Derived.OpenShut
import Derived.Stop.Joined
import Derived.HandedShaped
import Derived.Lib.SmallJoins
section
set_option linter.unusedVariables false
set_option linter.unusedSimpArgs false
namespace Go.Proofs.YtajeeghgiilhiaaGreat
open Go Go.Abs Go.RowKit Go.Bk
theorem srtF_sort (blk cap : Nat) (l : List Nm) (w : World) (hH : Go.Sort.HoldsK encN 2 w blk 0 l.toArray) (hb : blk < w.heap.size) (hl : l.length < 4611686018427387904) :
    Calls Tryz.prog 129 #[.slice (some ⟨blk, 0, none⟩) l.length cap, .func (.func 130) #[] #[]] w fun e w' => e = .returned (.tuple #[]) ∧ ∃ n os, w' = Go.Sort.grow (Go.Sort.putRowK encN 2 (Go.Sort.ahead w n) blk 0 (srtN l).toArray) os := by
  have h := Go.Proofs.AnyQ.slices_SortFunc_total Tryz.sortf129 2 Tryz.isAgg176 Tryz.sizeOf176 encN (fun _ => rfl) (fun x v hv => by
    simp only [encN, List.mem_cons, List.not_mem_nil, or_false] at hv
    rcases hv with rfl | rfl <;> rfl) cmpN ⟨ltN_irrefl, fun _ _ _ => ltN_trans, fun _ _ _ => ltN_nt⟩ 130 #[] blk 0 cap l.toArray w (Go.Proofs.enters_of Tryz.func130 (by kernel_rfl) rfl) (cmpLaysN _ _ _ _) hH hb hl (fun x y h1 h2 => ltN_ff h1 h2)
  exact h
theorem srtF_none (p : Option Addr) (cap : Nat) (w : World) : Calls Tryz.prog 129 #[.slice p 0 cap, .func (.func 130) #[] #[]] w fun e w' => e = .returned (.tuple #[]) ∧ w' = w := Go.Proofs.AnyF.slices_SortFunc_none Tryz.sortf129 p cap _ w
theorem srtF_call {ops : Array Oper} {rest : List Oper} {Q : Exit → St → Prop} {st : St} {dst : Option Tmp} {x : Operand} {tys : Array TypeId} {ty : TypeId} {pos : String} {after : Array Edge} {id cap : Nat} {l : List Nm} {sp : List AV}
    (hx : st.ev x = .mu id 2 0 l.length cap) (ho : st.own[id]? = some (some (l.map nmV ++ sp))) (hsz : l.length ≤ 1000000)
    (h : AWPL E ops rest Q (St.put { st with own := st.own.set id (some ((srtN l).map nmV ++ sp)) } dst (.tup []))) :
    AWPL E ops (⟨dst, .call ⟨.value (.func 129), #[x, .func 130], tys⟩, ty, pos, after, none⟩ :: rest) Q st :=
  AWPL.sortK encN 2 nmV (by decide) (fun _ => rfl) (fun _ => rfl) (fun x v hv => by
    simp only [encN, List.mem_cons, List.not_mem_nil, or_false] at hv
    rcases hv with rfl | rfl <;> rfl) (by kernel_rfl) rfl rfl srtN srtN_len srtF_sort srtF_none hx ho hsz h
theorem nm_get {l : List Nm} {m i : Nat} {x : Nm} (h : l[i]? = some x) : (l.map nmV ++ spare 2 m)[i]? = some (nmV x) := by
  rw [List.getElem?_append_left (by simpa using get_lt h), List.getElem?_map, h]; rfl
theorem nm_set {l : List Nm} {m i : Nat} {x : Nm} (h : i < l.length) : (l.map nmV ++ spare 2 m).set i (nmV x) = (l.set i x).map nmV ++ spare 2 m := by
  rw [List.set_append_left _ _ (by simpa using h), List.map_set]
theorem bel_nms {no nt m : Nat} {l : List Nm} : ∀ e ∈ l.map nmV ++ spare 2 m, ∀ z ∈ e.leaves, z.bel no nt = true := bel_row (f := nmV) (fun x z hz => by
  simp only [AV.leaves, List.mem_cons, List.not_mem_nil, or_false] at hz
  rcases hz with rfl | rfl <;> rfl) _ rfl
theorem nm_ne {x y : Nm} (h : x.1 = y.1 → ¬ x.2 = y.2) : ¬ x = y := fun e => h (congrArg Prod.fst e) (congrArg Prod.snd e)
theorem nm_eq {x y : Nm} (h : x.1 = y.1 ∧ x.2 = y.2) : x = y := Prod.ext h.1 h.2
theorem cp_next {l : List Nm} {k : Nat} {x y : Nm} (hk : 1 ≤ k) (h : cG l k = l.take k) (hx : l[k]? = some x) (hy : l[k - 1]? = some y) (hne : ¬ x = y) : cG l (k + 1) = l.take (k + 1) := by
  rw [cG_no (by omega) hx hy hne, h, take_next hx]
theorem cp_end {l : List Nm} {k : Nat} (hk : l.length ≤ k) (hk2 : k ≤ l.length) (h : cG l k = l.take k) : cmpct l = l := by
  have : k = l.length := by omega
  subst this; unfold cmpct; rw [h, List.take_length]
theorem take_set_next {l : List Nm} {q : Nat} {x : Nm} (h : q < l.length) : (l.set q x).take (q + 1) = l.take q ++ [x] := by
  rw [List.take_add_one, List.getElem?_set_self h, List.take_set_of_le (Nat.le_refl _)]; rfl

set_option maxRecDepth 100000 in
set_option maxHeartbeats 16000000 in
theorem cpt_call {ops : Array Oper} {l0 : List Oper} {Q : Exit → St → Prop} {tmps up : List AV} {gl : Nat → Option (List AV)} {own : List (Option (List AV))} {tk : List Nat} {dst : Option Tmp} {x0 : Operand} {tys : Array TypeId} {ty : TypeId} {pos : String} {after : Array Edge} {id m N : Nat} {l : List Nm}
    (hx0 : St.ev ⟨tmps, own, tk, gl, none, up⟩ x0 = .mu id 2 0 N (N + m)) (ho : own[id]? = some (some (l.map nmV ++ spare 2 m))) (hbu : (tmps ++ up).all (AV.bel own.length tk.length) = true) (hbo : OwnBel own own.length tk.length) (hl : N ≤ 1000000) (hN : l.length = N)
    (hend : ∀ m' : Nat, AWPL E ops l0 Q (St.put ⟨tmps, own.set id (some ((cmpct l).map nmV ++ spare 2 m')), tk, gl, none, up⟩ dst (.mu id 2 0 (cmpct l).length (N + m)))) :
    AWPL E ops (⟨dst, .call ⟨.value (.func 133), #[x0], tys⟩, ty, pos, after, none⟩ :: l0) Q ⟨tmps, own, tk, gl, none, up⟩ := by
  have hid := lt_of_get ho
  obtain ⟨ow, how⟩ : ∃ ow : List (Option (List AV)), own = ow.set id (some (l.map nmV ++ spare 2 m)) := ⟨own, (set_same ho).symm⟩
  subst how
  rw [List.length_set] at hid
  have hob : ∀ (d' : List Nm), OwnBel (ow.set id (some (d'.map nmV ++ spare 2 m))) ow.length tk.length := fun d' => by
    have := hbo.set (id := id) (bel_nms (l := d') (m := m)); rwa [List.set_set, List.length_set] at this
  rw [List.length_set] at hbu
  simp only [List.set_set] at hend
  refine AWPL.call (caps := []) (rs := [.tmp 2]) Tryz.func133 rfl Tryz.ntmps133 rfl (by kernel_rfl) rfl rfl ?_
  show AWP E _ _ ⟨([St.ev _ x0] ++ []) ++ List.replicate (61 - 1) (.v undef), _, tk, gl, none, tmps ++ up⟩
  rw [hx0]
  have hBr : ∀ (tm : List AV) (m' : Nat), tm[2]? = some (.mu id 2 0 (cmpct l).length (N + m)) → AInPost E.P [.tmp 2] ⟨tmps, ow.set id (some (l.map nmV ++ spare 2 m)), tk, gl, none, up⟩ (fun s z => AWPL E ops l0 Q (s.put dst z)) .ret ⟨tm, ow.set id (some ((cmpct l).map nmV ++ spare 2 m')), tk, gl, none, tmps ++ up⟩ := fun tm m' hu => by
    refine ⟨rfl, ?_⟩
    have gu : ∀ ow, St.ev ⟨tm, ow, tk, gl, none, tmps ++ up⟩ (.tmp 2) = .mu id 2 0 (cmpct l).length (N + m) := fun ow => by simp [St.ev, List.getD_eq_getElem?_getD, hu]
    show AWPL E ops l0 Q (St.put _ dst (tupOf [St.ev _ (.tmp 2)]))
    rw [gu]
    exact hend m'
  generalize AInPost E.P [.tmp 2] ⟨tmps, ow.set id (some (l.map nmV ++ spare 2 m)), tk, gl, none, up⟩ (fun s z => AWPL E ops l0 Q (s.put dst z)) = Q1 at hBr ⊢
  generalize tmps ++ up = up' at hbu hBr ⊢
  clear hend ho hbo hx0
  have hset : ∀ x, (ow.set id x)[id]? = some x := fun x => List.getElem?_set_self hid
  repeat' (first
    | refine AWP.seqk fun K hK => ?_
    | (
        refine AWP.here 6 16 10 rfl ?_
        obtain ⟨x, hx⟩ : ∃ x, l[k]? = some x := ⟨_, List.getElem?_eq_getElem (by omega)⟩
        obtain ⟨y, hy⟩ : ∃ y, l[k - 1]? = some y := ⟨_, List.getElem?_eq_getElem (by omega)⟩
        have w0 : IntKind.i64.wrap ((k : Int) - 1) = ((k - 1 : Nat) : Int) := by rw [wrap64_id (by omega) (by omega)]; omega
        have f1 := nm_get (m := m) hx
        have f2 := nm_get (m := m) hy
        refine AWP.regionO [0, 1, 2, 3, 4, 5, 6, 7, 8, 9] [] (by kernel_rfl) (by kernel_rfl) rfl ?_; simp only [go_sem, hset, List.set_set, List.length_set, w0, f1, f2, Int.toNat_natCast])
    | (
        refine AWP.here 11 35 10 rfl ?_
        obtain ⟨u, hu2⟩ : ∃ x, l[k + k2]? = some x := ⟨_, List.getElem?_eq_getElem (by omega)⟩
        obtain ⟨v, hv2⟩ : ∃ x, l[k + k2 - 1]? = some x := ⟨_, List.getElem?_eq_getElem (by omega)⟩
        have hu3 := (g6 (k + k2) (by omega)).trans hu2
        have hv3 := (g6 (k + k2 - 1) (by omega)).trans hv2
        have w0 : IntKind.i64.wrap ((k2 : Int) - 1) = ((k2 - 1 : Nat) : Int) := by rw [wrap64_id (by omega) (by omega)]; omega
        have f1 := nm_get (m := m) hu3
        have f2 : (r.map nmV ++ spare 2 m)[k + (k2 - 1)]? = some (nmV v) := by rw [show k + (k2 - 1) = k + k2 - 1 by omega]; exact nm_get hv3
        refine AWP.regionO [0, 1, 2, 3, 4, 5, 6, 7, 8, 9] [] (by kernel_rfl) (by kernel_rfl) rfl ?_; simp only [go_sem, hset, List.set_set, List.length_set, w0, f1, f2, Int.toNat_natCast])
    | (
        refine AWP.here 12 45 8 rfl ?_
        have f3 : (r.map nmV ++ spare 2 m).set q (nmV u) = (r.set q u).map nmV ++ spare 2 m := nm_set (by omega)
        obtain ⟨z, hz⟩ : ∃ z, r[q]? = some z := ⟨_, List.getElem?_eq_getElem (by omega)⟩
        have f4 := nm_get (m := m) hz
        refine AWP.region ?_; simp only [go_sem, hset, List.set_set, List.length_set, f1, f3, f4, Int.toNat_natCast])
    | (
        refine AWP.here 13 52 3 rfl ?_
        have w0 : IntKind.i64.wrap ((q : Int) + 1) = ((q + 1 : Nat) : Int) := by rw [wrap64_id (by omega) (by omega)]; omega
        refine AWP.region ?_; simp only [go_sem, hset, List.set_set, List.length_set, w0])
    | (
        refine AWP.here 10 33 3 rfl ?_
        have w0 : IntKind.i64.wrap ((k2 : Int) + 1) = ((k2 + 1 : Nat) : Int) := by rw [wrap64_id (by omega) (by omega)]; omega
        refine AWP.region ?_; simp only [go_sem, hset, List.set_set, List.length_set, w0])
    | (
        refine AWP.here 7 26 4 rfl ?_
        refine AWP.regionL ?_
        refine AWPL.at 4 2 rfl ?_
        simp only [go_sem, hset, List.set_set, List.length_set]
        refine AWPL.sliceMu (e := 176) (k := 2) (l := k) (by kernel_rfl) (by kernel_rfl) (by rfl) (by rfl) (by omega) (by omega) (by omega) ?_
        simp only [go_sem, hset, List.set_set, List.length_set]
        refine AWPL.of ?_
        simp only [go_sem, hset, List.set_set, List.length_set])
    | (
        refine AWP.here 14 54 4 rfl ?_
        have hq : k + k2 = N := by omega
        have hcr : r.take q = cmpct l := by rw [g5, hq]; unfold cmpct; rw [hN]
        have hcl : (cmpct l).length = q := by rw [← hcr, List.length_take]; omega
        refine AWP.regionL ?_
        refine AWPL.at 4 2 rfl ?_
        simp only [go_sem, hset, List.set_set, List.length_set]
        refine AWPL.sliceMu (e := 176) (k := 2) (l := q) (by kernel_rfl) (by kernel_rfl) (by rfl) (by rfl) (by omega) (by omega) (by omega) ?_
        simp only [go_sem, hset, List.set_set, List.length_set]
        refine AWPL.clearMu (e := 176) (k := 2) (n := 32) (cap := N + m - q) (len := N - q - 1) (A := (cmpct l).map nmV) (B := (r.drop q).map nmV ++ spare 2 m) ap174 (by kernel_rfl) (by rw [List.length_map, hcl, show N - q - 1 + 1 = N - q by omega]; rfl) (by rw [hset, ← hcr, ← List.append_assoc, ← List.map_append, List.take_append_drop]) (by simp only [List.length_append, List.length_map, List.length_drop]; omega) ?_
        simp only [go_sem, hset, List.set_set, List.length_set]
        refine AWPL.of ?_
        simp only [go_sem, hset, List.set_set, List.length_set])
    | (refine AWP.region ?_; simp only [go_sem, hset, List.set_set, List.length_set])
    | (refine AWP.here 6 16 10 rfl ?_; refine AWP.regionO [0, 1, 2, 3, 4, 5, 6, 7, 8, 9] [] (by kernel_rfl) (by kernel_rfl) rfl ?_; simp only [go_sem, hset, List.set_set, List.length_set])
    | (refine AWP.here 11 35 10 rfl ?_; refine AWP.regionO [0, 1, 2, 3, 4, 5, 6, 7, 8, 9] [] (by kernel_rfl) (by kernel_rfl) rfl ?_; simp only [go_sem, hset, List.set_set, List.length_set])
    | (refine hK _ ?_; clear hK K)
    | refine AWP.block ?_
    | refine AWP.cond rfl (fun c => ?_) (fun c => ?_) <;> first | exact Bool.noConfusion c | (try simp only [dD] at c)
    | refine AWP.skip ?_
    | (refine AWP.exit ?_; simp only [go_sem, hset, List.set_set, List.length_set])
    | (refine AGet.haveM (by assumption) ?_; (try simp only [go_sem, hset, List.set_set, List.length_set]))
    | (refine AGet.have' (by assumption) ?_; (try simp only [go_sem, hset, List.set_set, List.length_set]))
    | ((first | refine AGet.nth ?_ (fun b hb => ?_) | refine AGet.nth1 ?_ (fun b hb => ?_) | with_reducible refine And.intro ?_ ?_); (focus (first | omega | assumption | exact List.length_pos_iff.2 (by assumption) | (simp only [List.length_append, List.length_cons, List.length_nil, List.length_map, List.length_take, List.length_drop] at *; omega) | (rw [wrap64_id (by omega) (by omega)]; omega) | (simp; done) | (simp [spare_len]; done) | (exact ⟨by omega, by omega⟩))); (try simp only [hb, go_sem, hset, List.set_set, List.length_set]))
    | (
        refine AWP.here 4 10 4 rfl ?_
        refine AWP.loopN (ι := Nat) [2, 4, 5, 10, 11, 12, 13, 14, 15, 16, 17, 18, 19, 20, 21, 22, 23, 24, 25, 26, 27, 28, 29, 30, 31, 32, 33, 34, 35, 36, 37, 38, 39, 40, 41, 42, 43, 44, 45, 46, 47, 48, 49, 50, 51, 52, 53, 54, 55, 56, 57, 58, 59] (fun (k : Nat) => [(3, i64 k)]) (fun (k : Nat) => 1 ≤ k ∧ k ≤ N ∧ cG l k = l.take k) (fun (k : Nat) => N - k) (1) ?_ ?_ ?_
        · (try simp only [go_sem]); (try simp only [List.set_set, List.length_set]); (repeat' (first | assumption | exact OwnBel.wk (hob _) | exact wkK_self | exact .inr ⟨rfl, decide_eq_true hid⟩ | exact .inr (decide_eq_true hid) | refine And.intro ?_ ?_ | exact .inl rfl | exact .inr rfl | exact .inr ⟨rfl, rfl⟩ | trivial | exact .inr (oblA rfl) | exact .inr ⟨rfl, oblA rfl⟩ | exact .inr bel_strs | exact .inr ⟨rfl, bel_strs⟩ | exact .inr ⟨by simp, bel_strs⟩ | (simp; done) | exact .inr ⟨rfl, by simp⟩ | exact .inr ⟨by simp, by simp⟩)); done
        · exact ⟨by omega, by omega, cG_one l⟩
        rintro k ⟨h1, h2, h3⟩
        simp only [go_sem, hset, List.set_set, List.length_set])
    | (
        refine AWP.here 9 29 4 rfl ?_
        refine AWP.loopM (ι := Nat × Nat × List Nm) [29, 30, 31, 32, 33, 34, 35, 36, 37, 38, 39, 40, 41, 42, 43, 44, 45, 46, 47, 48, 49, 50, 51, 52, 53] (fun ⟨k2, q, r⟩ => [(5, i64 k2), (3, i64 q)]) (fun ⟨k2, q, r⟩ => ow.set id (some (r.map nmV ++ spare 2 m))) (fun ⟨k2, q, r⟩ => tk) (fun ⟨k2, q, r⟩ => 1 ≤ k2 ∧ k + k2 ≤ N ∧ q + 1 ≤ k + k2 ∧ r.length = N ∧ r.take q = cG l (k + k2) ∧ (∀ j, k + k2 ≤ j + 1 → r[j]? = l[j]?) ∧ (cG l (k + k2)).length = q) (fun ⟨k2, q, r⟩ => N - k2) ((1, k, l)) ?_ ?_ ?_
        · (try simp only [go_sem]); (try simp only [List.set_set, List.length_set]); (repeat' (first | assumption | exact OwnBel.wk (hob _) | exact wkK_self | exact .inr ⟨rfl, decide_eq_true hid⟩ | exact .inr (decide_eq_true hid) | refine And.intro ?_ ?_ | exact .inl rfl | exact .inr rfl | exact .inr ⟨rfl, rfl⟩ | trivial | exact .inr (oblA rfl) | exact .inr ⟨rfl, oblA rfl⟩ | exact .inr bel_strs | exact .inr ⟨rfl, bel_strs⟩ | exact .inr ⟨by simp, bel_strs⟩ | (simp; done) | exact .inr ⟨rfl, by simp⟩ | exact .inr ⟨by simp, by simp⟩)); done
        · (have e1 := cG_yes (by omega) hx hy (nm_eq (by assumption)); exact ⟨by omega, by omega, by omega, hN, by rw [e1, h3], fun _ _ => rfl, by rw [e1, h3, List.length_take]; omega⟩)
        rintro ⟨k2, q, r⟩ ⟨g1, g2, g3, g4, g5, g6, g7⟩
        simp only [go_sem, hset, List.set_set, List.length_set])
    | (
        refine ⟨k + 1, ?_, ?_, ?_⟩
        · (try simp only [go_sem]); (try rw [wrap64_id (by omega) (by omega)]); (try simp only [List.set_set, List.length_set]); (repeat' (first | assumption | exact OwnBel.wk (hob _) | exact wkK_self | exact .inr ⟨rfl, decide_eq_true hid⟩ | exact .inr (decide_eq_true hid) | refine And.intro ?_ ?_ | exact .inl rfl | exact .inr rfl | exact .inr ⟨rfl, rfl⟩ | trivial | exact .inr (oblA rfl) | exact .inr ⟨rfl, oblA rfl⟩ | exact .inr bel_strs | exact .inr ⟨rfl, bel_strs⟩ | exact .inr ⟨by simp, bel_strs⟩ | (simp; done) | exact .inr ⟨rfl, by simp⟩ | exact .inr ⟨by simp, by simp⟩)); done
        · exact ⟨by omega, by omega, cp_next h1 h3 hx hy (nm_ne (by assumption))⟩
        · (try simp only []); omega)
    | (
        refine ⟨(k2 + 1, q + 1, r.set q u), ?_, ?_, ?_⟩
        · (try simp only [go_sem]); (try rw [wrap64_id (by omega) (by omega)]); (try simp only [List.set_set, List.length_set]); (repeat' (first | assumption | exact OwnBel.wk (hob _) | exact wkK_self | exact .inr ⟨rfl, decide_eq_true hid⟩ | exact .inr (decide_eq_true hid) | refine And.intro ?_ ?_ | exact .inl rfl | exact .inr rfl | exact .inr ⟨rfl, rfl⟩ | trivial | exact .inr (oblA rfl) | exact .inr ⟨rfl, oblA rfl⟩ | exact .inr bel_strs | exact .inr ⟨rfl, bel_strs⟩ | exact .inr ⟨by simp, bel_strs⟩ | (simp; done) | exact .inr ⟨rfl, by simp⟩ | exact .inr ⟨by simp, by simp⟩)); done
        · (try dsimp only); first
        | (have e1 := cG_no (l := l) (i := k + k2) (by omega) hu2 hv2 (nm_ne (by assumption)); exact ⟨by omega, by omega, by omega, by rw [List.length_set]; exact g4, by rw [show k + (k2 + 1) = k + k2 + 1 by omega, e1, ← g5]; exact take_set_next (by omega), fun j hj => by rw [List.getElem?_set_ne (by omega)]; exact g6 j (by omega), by rw [show k + (k2 + 1) = k + k2 + 1 by omega, e1, List.length_append, g7]; rfl⟩)
        | (have e1 := cG_yes (l := l) (i := k + k2) (by omega) hu2 hv2 (nm_eq (by assumption)); exact ⟨by omega, by omega, by omega, g4, by rw [show k + (k2 + 1) = k + k2 + 1 by omega, e1]; exact g5, fun j hj => g6 j (by omega), by rw [show k + (k2 + 1) = k + k2 + 1 by omega, e1]; exact g7⟩)
        · (try simp only []); omega)
    | (
        refine ⟨(k2 + 1, q, r), ?_, ?_, ?_⟩
        · (try simp only [go_sem]); (try rw [wrap64_id (by omega) (by omega)]); (try simp only [List.set_set, List.length_set]); (repeat' (first | assumption | exact OwnBel.wk (hob _) | exact wkK_self | exact .inr ⟨rfl, decide_eq_true hid⟩ | exact .inr (decide_eq_true hid) | refine And.intro ?_ ?_ | exact .inl rfl | exact .inr rfl | exact .inr ⟨rfl, rfl⟩ | trivial | exact .inr (oblA rfl) | exact .inr ⟨rfl, oblA rfl⟩ | exact .inr bel_strs | exact .inr ⟨rfl, bel_strs⟩ | exact .inr ⟨by simp, bel_strs⟩ | (simp; done) | exact .inr ⟨rfl, by simp⟩ | exact .inr ⟨by simp, by simp⟩)); done
        · (try dsimp only); first
        | (have e1 := cG_no (l := l) (i := k + k2) (by omega) hu2 hv2 (nm_ne (by assumption)); exact ⟨by omega, by omega, by omega, by rw [List.length_set]; exact g4, by rw [show k + (k2 + 1) = k + k2 + 1 by omega, e1, ← g5]; exact take_set_next (by omega), fun j hj => by rw [List.getElem?_set_ne (by omega)]; exact g6 j (by omega), by rw [show k + (k2 + 1) = k + k2 + 1 by omega, e1, List.length_append, g7]; rfl⟩)
        | (have e1 := cG_yes (l := l) (i := k + k2) (by omega) hu2 hv2 (nm_eq (by assumption)); exact ⟨by omega, by omega, by omega, g4, by rw [show k + (k2 + 1) = k + k2 + 1 by omega, e1]; exact g5, fun j hj => g6 j (by omega), by rw [show k + (k2 + 1) = k + k2 + 1 by omega, e1]; exact g7⟩)
        · (try simp only []); omega)
    | (
        first
        | (refine AWP.ret ?_
           (try simp only [inb_ret, athen_ret])
           (try simp only [List.set_set])
           exact hBr _ _ (by simp only [cmpct_short (show l.length < 2 by omega), hN]; rfl))
        | (refine AWP.ret ?_
           (try simp only [inb_ret, athen_ret])
           (try simp only [List.set_set])
           have e1 := cmpct_short (show l.length < 2 by omega)
           have e2 := hBr
           rw [e1, hN] at e2
           exact e2 _ _ rfl)
        | (refine AWP.ret ?_
           (try simp only [inb_ret, athen_ret])
           (try simp only [List.set_set])
           have e1 := cp_end (by omega) (by omega) h3
           have e2 := hBr
           rw [e1, hN] at e2
           exact e2 _ _ rfl)
        | (refine AWP.ret ?_
           (try simp only [inb_ret, athen_ret])
           (try simp only [List.set_set])
           have e2 := hBr
           rw [hcl] at e2
           exact e2 _ _ rfl))
    | refine AWP.fin (by assumption) ?_
    | fail)


end Go.Proofs.YtajeeghgiilhiaaGreat
end
section
set_option linter.unusedVariables false
set_option linter.unusedSimpArgs false
namespace Go.Proofs.YtajeeghgiilhiaaGreat
open Go Go.Abs Go.RowKit Go.Bk
theorem bel_nmsE {no nt m : Nat} {l : List Nm} : ∀ es, some (l.map nmV ++ spare 2 m) = some es → ∀ e ∈ es, ∀ z ∈ e.leaves, z.bel no nt = true := bel_row fun x z hz => by
  simp only [AV.leaves, List.mem_cons, List.not_mem_nil, or_false] at hz
  rcases hz with rfl | rfl <;> rfl
theorem nm_take {l : List Nm} {m : Nat} : (l.map nmV ++ spare 2 m).take l.length = l.map nmV := List.take_left' (by simp)
theorem nm_snoc {l : List Nm} {a s : Bs} : l.map nmV ++ [.agg [str a, str s]] = (l ++ [(a, s)]).map nmV := by simp
@[go_sem] theorem ren_nms {σ : Nat → Option Nat} {l : List Nm} {m : Nat} : (l.map nmV ++ spare 2 m).map (AV.ren σ) = l.map nmV ++ spare 2 m := ren_row fun _ => rfl

set_option maxHeartbeats 16000000 in
set_option maxRecDepth 8000 in
theorem lall_c (bk : Bk) (ho : bk.orders.length ≤ 9223372036854775807) (hf : bk.fills.length ≤ 1000000) (hi : bk.ids.length ≤ 9223372036854775807) : ACalls E 56 [bkV bk] (fun r t => r = posV (allP bk) ∧ t = []) := by -- checkroll/ledger.All
  have hnlen : (nmsB bk).length = bk.fills.length := List.length_map _
  have hcl := cmpct_len (srtN (nmsB bk))
  rw [srtN_len] at hcl
  refine ACalls.of_awp (n := 48) (rs := [.tmp 2]) Tryz.func56 rfl Tryz.ntmps56 rfl ?_
  repeat' (first
    | refine AWP.seqk fun K hK => ?_
    | (
        refine AWP.here 6 17 4 rfl ?_
        obtain ⟨f, hb⟩ : ∃ f, bk.fills[i]? = some f := ⟨_, List.getElem?_eq_getElem (by omega)⟩
        refine AWP.region ?_; simp only [go_sem])
    | (
        refine AWP.here 8 27 2 rfl ?_
        rw [nm_take, nm_snoc]
        refine AWP.renum [0, 3] (by decide) rfl rfl ?_
        simp only [go_sem]
        refine AWP.region ?_; simp only [go_sem])
    | (
        refine AWP.here 13 35 4 rfl ?_
        obtain ⟨n, hn⟩ : ∃ n, (cmpct (srtN (nmsB bk)))[j]? = some n := ⟨_, List.getElem?_eq_getElem (by omega)⟩
        have f1 := nm_get (m := m') hn
        refine AWP.region ?_; simp only [go_sem, f1, Int.toNat_natCast])
    | (
        refine AWP.here 9 28 2 rfl ?_
        have hnl : nl = nmsB bk := by rw [h4, List.take_of_length_le (by omega)]; rfl
        rw [hnl]
        refine AWP.regionL ?_
        refine AWPL.at 2 1 rfl ?_
        simp only [go_sem]
        (repeat (refine ⟨⟨_, rfl⟩, ?_⟩))
        refine srtF_call (id := 1) (l := nmsB bk) (by rfl) (by rfl) (by omega) ?_
        simp only [go_sem]
        refine AWPL.of ?_
        simp only [go_sem])
    | (
        refine AWP.here 11 30 4 rfl ?_
        refine AWP.regionL ?_
        refine AWPL.at 4 1 rfl ?_
        simp only [go_sem]
        refine cpt_call (id := 1) (m := m) (N := (nmsB bk).length) (l := srtN (nmsB bk)) (by rfl) (by rfl) (by first | rfl | (simp [AV.bel, AV.bel2, AV.bel1]; done)) (by (repeat' (first | exact OwnBel.nil | refine OwnBel.cons ?_ ?_)) <;> (intro es h; first | (cases h; exact bel_nms) | (cases h; simp [AV.leaves, AV.bel, AV.bel2, AV.bel1]))) (by omega) (srtN_len _) ?_
        intro m'
        simp only [go_sem]
        refine AWPL.of ?_
        simp only [go_sem]
        (repeat (refine ⟨⟨_, rfl⟩, ?_⟩)))
    | (refine AWP.region ?_; simp only [go_sem])
    | (refine hK _ ?_; clear hK K)
    | refine AWP.block ?_
    | refine AWP.cond rfl (fun c => ?_) (fun c => ?_) <;> first | exact Bool.noConfusion c | (try simp only [dD] at c)
    | refine AWP.skip ?_
    | (refine AWP.exit ?_; simp only [go_sem])
    | (refine ACall.one (bright_c bk ho (by omega) hi) (by kernel_rfl) rfl ?_; simp only [go_sem])
    | (refine ACall.one (lof_c bk n.1 n.2 ho (by omega) hi) (by kernel_rfl) rfl ?_; simp only [go_sem])
    | (refine AGet.haveM (by assumption) ?_; (try simp only [go_sem]))
    | (refine AGet.have' (by assumption) ?_; (try simp only [go_sem]))
    | ((first | refine AGet.nth ?_ (fun b hb => ?_) | refine AGet.nth1 ?_ (fun b hb => ?_) | with_reducible refine And.intro ?_ ?_); (focus (first | omega | assumption | exact List.length_pos_iff.2 (by assumption) | (simp only [List.length_append, List.length_cons, List.length_nil, List.length_map, List.length_take, List.length_drop] at *; omega) | (rw [wrap64_id (by omega) (by omega)]; omega) | (simp; done) | (simp [spare_len]; done) | (exact ⟨by omega, by omega⟩))); (try simp only [hb, go_sem]))
    | (
        refine AWP.here 5 16 1 rfl ?_
        refine AWP.nilMu 3 2 rfl ?_
        simp only [go_sem]
        refine AWP.loopM (ι := Nat × List Nm × Nat) [5, 16, 17, 18, 19, 20, 21, 22, 23, 24, 25, 26, 27] (fun ⟨i, nl, m⟩ => [(15, i64 i), (3, .mu 1 2 0 nl.length (nl.length + m))]) (fun ⟨i, nl, m⟩ => [some [.agg [odsV bk.orders, dnsV bk.fills, .sl none 1 (bk.ids.map str), i64 bk.clock, i64 bk.bad]], some (nl.map nmV ++ spare 2 m)]) (fun ⟨i, nl, m⟩ => []) (fun ⟨i, nl, m⟩ => i ≤ bk.fills.length ∧ nl = (bk.fills.take i).map fun f => (f.acc, f.sym)) (fun ⟨i, nl, m⟩ => bk.fills.length - i) ((0, [], 0)) ?_ ?_ ?_
        · (try simp only [go_sem]); (repeat' (first | exact .inr bel_nmsE | exact .inr ⟨rfl, bel_nmsE⟩ | exact .inr ⟨by simp, bel_nmsE⟩ | refine And.intro ?_ ?_ | exact .inl rfl | exact .inr rfl | exact .inr ⟨rfl, rfl⟩ | trivial | exact .inr (oblA rfl) | exact .inr ⟨rfl, oblA rfl⟩ | exact .inr bel_strs | exact .inr ⟨rfl, bel_strs⟩ | exact .inr ⟨by simp, bel_strs⟩ | (simp; done) | exact .inr ⟨rfl, by simp⟩ | exact .inr ⟨by simp, by simp⟩)); done
        · exact ⟨by omega, rfl⟩
        rintro ⟨i, nl, m⟩ ⟨h3, h4⟩
        simp only [go_sem]
        have hll : nl.length = i := by rw [h4, List.length_map, List.length_take]; omega)
    | (
        refine AWP.here 12 34 1 rfl ?_
        refine AWP.nilTok 6 5 rfl ?_
        simp only [go_sem]
        refine AWP.loopM (ι := Nat × List Po) [8, 34, 35, 36, 37, 38, 39, 40, 41, 42, 43, 44, 45, 46] (fun ⟨j, out⟩ => [(33, i64 j), (6, .sl (some 0) 5 (out.map poV))]) (fun ⟨j, out⟩ => [some [.agg [odsV bk.orders, dnsV bk.fills, .sl none 1 (bk.ids.map str), i64 bk.clock, i64 bk.bad]], some ((cmpct (srtN (nmsB bk))).map nmV ++ spare 2 m')]) (fun ⟨j, out⟩ => [out.length]) (fun ⟨j, out⟩ => j ≤ (cmpct (srtN (nmsB bk))).length ∧ out = ((cmpct (srtN (nmsB bk))).take j).map fun n => posF bk n.1 n.2) (fun ⟨j, out⟩ => (cmpct (srtN (nmsB bk))).length - j) ((0, [])) ?_ ?_ ?_
        · (try simp only [go_sem]); (repeat' (first | exact .inr bel_nmsE | exact .inr ⟨rfl, bel_nmsE⟩ | exact .inr ⟨by simp, bel_nmsE⟩ | refine And.intro ?_ ?_ | exact .inl rfl | exact .inr rfl | exact .inr ⟨rfl, rfl⟩ | trivial | exact .inr (oblA rfl) | exact .inr ⟨rfl, oblA rfl⟩ | exact .inr bel_strs | exact .inr ⟨rfl, bel_strs⟩ | exact .inr ⟨by simp, bel_strs⟩ | (simp; done) | exact .inr ⟨rfl, by simp⟩ | exact .inr ⟨by simp, by simp⟩)); done
        · exact ⟨by omega, rfl⟩
        rintro ⟨j, out⟩ ⟨g1, g2⟩
        simp only [go_sem]
        have hol : out.length = j := by rw [g2, List.length_map, List.length_take]; omega)
    | (
        refine ⟨(i + 1, nl ++ [(f.acc, f.sym)], mm), ?_, ⟨by show i + 1 ≤ _; omega, by show nl ++ [(f.acc, f.sym)] = (bk.fills.take (i + 1)).map _; rw [h4, take_next hb]; simp⟩, by show bk.fills.length - (i + 1) < bk.fills.length - i; omega⟩
        (try simp only [go_sem]); (try rw [wrap64_id (by omega) (by omega)]); (try simp only [List.length_append, List.length_singleton]); (repeat' (first | exact .inr bel_nmsE | exact .inr ⟨rfl, bel_nmsE⟩ | exact .inr ⟨by simp, bel_nmsE⟩ | refine And.intro ?_ ?_ | exact .inl rfl | exact .inr rfl | exact .inr ⟨rfl, rfl⟩ | trivial | exact .inr (oblA rfl) | exact .inr ⟨rfl, oblA rfl⟩ | exact .inr bel_strs | exact .inr ⟨rfl, bel_strs⟩ | exact .inr ⟨by simp, bel_strs⟩ | (simp; done) | exact .inr ⟨rfl, by simp⟩ | exact .inr ⟨by simp, by simp⟩)); done)
    | (
        refine ⟨(j + 1, out ++ [posF bk n.1 n.2]), ?_, ⟨by show j + 1 ≤ _; omega, by show out ++ [posF bk n.1 n.2] = (List.take (j + 1) _).map _; rw [g2, take_next hn]; simp⟩, by show _ - (j + 1) < _ - j; omega⟩
        (try simp only [go_sem]); (try rw [wrap64_id (by omega) (by omega)]); (try simp only [List.map_append, List.map_cons, List.map_nil, List.length_append, List.length_singleton]); (repeat' (first | exact .inr bel_nmsE | exact .inr ⟨rfl, bel_nmsE⟩ | exact .inr ⟨by simp, bel_nmsE⟩ | refine And.intro ?_ ?_ | exact .inl rfl | exact .inr rfl | exact .inr ⟨rfl, rfl⟩ | trivial | exact .inr (oblA rfl) | exact .inr ⟨rfl, oblA rfl⟩ | exact .inr bel_strs | exact .inr ⟨rfl, bel_strs⟩ | exact .inr ⟨by simp, bel_strs⟩ | (simp; done) | exact .inr ⟨rfl, by simp⟩ | exact .inr ⟨by simp, by simp⟩)); done)
    | (
        refine AWP.ret ?_
        refine AEnd.is ?_; simp only [go_sem, out_v, out_s, out_n, v_int, v_bool, v_str] <;> (first | (unfold allP; rw [if_neg (by simp_all)]; first | exact trivial | (simp; done)) | (unfold allP; rw [if_pos (by assumption), g2, List.take_of_length_le (by omega)]; done) | skip))
    | (refine fun (mm : Nat) => ?_; simp only [go_sem])
    | refine AWP.fin (by assumption) ?_
    | fail)


end Go.Proofs.YtajeeghgiilhiaaGreat
end
section
set_option linter.unusedVariables false
set_option linter.unusedSimpArgs false
namespace Go.Proofs.YtajeeghgiilhiaaGreat
open Go Go.Abs Go.RowKit Go.Bk
end Go.Proofs.YtajeeghgiilhiaaGreat
end
section
set_option linter.unusedVariables false
set_option linter.unusedSimpArgs false
namespace Go.Proofs.YtajeeghgiilhiaaGreat
open Go Go.Abs Go.RowKit Go.Bk

end Go.Proofs.YtajeeghgiilhiaaGreat
end
section
set_option linter.unusedVariables false
set_option linter.unusedSimpArgs false
namespace Go.Proofs.YtajeeghgiilhiaaGreat
open Go Go.Abs Go.RowKit Go.Bk
theorem dclone_p (l : List Dn) (hl : l.length ≤ 1000000) : ACalls E 127 [.sl none 9 (l.map dnV)] (fun r t => r = .sl none 9 (l.map dnV) ∧ t = []) := (dclone_c l hl).untok
theorem sclone_p (l : List Bs) (hl : l.length ≤ 1000000) : ACalls E 128 [.sl none 1 (l.map str)] (fun r t => r = .sl none 1 (l.map str) ∧ t = []) := (sclone_c l hl).untok

end Go.Proofs.YtajeeghgiilhiaaGreat
end
section
set_option linter.unusedVariables false
set_option linter.unusedSimpArgs false
namespace Go.Proofs.YtajeeghgiilhiaaGreat
open Go Go.Abs Go.RowKit Go.Bk
theorem vr_nilHead {im : Im} {k : Nat} {cs : List AV} {v : Value} (h : VR0 im (.agg (.nilS :: cs)) v) : VR0 im (.agg (.sl none k [] :: cs)) v := by
  cases h with
  | agg _ vs hn h =>
    refine .agg _ vs hn (fun i c u hc hu => ?_)
    cases i with
    | zero => cases hc; exact (h 0 .nilS u rfl hu).of_nil
    | succ i => exact h (i + 1) c u hc hu
theorem aw_fl1 : ((awN.fills.length : Nat) : Int) = 1 := rfl
theorem aw_fl0 : awN.fills[0]? = some ⟨[98], [], [99], [115], true, 2, 6, 15, true⟩ := rfl
theorem nil_arg1 {f : FuncId} {cs : List AV} {k : Nat} {R : AV → List Nat → Prop} (h : ACalls E f [.agg (.sl none k [] :: cs)] R) : ACalls E f [.agg (.nilS :: cs)] R := by
  intro w im vs h0 hg h1 h2
  refine h w im vs h0 hg h1 ?_
  obtain ⟨hn, hp⟩ := h2
  refine ⟨hn, fun i x v hx hv => ?_⟩
  rcases i with _ | i
  · cases hx
    exact vr_nilHead (hp 0 _ v rfl hv)
  · simp at hx
theorem lall_n (bk : Bk) (ho : bk.orders = []) (hf : bk.fills.length ≤ 1000000) (hi : bk.ids.length ≤ 9223372036854775807) : ACalls E 56 [.agg [.nilS, dnsV bk.fills, .sl none 1 (bk.ids.map str), i64 bk.clock, i64 bk.bad]] (fun r t => r = posV (allP bk) ∧ t = []) := by
  obtain ⟨od, fl, ids, cl, bad⟩ := bk
  simp only at ho
  subst ho
  intro w im vs h0 hg h1 h2
  refine lall_c _ (by simp) hf hi w im vs h0 hg h1 ?_
  obtain ⟨hn, hp⟩ := h2
  refine ⟨hn, fun i x v hx hv => ?_⟩
  rcases i with _ | i
  · cases hx
    exact vr_nilHead (k := 8) (hp 0 _ v rfl hv)
  · simp at hx
def samePs (a d : List Po) : Bool := decide (a.length = d.length) && (List.zipWith (fun x y : Po => decide (x.acc = y.acc) && decide (x.sym = y.sym) && decide (x.qty = y.qty) && decide (x.value = y.value) && decide (x.over = y.over)) a d).all id
theorem po_beq {x y : Po} : (decide (x.acc = y.acc) && decide (x.sym = y.sym) && decide (x.qty = y.qty) && decide (x.value = y.value) && decide (x.over = y.over)) = true ↔ x = y := by
  cases x; cases y; simp [and_assoc]
theorem same_iff : ∀ {a d : List Po}, samePs a d = true ↔ a = d
  | [], [] => by simp [samePs]
  | [], y :: d => by simp [samePs]
  | x :: a, [] => by simp [samePs]
  | x :: a, y :: d => by
    have ih := same_iff (a := a) (d := d)
    unfold samePs at *
    simp only [List.length_cons, List.zipWith_cons_cons, List.all_cons, id, Bool.and_eq_true, decide_eq_true_eq, Nat.add_right_cancel_iff, List.cons.injEq] at *
    rw [← ih]
    have := po_beq (x := x) (y := y)
    simp only [Bool.and_eq_true, decide_eq_true_eq] at this
    rw [← this]
    exact ⟨fun h => ⟨h.2.1, h.1, h.2.2⟩, fun h => ⟨h.2.1, h.1, h.2.2⟩⟩
theorem same_len {a d : List Po} (h : ¬ a.length = d.length) : samePs a d = false := by unfold samePs; rw [decide_eq_false h]; rfl
theorem same_at {a d : List Po} {i : Nat} {x y : Po} (hx : a[i]? = some x) (hy : d[i]? = some y) (h : ¬ x = y) : samePs a d = false := by
  cases e : samePs a d with
  | false => rfl
  | true =>
    have := same_iff.1 e
    subst this; rw [hx] at hy; exact absurd (Option.some.inj hy) h
theorem same_end {a d : List Po} {i : Nat} (hi : a.length ≤ i) (h : a.length = d.length) (h2 : a.take i = d.take i) : samePs a d = true := by
  rw [List.take_of_length_le hi, List.take_of_length_le (by omega)] at h2
  exact same_iff.2 h2
theorem po_ne {x y : Po} (h : x.acc = y.acc → x.sym = y.sym → x.qty = y.qty → x.value = y.value → ¬ x.over = y.over) : ¬ x = y := fun e => by subst e; exact h rfl rfl rfl rfl rfl
theorem po_eq {x y : Po} (h : x.acc = y.acc ∧ x.sym = y.sym ∧ x.qty = y.qty ∧ x.value = y.value ∧ x.over = y.over) : x = y := by
  cases x; cases y; simp at h; simp [h]
def shortPs (ls : List (List Po)) : Bool := decide (ls.length ≤ 8) && ls.all fun l => decide (l.length ≤ 20)
theorem shortPs_no {ls : List (List Po)} {i : Nat} {l : List Po} (hx : ls[i]? = some l) (h : ¬ l.length ≤ 20) : shortPs ls = false := by
  unfold shortPs
  rw [Bool.and_eq_false_iff]; right
  exact List.all_eq_false.2 ⟨l, List.mem_of_getElem? hx, by simpa using h⟩
theorem shortPs_yes {ls : List (List Po)} {i : Nat} (h0 : ls.length ≤ 8) (hi : ls.length ≤ i) (h : (ls.take i).all (fun l => decide (l.length ≤ 20)) = true) : shortPs ls = true := by
  rw [List.take_of_length_le hi] at h
  unfold shortPs; rw [decide_eq_true h0, h]; rfl

set_option maxHeartbeats 4000000 in
set_option maxRecDepth 8000 in
theorem rclone_c (bk : Bk) (ho : bk.orders.length ≤ 1000000) (hf : bk.fills.length ≤ 1000000) (hi : bk.ids.length ≤ 1000000) : ACalls E 54 [bkV bk] (fun r t => r = bkV bk ∧ t = []) := by -- checkroll/roll.clone
  refine ACalls.of_awp (n := 16) (rs := [.cell 2 26]) Tryz.func54 rfl Tryz.ntmps54 rfl ?_
  repeat' (first
    | refine AWP.seqk fun K hK => ?_
    | (refine AWP.region ?_; simp only [go_sem])
    | (refine hK _ ?_; clear hK K)
    | refine AWP.block ?_
    | refine AWP.cond rfl (fun c => ?_) (fun c => ?_) <;> first | exact Bool.noConfusion c | (try simp only [dD] at c)
    | refine AWP.skip ?_
    | (refine AWP.exit ?_; simp only [go_sem])
    | (refine ACall.one (oclone_p bk.orders ho) (by kernel_rfl) rfl ?_; simp only [go_sem])
    | (refine ACall.one (dclone_p bk.fills hf) (by kernel_rfl) rfl ?_; simp only [go_sem])
    | (refine ACall.one (sclone_p bk.ids hi) (by kernel_rfl) rfl ?_; simp only [go_sem])
    | (refine AGet.haveM (by assumption) ?_; (try simp only [go_sem]))
    | (refine AGet.have' (by assumption) ?_; (try simp only [go_sem]))
    | ((first | refine AGet.nth ?_ (fun b hb => ?_) | refine AGet.nth1 ?_ (fun b hb => ?_) | with_reducible refine And.intro ?_ ?_); (focus (first | omega | assumption | exact List.length_pos_iff.2 (by assumption) | (simp only [List.length_append, List.length_cons, List.length_nil, List.length_map, List.length_take, List.length_drop] at *; omega) | (rw [wrap64_id (by omega) (by omega)]; omega) | (simp; done) | (simp [spare_len]; done) | (exact ⟨by omega, by omega⟩))); (try simp only [hb, go_sem]))
    | (
        refine AWP.ret ?_
        refine AEnd.is ?_; simp only [go_sem, out_v, out_s, out_n, v_int, v_bool, v_str] <;> (first | rfl | (simp; done) | skip))
    | refine AWP.fin (by assumption) ?_
    | fail)

set_option maxHeartbeats 4000000 in
set_option maxRecDepth 8000 in
theorem xfinal_c (bk : Bk) (f : Dn) (ho : bk.orders.length ≤ 1000000) (hf : bk.fills.length ≤ 1000000) (hi : bk.ids.length ≤ 1000000) : ACalls E 55 [bkV bk, dnV f] (fun r t => r = bl (rightBk bk && finalF bk f) ∧ t = []) := by -- checkroll/expose.Final
  refine ACalls.of_awp (n := 12) (rs := [.tmp 4]) Tryz.func55 rfl Tryz.ntmps55 rfl ?_
  repeat' (first
    | refine AWP.seqk fun K hK => ?_
    | (refine AWP.region ?_; simp only [go_sem])
    | (refine hK _ ?_; clear hK K)
    | refine AWP.block ?_
    | refine AWP.cond rfl (fun c => ?_) (fun c => ?_) <;> first | exact Bool.noConfusion c | (try simp only [dD] at c)
    | refine AWP.skip ?_
    | (refine AWP.exit ?_; simp only [go_sem])
    | (refine ACall.one (bright_c bk (by omega) (by omega) (by omega)) (by kernel_rfl) rfl ?_; simp only [go_sem])
    | (refine ACall.one (final_c bk f) (by kernel_rfl) rfl ?_; simp only [go_sem])
    | (refine AGuard.splitN (fun h => ?_) (fun h => ?_) <;> simp only [h, go_sem] <;> (try simp only [dD] at h))
    | (refine AGuard.split (fun h => ?_) (fun h => ?_) <;> simp only [h, go_sem] <;> (try simp only [dD] at h))
    | (refine AGet.haveM (by assumption) ?_; (try simp only [go_sem]))
    | (refine AGet.have' (by assumption) ?_; (try simp only [go_sem]))
    | ((first | refine AGet.nth ?_ (fun b hb => ?_) | refine AGet.nth1 ?_ (fun b hb => ?_) | with_reducible refine And.intro ?_ ?_); (focus (first | omega | assumption | exact List.length_pos_iff.2 (by assumption) | (simp only [List.length_append, List.length_cons, List.length_nil, List.length_map, List.length_take, List.length_drop] at *; omega) | (rw [wrap64_id (by omega) (by omega)]; omega) | (simp; done) | (simp [spare_len]; done) | (exact ⟨by omega, by omega⟩))); (try simp only [hb, go_sem]))
    | (
        refine AWP.ret ?_
        refine AEnd.is ?_; simp only [go_sem, out_v, out_s, out_n, v_int, v_bool, v_str] <;> (first | rfl | (simp_all; done) | skip))
    | refine AWP.fin (by assumption) ?_
    | fail)

theorem xfinal_y (bk : Bk) (f : Dn) (ho : bk.orders.length ≤ 1000000) (hf : bk.fills.length ≤ 1000000) (hi : bk.ids.length ≤ 1000000) (hr : rightBk bk = true) : ACalls E 55 [bkV bk, dnV f] (fun r t => r = bl (finalF bk f) ∧ t = []) := by
  have h := xfinal_c bk f ho hf hi
  rwa [hr, Bool.true_and] at h

set_option maxHeartbeats 8000000 in
set_option maxRecDepth 8000 in
theorem rclose_c (bk : Bk) (ho : bk.orders.length ≤ 1000000) (hf : bk.fills.length ≤ 1000000) (hi : bk.ids.length ≤ 1000000) : ACalls E 13 [bkV bk] (fun r t => r = .tup [bkV (closeF bk).1, posV (closeF bk).2.1, i64 (closeF bk).2.2] ∧ t = []) := by -- checkroll/roll.Close
  refine ACalls.of_awp (n := 50) (rs := [.cell 2 26, .tmp 3, .tmp 4]) Tryz.func13 rfl Tryz.ntmps13 rfl ?_
  repeat' (first
    | refine AWP.seqk fun K hK => ?_
    | (
        refine AWP.here 7 22 4 rfl ?_
        obtain ⟨f, hb⟩ : ∃ f, bk.fills[i]? = some f := ⟨_, List.getElem?_eq_getElem (by omega)⟩
        refine AWP.region ?_; simp only [go_sem])
    | (
        refine AWP.here 12 36 8 rfl ?_
        have e1 : fs = finsB bk := by rw [h2, List.take_of_length_le (by omega)]; rfl
        have e2 : rs = restB bk := by rw [h3, List.take_of_length_le (by omega)]; rfl
        rw [e1, e2]
        refine AWP.region ?_; simp only [go_sem])
    | (refine AWP.region ?_; simp only [go_sem])
    | (refine hK _ ?_; clear hK K)
    | refine AWP.block ?_
    | refine AWP.cond rfl (fun c => ?_) (fun c => ?_) <;> first | exact Bool.noConfusion c | (try simp only [dD] at c)
    | refine AWP.skip ?_
    | (refine AWP.exit ?_; simp only [go_sem])
    | (refine ACall.one (rclone_c bk ho hf hi) (by kernel_rfl) rfl ?_; simp only [go_sem])
    | (refine ACall.one (bright_c bk (by omega) (by omega) (by omega)) (by kernel_rfl) rfl ?_; simp only [go_sem])
    | (refine ACall.one (xfinal_y bk f ho hf hi hrb) (by kernel_rfl) rfl ?_; simp only [go_sem])
    | (refine ACall.one (lall_n (doneB bk) rfl (by have := List.length_filter_le (fun f => finalF bk f) bk.fills; simp only [doneB, finsB]; omega) (by simp only [doneB]; omega)) (by kernel_rfl) rfl ?_; simp only [go_sem])
    | (refine ACall.one (rover_c (allP (doneB bk)) (by have := allP_len (doneB bk); have := List.length_filter_le (fun f => finalF bk f) bk.fills; simp only [doneB, finsB] at *; omega)) (by kernel_rfl) rfl ?_; simp only [go_sem])
    | (refine AGet.haveM (by assumption) ?_; (try simp only [go_sem]))
    | (refine AGet.have' (by assumption) ?_; (try simp only [go_sem]))
    | ((first | refine AGet.nth ?_ (fun b hb => ?_) | refine AGet.nth1 ?_ (fun b hb => ?_) | with_reducible refine And.intro ?_ ?_); (focus (first | omega | assumption | exact List.length_pos_iff.2 (by assumption) | (simp only [List.length_append, List.length_cons, List.length_nil, List.length_map, List.length_take, List.length_drop] at *; omega) | (rw [wrap64_id (by omega) (by omega)]; omega) | (simp; done) | (simp [spare_len]; done) | (exact ⟨by omega, by omega⟩))); (try simp only [hb, go_sem]))
    | (
        refine AWP.here 6 21 1 rfl ?_
        refine AWP.nilTok 6 9 rfl ?_
        refine AWP.nilTok 7 9 rfl ?_
        simp only [go_sem]
        refine AWP.loopM (ι := Nat × List Dn × List Dn) [9, 21, 22, 23, 24, 25, 26, 27, 28, 29, 30, 31, 32, 33, 34, 35] (fun ⟨i, fs, rs⟩ => [(20, i64 i), (6, .sl (some 0) 9 (fs.map dnV)), (7, .sl (some 1) 9 (rs.map dnV))]) (fun ⟨i, fs, rs⟩ => [some [.agg [odsV bk.orders, dnsV bk.fills, .sl none 1 (bk.ids.map str), i64 bk.clock, i64 bk.bad]], some [.agg [.nilS, .nilS, .nilS, i64 0, i64 0]], some [.agg [odsV bk.orders, dnsV bk.fills, .sl none 1 (bk.ids.map str), i64 bk.clock, i64 bk.bad]]]) (fun ⟨i, fs, rs⟩ => [fs.length, rs.length]) (fun ⟨i, fs, rs⟩ => i ≤ bk.fills.length ∧ fs = (bk.fills.take i).filter (fun f => finalF bk f) ∧ rs = (bk.fills.take i).filter (fun f => !finalF bk f)) (fun ⟨i, fs, rs⟩ => bk.fills.length - i) ((0, [], [])) ?_ ?_ ?_
        · (try simp only [go_sem]); (repeat' (first | refine And.intro ?_ ?_ | exact .inl rfl | exact .inr rfl | exact .inr ⟨rfl, rfl⟩ | trivial | exact .inr (oblA rfl) | exact .inr ⟨rfl, oblA rfl⟩ | exact .inr bel_strs | exact .inr ⟨rfl, bel_strs⟩ | exact .inr ⟨by simp, bel_strs⟩ | (simp; done) | exact .inr ⟨rfl, by simp⟩ | exact .inr ⟨by simp, by simp⟩)); done
        · exact ⟨by omega, rfl, rfl⟩
        rintro ⟨i, fs, rs⟩ ⟨h1, h2, h3⟩
        simp only [go_sem]
        have hrb : rightBk bk = true := by assumption
        have hfl : fs.length ≤ i := by rw [h2]; exact Nat.le_trans (List.length_filter_le _ _) (by rw [List.length_take]; omega)
        have hrl : rs.length ≤ i := by rw [h3]; exact Nat.le_trans (List.length_filter_le _ _) (by rw [List.length_take]; omega))
    | (
        first
        | (refine ⟨(i + 1, fs ++ [f], rs), ?_, ⟨by show i + 1 ≤ _; omega, by show fs ++ [f] = _; rw [h2]; exact (fil_yes hb (by assumption)).symm, by show rs = _; rw [h3]; exact (fil_no hb (by simp_all)).symm⟩, by show bk.fills.length - (i + 1) < bk.fills.length - i; omega⟩
           (try simp only [go_sem]); (try rw [wrap64_id (by omega) (by omega)]); (repeat' (first | refine And.intro ?_ ?_ | exact .inl rfl | exact .inr rfl | exact .inr ⟨rfl, rfl⟩ | trivial | exact .inr (oblA rfl) | exact .inr ⟨rfl, oblA rfl⟩ | exact .inr bel_strs | exact .inr ⟨rfl, bel_strs⟩ | exact .inr ⟨by simp, bel_strs⟩ | (simp; done) | exact .inr ⟨rfl, by simp⟩ | exact .inr ⟨by simp, by simp⟩)); done)
        | (refine ⟨(i + 1, fs, rs ++ [f]), ?_, ⟨by show i + 1 ≤ _; omega, by show fs = _; rw [h2]; exact (fil_no hb (by assumption)).symm, by show rs ++ [f] = _; rw [h3]; exact (fil_yes hb (by simp_all)).symm⟩, by show bk.fills.length - (i + 1) < bk.fills.length - i; omega⟩
           (try simp only [go_sem]); (try rw [wrap64_id (by omega) (by omega)]); (repeat' (first | refine And.intro ?_ ?_ | exact .inl rfl | exact .inr rfl | exact .inr ⟨rfl, rfl⟩ | trivial | exact .inr (oblA rfl) | exact .inr ⟨rfl, oblA rfl⟩ | exact .inr bel_strs | exact .inr ⟨rfl, bel_strs⟩ | exact .inr ⟨by simp, bel_strs⟩ | (simp; done) | exact .inr ⟨rfl, by simp⟩ | exact .inr ⟨by simp, by simp⟩)); done))
    | (
        refine AWP.ret ?_
        refine AEnd.is ?_; simp only [go_sem, out_v, out_s, out_n, v_int, v_bool, v_str] <;> (first | (rw [dayc_no (by assumption)]; first | exact ⟨⟨rfl, rfl, rfl, rfl, rfl⟩, trivial, rfl⟩ | (simp; done)) | (rw [dayc_over hrb (by assumption)]; first | exact ⟨⟨rfl, rfl, rfl, rfl, rfl⟩, trivial, rfl⟩ | (simp; done)) | (rw [dayc_ok hrb (by assumption)]; first | exact ⟨⟨rfl, rfl, rfl, rfl, rfl⟩, rfl, rfl⟩ | (simp; done)) | skip))
    | refine AWP.fin (by assumption) ?_
    | fail)

set_option maxHeartbeats 4000000 in
set_option maxRecDepth 8000 in
theorem rhas_c (bk : Bk) (car : List Po) (a s : Bs) (hcar : car.length ≤ 1000000) (ho : bk.orders.length ≤ 1000000) (hf : bk.fills.length ≤ 1000000) (hi : bk.ids.length ≤ 1000000) : ACalls E 24 [bkV bk, posV car, str a, str s] (fun r t => r = poV (hasR bk car a s) ∧ t = []) := by -- checkroll/roll.Has
  have hml := merge_len [[posF bk a s], [getP car (a, s)]]
  simp only [List.flatten_cons, List.flatten_nil, List.append_nil, List.cons_append, List.nil_append, List.length_cons, List.length_nil] at hml
  refine ACalls.of_awp (n := 39) (rs := [.cell 8 49]) Tryz.func24 rfl Tryz.ntmps24 rfl ?_
  repeat' (first
    | refine AWP.seqk fun K hK => ?_
    | (refine AWP.region ?_; simp only [go_sem])
    | (refine hK _ ?_; clear hK K)
    | refine AWP.block ?_
    | refine AWP.cond rfl (fun c => ?_) (fun c => ?_) <;> first | exact Bool.noConfusion c | (try simp only [dD] at c)
    | refine AWP.skip ?_
    | (refine AWP.exit ?_; simp only [go_sem])
    | (refine ACall.one (lof_c bk a s (by omega) (by omega) (by omega)) (by kernel_rfl) rfl ?_; simp only [go_sem])
    | (refine ACall.one (mget_c car a s (by omega)) (by kernel_rfl) rfl ?_; simp only [go_sem])
    | (refine ACall.one (mget_c (mergeF [[posF bk a s], [getP car (a, s)]]).1 a s (by omega)) (by kernel_rfl) rfl ?_; simp only [go_sem])
    | (refine ACall.one (mall_c [[posF bk a s], [getP car (a, s)]] (by simp) (by simp)) (by kernel_rfl) rfl ?_; simp only [go_sem])
    | (refine AGet.haveM (by assumption) ?_; (try simp only [go_sem]))
    | (refine AGet.have' (by assumption) ?_; (try simp only [go_sem]))
    | ((first | refine AGet.nth ?_ (fun b hb => ?_) | refine AGet.nth1 ?_ (fun b hb => ?_) | with_reducible refine And.intro ?_ ?_); (focus (first | omega | assumption | exact List.length_pos_iff.2 (by assumption) | (simp only [List.length_append, List.length_cons, List.length_nil, List.length_map, List.length_take, List.length_drop] at *; omega) | (rw [wrap64_id (by omega) (by omega)]; omega) | (simp; done) | (simp [spare_len]; done) | (exact ⟨by omega, by omega⟩))); (try simp only [hb, go_sem]))
    | (
        refine AWP.ret ?_
        refine AEnd.is ?_; simp only [go_sem, out_v, out_s, out_n, v_int, v_bool, v_str] <;> (first | (unfold hasR; rw [if_pos (by assumption)]; done) | (unfold hasR; rw [if_pos (by assumption)]; simp; done) | (unfold hasR; rw [if_neg (by simp_all)]; done) | (unfold hasR; rw [if_neg (by simp_all)]; simp; done) | skip))
    | refine AWP.fin (by assumption) ?_
    | fail)

set_option maxHeartbeats 4000000 in
set_option maxRecDepth 8000 in
theorem rworst_c (bk : Bk) (car : List Po) (a s : Bs) (hcar : car.length ≤ 1000000) (ho : bk.orders.length ≤ 1000000) (hf : bk.fills.length ≤ 1000000) (hi : bk.ids.length ≤ 1000000) : ACalls E 21 [bkV bk, posV car, str a, str s] (fun r t => r = wV (worstR bk car a s) ∧ t = []) := by -- checkroll/roll.Worst
  refine ACalls.of_awp (n := 30) (rs := [.cell 8 45]) Tryz.func21 rfl Tryz.ntmps21 rfl ?_
  repeat' (first
    | refine AWP.seqk fun K hK => ?_
    | (refine AWP.region ?_; simp only [go_sem])
    | (refine hK _ ?_; clear hK K)
    | refine AWP.block ?_
    | refine AWP.cond rfl (fun c => ?_) (fun c => ?_) <;> first | exact Bool.noConfusion c | (try simp only [dD] at c)
    | refine AWP.skip ?_
    | (refine AWP.exit ?_; simp only [go_sem])
    | (refine ACall.one (eof_c bk a s (by omega) (by omega) (by omega)) (by kernel_rfl) rfl ?_; simp only [go_sem])
    | (refine ACall.one (mget_c car a s (by omega)) (by kernel_rfl) rfl ?_; simp only [go_sem])
    | (refine ACall.one (plus_c (ofF bk a s) ((getP car (a, s)).qty, IntKind.i64.wrap (0 - (getP car (a, s)).qty))) (by kernel_rfl) rfl ?_; simp only [go_sem])
    | (refine AGet.haveM (by assumption) ?_; (try simp only [go_sem]))
    | (refine AGet.have' (by assumption) ?_; (try simp only [go_sem]))
    | ((first | refine AGet.nth ?_ (fun b hb => ?_) | refine AGet.nth1 ?_ (fun b hb => ?_) | with_reducible refine And.intro ?_ ?_); (focus (first | omega | assumption | exact List.length_pos_iff.2 (by assumption) | (simp only [List.length_append, List.length_cons, List.length_nil, List.length_map, List.length_take, List.length_drop] at *; omega) | (rw [wrap64_id (by omega) (by omega)]; omega) | (simp; done) | (simp [spare_len]; done) | (exact ⟨by omega, by omega⟩))); (try simp only [hb, go_sem]))
    | (
        refine AWP.ret ?_
        refine AEnd.is ?_; simp only [go_sem, out_v, out_s, out_n, v_int, v_bool, v_str] <;> (first | (unfold worstR; rw [if_pos (by assumption)]; exact ⟨rfl, rfl⟩) | (unfold worstR; rw [if_neg (by simp_all)]; exact ⟨rfl, rfl⟩) | (unfold worstR; rw [if_pos (by assumption)]; done) | (unfold worstR; rw [if_neg (by simp_all)]; done) | (unfold worstR; rw [if_neg (by simp_all)]; simp; done) | skip))
    | refine AWP.fin (by assumption) ?_
    | fail)

set_option maxHeartbeats 4000000 in
set_option maxRecDepth 8000 in
theorem awake25_c  : ACalls E 10 [] (fun r t => r = bl true ∧ t = []) := by -- checkroll/checkrolllaw25.awake
  refine ACalls.of_awp (n := 67) (rs := [.tmp 0]) Tryz.func10 rfl Tryz.ntmps10 rfl ?_
  repeat' (first
    | refine AWP.seqk fun K hK => ?_
    | (refine AWP.region ?_; simp only [go_sem, aw_close, aw_has, aw_worst, aw_fl1, aw_fl0, decide_true])
    | (refine hK _ ?_; clear hK K)
    | refine AWP.block ?_
    | refine AWP.cond rfl (fun c => ?_) (fun c => ?_) <;> first | exact Bool.noConfusion c | (try simp only [dD] at c)
    | refine AWP.skip ?_
    | (refine AWP.exit ?_; simp only [go_sem, aw_close, aw_has, aw_worst, aw_fl1, aw_fl0, decide_true])
    | (refine ACall.one (nil_arg1 (k := 8) (rclose_c awB (by decide) (by decide) (by decide))) (by kernel_rfl) rfl ?_; simp only [go_sem, aw_close, aw_has, aw_worst, aw_fl1, aw_fl0, decide_true])
    | (refine ACall.one (rhas_c awN [⟨[99], [115], 4, 20, false⟩] [99] [115] (by decide) (by decide) (by decide) (by decide)) (by kernel_rfl) rfl ?_; simp only [go_sem, aw_close, aw_has, aw_worst, aw_fl1, aw_fl0, decide_true])
    | (refine ACall.one (rworst_c awN [⟨[99], [115], 4, 20, false⟩] [99] [115] (by decide) (by decide) (by decide) (by decide)) (by kernel_rfl) rfl ?_; simp only [go_sem, aw_close, aw_has, aw_worst, aw_fl1, aw_fl0, decide_true])
    | (refine AGuard.splitN (fun h => ?_) (fun h => ?_) <;> simp only [h, go_sem, aw_close, aw_has, aw_worst, aw_fl1, aw_fl0, decide_true] <;> (try simp only [dD] at h))
    | (refine AGuard.split (fun h => ?_) (fun h => ?_) <;> simp only [h, go_sem, aw_close, aw_has, aw_worst, aw_fl1, aw_fl0, decide_true] <;> (try simp only [dD] at h))
    | (refine AGet.haveM (by assumption) ?_; (try simp only [go_sem, aw_close, aw_has, aw_worst, aw_fl1, aw_fl0, decide_true]))
    | (refine AGet.have' (by assumption) ?_; (try simp only [go_sem, aw_close, aw_has, aw_worst, aw_fl1, aw_fl0, decide_true]))
    | ((first | refine AGet.nth ?_ (fun b hb => ?_) | refine AGet.nth1 ?_ (fun b hb => ?_) | with_reducible refine And.intro ?_ ?_); (focus (first | omega | assumption | exact List.length_pos_iff.2 (by assumption) | (simp only [List.length_append, List.length_cons, List.length_nil, List.length_map, List.length_take, List.length_drop] at *; omega) | (rw [wrap64_id (by omega) (by omega)]; omega) | (simp; done) | (simp [spare_len]; done) | (exact ⟨by omega, by omega⟩))); (try simp only [hb, go_sem, aw_close, aw_has, aw_worst, aw_fl1, aw_fl0, decide_true]))
    | (
        refine AWP.ret ?_
        refine AEnd.is ?_; simp only [go_sem, out_v, out_s, out_n, v_int, v_bool, v_str] <;> (first | rfl | (simp; done) | skip))
    | refine AWP.fin (by assumption) ?_
    | fail)

set_option maxHeartbeats 4000000 in
set_option maxRecDepth 8000 in
theorem r13same_c (a d : List Po) (ha : a.length ≤ 1000000) (hd : d.length ≤ 1000000) : ACalls E 16 [posV a, posV d] (fun r t => r = bl (samePs a d) ∧ t = []) := by -- checkroll/checkrollref13.Same
  refine ACalls.of_awp (n := 26) (rs := [.tmp 4]) Tryz.func16 rfl Tryz.ntmps16 rfl ?_
  repeat' (first
    | refine AWP.seqk fun K hK => ?_
    | (
        refine AWP.here 6 17 9 rfl ?_
        obtain ⟨x, hx⟩ : ∃ x, a[i]? = some x := ⟨_, List.getElem?_eq_getElem (by omega)⟩
        obtain ⟨y, hy⟩ : ∃ y, d[i]? = some y := ⟨_, List.getElem?_eq_getElem (by omega)⟩
        refine AWP.regionO [0, 1, 2, 3, 4, 5, 6, 7, 8] [] (by kernel_rfl) (by kernel_rfl) rfl ?_; simp only [go_sem])
    | (refine AWP.region ?_; simp only [go_sem])
    | (refine AWP.here 6 17 9 rfl ?_; refine AWP.regionO [0, 1, 2, 3, 4, 5, 6, 7, 8] [] (by kernel_rfl) (by kernel_rfl) rfl ?_; simp only [go_sem])
    | (refine hK _ ?_; clear hK K)
    | refine AWP.block ?_
    | refine AWP.cond rfl (fun c => ?_) (fun c => ?_) <;> first | exact Bool.noConfusion c | (try simp only [dD] at c)
    | refine AWP.skip ?_
    | (refine AWP.exit ?_; simp only [go_sem])
    | (refine AGet.haveM (by assumption) ?_; (try simp only [go_sem]))
    | (refine AGet.have' (by assumption) ?_; (try simp only [go_sem]))
    | ((first | refine AGet.nth ?_ (fun b hb => ?_) | refine AGet.nth1 ?_ (fun b hb => ?_) | with_reducible refine And.intro ?_ ?_); (focus (first | omega | assumption | exact List.length_pos_iff.2 (by assumption) | (simp only [List.length_append, List.length_cons, List.length_nil, List.length_map, List.length_take, List.length_drop] at *; omega) | (rw [wrap64_id (by omega) (by omega)]; omega) | (simp; done) | (simp [spare_len]; done) | (exact ⟨by omega, by omega⟩))); (try simp only [hb, go_sem]))
    | (
        refine AWP.here 4 11 4 rfl ?_
        refine AWP.loopN (ι := Nat) [4, 11, 12, 13, 14, 15, 16, 17, 18, 19, 20, 21, 22, 23, 24, 25] (fun (i : Nat) => [(5, i64 i)]) (fun (i : Nat) => i ≤ a.length ∧ a.length = d.length ∧ a.take i = d.take i) (fun (i : Nat) => a.length - i) (0) ?_ ?_ ?_
        · (try simp only [go_sem]); (repeat' (first | refine And.intro ?_ ?_ | exact .inl rfl | exact .inr rfl | exact .inr ⟨rfl, rfl⟩ | trivial | exact .inr (oblA rfl) | exact .inr ⟨rfl, oblA rfl⟩ | exact .inr bel_strs | exact .inr ⟨rfl, bel_strs⟩ | exact .inr ⟨by simp, bel_strs⟩ | (simp; done) | exact .inr ⟨rfl, by simp⟩ | exact .inr ⟨by simp, by simp⟩)); done
        · exact ⟨by omega, by omega, rfl⟩
        rintro i ⟨h1, h2, h3⟩
        simp only [go_sem])
    | (
        refine ⟨i + 1, ?_, ?_, ?_⟩
        · (try simp only [go_sem]); (try rw [wrap64_id (by omega) (by omega)]); (repeat' (first | refine And.intro ?_ ?_ | exact .inl rfl | exact .inr rfl | exact .inr ⟨rfl, rfl⟩ | trivial | exact .inr (oblA rfl) | exact .inr ⟨rfl, oblA rfl⟩ | exact .inr bel_strs | exact .inr ⟨rfl, bel_strs⟩ | exact .inr ⟨by simp, bel_strs⟩ | (simp; done) | exact .inr ⟨rfl, by simp⟩ | exact .inr ⟨by simp, by simp⟩)); done
        · exact ⟨by omega, h2, by rw [take_next hx, take_next hy, h3, show x = y from po_eq (by assumption)]⟩
        · (try simp only []); omega)
    | (
        refine AWP.ret ?_
        refine AEnd.is ?_; simp only [go_sem, out_v, out_s, out_n, v_int, v_bool, v_str] <;> (first | (rw [same_len (by omega)]; done) | (rw [same_at hx hy (po_ne (by assumption))]; done) | (rw [same_end (by omega) h2 h3]; done) | skip))
    | refine AWP.fin (by assumption) ?_
    | fail)

set_option maxHeartbeats 4000000 in
set_option maxRecDepth 8000 in
theorem r14short_c (ls : List (List Po)) (hl : ls.length ≤ 1000000) (hl2 : ∀ l ∈ ls, l.length ≤ 9223372036854775807) : ACalls E 12 [pssV ls] (fun r t => r = bl (shortPs ls) ∧ t = []) := by -- checkroll/checkrollref14.Short
  refine ACalls.of_awp (n := 19) (rs := [.tmp 2]) Tryz.func12 rfl Tryz.ntmps12 rfl ?_
  repeat' (first
    | refine AWP.seqk fun K hK => ?_
    | (
        refine AWP.here 6 13 6 rfl ?_
        obtain ⟨l, hx⟩ : ∃ l, ls[i]? = some l := ⟨_, List.getElem?_eq_getElem (by omega)⟩
        have hll := hl2 l (List.mem_of_getElem? hx)
        refine AWP.region ?_; simp only [go_sem])
    | (refine AWP.region ?_; simp only [go_sem])
    | (refine hK _ ?_; clear hK K)
    | refine AWP.block ?_
    | refine AWP.cond rfl (fun c => ?_) (fun c => ?_) <;> first | exact Bool.noConfusion c | (try simp only [dD] at c)
    | refine AWP.skip ?_
    | (refine AWP.exit ?_; simp only [go_sem])
    | (refine AGet.haveM (by assumption) ?_; (try simp only [go_sem]))
    | (refine AGet.have' (by assumption) ?_; (try simp only [go_sem]))
    | ((first | refine AGet.nth ?_ (fun b hb => ?_) | refine AGet.nth1 ?_ (fun b hb => ?_) | with_reducible refine And.intro ?_ ?_); (focus (first | omega | assumption | exact List.length_pos_iff.2 (by assumption) | (simp only [List.length_append, List.length_cons, List.length_nil, List.length_map, List.length_take, List.length_drop] at *; omega) | (rw [wrap64_id (by omega) (by omega)]; omega) | (simp; done) | (simp [spare_len]; done) | (exact ⟨by omega, by omega⟩))); (try simp only [hb, go_sem]))
    | (
        refine AWP.here 4 7 4 rfl ?_
        refine AWP.loopN (ι := Nat) [2, 7, 8, 9, 10, 11, 12, 13, 14, 15, 16, 17, 18] (fun (i : Nat) => [(3, i64 i)]) (fun (i : Nat) => i ≤ ls.length ∧ ls.length ≤ 8 ∧ (ls.take i).all (fun l => decide (l.length ≤ 20)) = true) (fun (i : Nat) => ls.length - i) (0) ?_ ?_ ?_
        · (try simp only [go_sem]); (repeat' (first | refine And.intro ?_ ?_ | exact .inl rfl | exact .inr rfl | exact .inr ⟨rfl, rfl⟩ | trivial | exact .inr (oblA rfl) | exact .inr ⟨rfl, oblA rfl⟩ | exact .inr bel_strs | exact .inr ⟨rfl, bel_strs⟩ | exact .inr ⟨by simp, bel_strs⟩ | (simp; done) | exact .inr ⟨rfl, by simp⟩ | exact .inr ⟨by simp, by simp⟩)); done
        · exact ⟨by omega, by omega, rfl⟩
        rintro i ⟨h1, h2, h3⟩
        simp only [go_sem])
    | (
        refine ⟨i + 1, ?_, ?_, ?_⟩
        · (try simp only [go_sem]); (try rw [wrap64_id (by omega) (by omega)]); (repeat' (first | refine And.intro ?_ ?_ | exact .inl rfl | exact .inr rfl | exact .inr ⟨rfl, rfl⟩ | trivial | exact .inr (oblA rfl) | exact .inr ⟨rfl, oblA rfl⟩ | exact .inr bel_strs | exact .inr ⟨rfl, bel_strs⟩ | exact .inr ⟨by simp, bel_strs⟩ | (simp; done) | exact .inr ⟨rfl, by simp⟩ | exact .inr ⟨by simp, by simp⟩)); done
        · exact ⟨by omega, h2, by rw [take_next hx, List.all_append, h3]; simp; omega⟩
        · (try simp only []); omega)
    | (
        refine AWP.ret ?_
        refine AEnd.is ?_; simp only [go_sem, out_v, out_s, out_n, v_int, v_bool, v_str] <;> (first | (unfold shortPs; rw [decide_eq_false (by omega)]; rfl) | (rw [shortPs_no hx (by omega)]; done) | (unfold shortPs; rw [decide_eq_true (by omega), List.take_of_length_le (by omega)] at *; rw [h3]; rfl) | (rw [shortPs_yes (by omega) (by omega) h3]; done) | skip))
    | refine AWP.fin (by assumption) ?_
    | fail)


end Go.Proofs.YtajeeghgiilhiaaGreat
end
section
set_option linter.unusedVariables false
set_option linter.unusedSimpArgs false
namespace Go.Proofs.YtajeeghgiilhiaaGreat
open Go Go.Abs Go.RowKit Go.Bk
theorem any_at {l : List Po} {i : Nat} {x : Po} (hx : l[i]? = some x) (h : x.over = true) : l.any (·.over) = true := List.any_eq_true.2 ⟨x, List.mem_of_getElem? hx, h⟩
theorem carry_bad {p q : List Po} (h : ¬ (mergeF [p, q]).2 = 0) : carryF p q = ([], (mergeF [p, q]).2) := by unfold carryF; rw [if_pos h]
theorem carry_over {p q : List Po} {i : Nat} {x : Po} (h : (mergeF [p, q]).2 = 0) (hx : (mergeF [p, q]).1[i]? = some x) (h2 : x.over = true) : carryF p q = ([], 9) := by
  unfold carryF; rw [if_neg (by rw [h]; simp), if_pos (any_at hx h2)]
theorem carry_fine {p q : List Po} {i : Nat} (h : (mergeF [p, q]).2 = 0) (hi : (mergeF [p, q]).1.length ≤ i) (h2 : ((mergeF [p, q]).1.take i).any (·.over) = false) : carryF p q = ((mergeF [p, q]).1, 0) := by
  rw [List.take_of_length_le hi] at h2
  unfold carryF; rw [if_neg (by rw [h]; simp), if_neg (by rw [h2]; simp)]
theorem has_one {b : Bk} {car : List Po} {a s : Bs} : oneF [[posF b a s], [getP car (a, s)]].flatten (a, s) = togF (a, s) [posF b a s, getP car (a, s)] := by
  unfold oneF
  simp only [List.flatten_cons, List.flatten_nil, List.append_nil, List.cons_append, List.nil_append]
  have e : sameF (a, s) [posF b a s, getP car (a, s)] = [posF b a s, getP car (a, s)] := by
    unfold sameF
    rw [List.filter_cons_of_pos (by simp [pos_nm]), List.filter_cons_of_pos (by simp [getP_nm])]; rfl
  rw [e]
theorem all_fins {b : Bk} (hr : rightBk b = true) : allP ⟨b.orders, finsB b, b.ids, b.clock, b.bad⟩ = allP (doneB b) := by
  have h := (rightBk_iff.1 hr).1
  have h1 : rightBk ⟨b.orders, finsB b, b.ids, b.clock, b.bad⟩ = true := sub_right (n := ⟨b.orders, finsB b, b.ids, b.clock, b.bad⟩) hr h.1 rfl rfl ⟨h.2.2.2.2.2.1, h.2.2.2.2.2.2⟩ (List.filter_sublist (p := fun f => finalF b f))
  have h2 := done_right hr
  have e : ∀ a s, posF ⟨b.orders, finsB b, b.ids, b.clock, b.bad⟩ a s = posF (doneB b) a s := fun a s => by unfold posF; rw [if_pos h1, if_pos h2]; rfl
  unfold allP
  rw [if_pos h1, if_pos h2]
  have e2 : nmsB ⟨b.orders, finsB b, b.ids, b.clock, b.bad⟩ = nmsB (doneB b) := rfl
  rw [e2]
  exact List.map_congr_left fun n _ => e n.1 n.2

set_option maxHeartbeats 4000000 in
set_option maxRecDepth 8000 in
theorem r25carry_c (p q : List Po) (hp : p.length ≤ 400000) (hq : q.length ≤ 400000) : ACalls E 18 [posV p, posV q] (fun r t => r = .tup [posV (carryF p q).1, i64 (carryF p q).2] ∧ t = []) := by -- checkroll/checkrollref25.Carry
  have hml := merge_len [p, q]
  simp only [List.flatten_cons, List.flatten_nil, List.append_nil, List.length_append] at hml
  refine ACalls.of_awp (n := 31) (rs := [.tmp 4, .tmp 5]) Tryz.func18 rfl Tryz.ntmps18 rfl ?_
  repeat' (first
    | refine AWP.seqk fun K hK => ?_
    | (
        refine AWP.here 7 25 5 rfl ?_
        obtain ⟨x, hy⟩ : ∃ x, (mergeF [p, q]).1[m]? = some x := ⟨_, List.getElem?_eq_getElem (by omega)⟩
        refine AWP.region ?_; simp only [go_sem])
    | (refine AWP.region ?_; simp only [go_sem])
    | (refine hK _ ?_; clear hK K)
    | refine AWP.block ?_
    | refine AWP.cond rfl (fun c => ?_) (fun c => ?_) <;> first | exact Bool.noConfusion c | (try simp only [dD] at c)
    | refine AWP.skip ?_
    | (refine AWP.exit ?_; simp only [go_sem])
    | (refine ACall.one (r14all_c [p, q] (by simp) (by simp; omega)) (by kernel_rfl) rfl ?_; simp only [go_sem])
    | (refine AGet.haveM (by assumption) ?_; (try simp only [go_sem]))
    | (refine AGet.have' (by assumption) ?_; (try simp only [go_sem]))
    | ((first | refine AGet.nth ?_ (fun b hb => ?_) | refine AGet.nth1 ?_ (fun b hb => ?_) | with_reducible refine And.intro ?_ ?_); (focus (first | omega | assumption | exact List.length_pos_iff.2 (by assumption) | (simp only [List.length_append, List.length_cons, List.length_nil, List.length_map, List.length_take, List.length_drop] at *; omega) | (rw [wrap64_id (by omega) (by omega)]; omega) | (simp; done) | (simp [spare_len]; done) | (exact ⟨by omega, by omega⟩))); (try simp only [hb, go_sem]))
    | (
        refine AWP.here 5 19 4 rfl ?_
        refine AWP.loopN (ι := Nat) [4, 5, 19, 20, 21, 22, 23, 24, 25, 26, 27, 28, 29] (fun (m : Nat) => [(8, i64 m)]) (fun (m : Nat) => m ≤ (mergeF [p, q]).1.length ∧ ((mergeF [p, q]).1.take m).any (·.over) = false) (fun (m : Nat) => (mergeF [p, q]).1.length - m) (0) ?_ ?_ ?_
        · (try simp only [go_sem]); (repeat' (first | refine And.intro ?_ ?_ | exact .inl rfl | exact .inr rfl | exact .inr ⟨rfl, rfl⟩ | trivial | exact .inr (oblA rfl) | exact .inr ⟨rfl, oblA rfl⟩ | exact .inr bel_strs | exact .inr ⟨rfl, bel_strs⟩ | exact .inr ⟨by simp, bel_strs⟩ | (simp; done) | exact .inr ⟨rfl, by simp⟩ | exact .inr ⟨by simp, by simp⟩)); done
        · exact ⟨Nat.zero_le _, rfl⟩
        rintro m ⟨g1, g2⟩
        simp only [go_sem])
    | (
        refine ⟨m + 1, ?_, ?_, ?_⟩
        · (try simp only [go_sem]); (try rw [wrap64_id (by omega) (by omega)]); (repeat' (first | refine And.intro ?_ ?_ | exact .inl rfl | exact .inr rfl | exact .inr ⟨rfl, rfl⟩ | trivial | exact .inr (oblA rfl) | exact .inr ⟨rfl, oblA rfl⟩ | exact .inr bel_strs | exact .inr ⟨rfl, bel_strs⟩ | exact .inr ⟨by simp, bel_strs⟩ | (simp; done) | exact .inr ⟨rfl, by simp⟩ | exact .inr ⟨by simp, by simp⟩)); done
        · exact ⟨by omega, any_next hy g2 (by assumption)⟩
        · (try simp only []); omega)
    | (
        refine AWP.ret ?_
        refine AEnd.is ?_; simp only [go_sem, out_v, out_s, out_n, v_int, v_bool, v_str] <;> (first | (rw [carry_bad (by assumption)]; first | exact ⟨rfl, rfl⟩ | exact ⟨trivial, rfl⟩ | (simp; done)) | (rw [carry_over (by simp_all) hy (by assumption)]; first | exact ⟨rfl, rfl⟩ | exact ⟨trivial, rfl⟩ | (simp; done)) | (rw [carry_fine (by simp_all) (by omega) g2]; first | exact ⟨rfl, rfl⟩ | exact ⟨⟨rfl, rfl⟩, rfl⟩ | (simp; done)) | skip))
    | refine AWP.fin (by assumption) ?_
    | fail)

set_option maxHeartbeats 4000000 in
set_option maxRecDepth 8000 in
theorem r25has_c (bk : Bk) (car : List Po) (a s : Bs) (hr : rightBk bk = true) (hc : riseP car = true) (hl : car.length ≤ 400000) : ACalls E 25 [bkV bk, posV car, str a, str s] (fun r t => r = poV (hasR bk car a s) ∧ t = []) := by -- checkroll/checkrollref25.Has
  refine ACalls.of_awp (n := 23) (rs := [.cell 8 49]) Tryz.func25 rfl Tryz.ntmps25 rfl ?_
  repeat' (first
    | refine AWP.seqk fun K hK => ?_
    | (refine AWP.region ?_; simp only [go_sem])
    | (refine hK _ ?_; clear hK K)
    | refine AWP.block ?_
    | refine AWP.cond rfl (fun c => ?_) (fun c => ?_) <;> first | exact Bool.noConfusion c | (try simp only [dD] at c)
    | refine AWP.skip ?_
    | (refine AWP.exit ?_; simp only [go_sem])
    | (refine ACall.one (r13of_c bk a s hr) (by kernel_rfl) rfl ?_; simp only [go_sem])
    | (refine ACall.one (r14get_c car a s (by omega)) (by kernel_rfl) rfl ?_; simp only [go_sem])
    | (refine ACall.one (r14one_c [[posF bk a s], [getP car (a, s)]] a s (by simp) (by simp)) (by kernel_rfl) rfl ?_; simp only [go_sem])
    | (refine AGet.haveM (by assumption) ?_; (try simp only [go_sem]))
    | (refine AGet.have' (by assumption) ?_; (try simp only [go_sem]))
    | ((first | refine AGet.nth ?_ (fun b hb => ?_) | refine AGet.nth1 ?_ (fun b hb => ?_) | with_reducible refine And.intro ?_ ?_); (focus (first | omega | assumption | exact List.length_pos_iff.2 (by assumption) | (simp only [List.length_append, List.length_cons, List.length_nil, List.length_map, List.length_take, List.length_drop] at *; omega) | (rw [wrap64_id (by omega) (by omega)]; omega) | (simp; done) | (simp [spare_len]; done) | (exact ⟨by omega, by omega⟩))); (try simp only [hb, go_sem]))
    | (
        refine AWP.ret ?_
        refine AEnd.is ?_; simp only [go_sem, out_v, out_s, out_n, v_int, v_bool, v_str] <;> (first | (rw [has_eq (getP_ok hc (a, s)) (getP_nm car (a, s)), ← has_one]; done) | (rw [has_eq (getP_ok hc (a, s)) (getP_nm car (a, s)), ← has_one]; rfl) | (rw [has_eq (getP_ok hc (a, s)) (getP_nm car (a, s)), ← has_one]; simp; done) | skip))
    | refine AWP.fin (by assumption) ?_
    | fail)

set_option maxHeartbeats 16000000 in
set_option maxRecDepth 8000 in
theorem r25close_c (bk : Bk) (ho : bk.orders.length ≤ 1000000) (hf : bk.fills.length ≤ 1000000) (hi : bk.ids.length ≤ 1000000) : ACalls E 14 [bkV bk] (fun r t => r = .tup [bkV (closeF bk).1, posV (closeF bk).2.1, i64 (closeF bk).2.2] ∧ t = []) := by -- checkroll/checkrollref25.Close
  refine ACalls.of_awp (n := 68) (rs := [.cell 2 26, .tmp 3, .tmp 4]) Tryz.func14 rfl Tryz.ntmps14 rfl ?_
  repeat' (first
    | refine AWP.seqk fun K hK => ?_
    | (
        refine AWP.here 9 25 7 rfl ?_
        obtain ⟨f, hb⟩ : ∃ f, bk.fills[i]? = some f := ⟨_, List.getElem?_eq_getElem (by omega)⟩
        have hfa := right_amounts hr f (List.mem_of_getElem? hb)
        refine AWP.regionO [0, 1, 2, 3, 4, 5, 6] [] (by kernel_rfl) (by kernel_rfl) rfl ?_; simp only [go_sem])
    | (
        refine AWP.here 12 52 3 rfl ?_
        have e1 : fs = finsB bk := by rw [h2, List.take_of_length_le (by omega)]; rfl
        have e2 : rs = restB bk := by rw [h3, List.take_of_length_le (by omega)]; rfl
        have hfn : (finsB bk).length ≤ 1000000 := by rw [← e1]; omega
        have hal := allP_len (doneB bk)
        have hal2 : (doneB bk).fills.length ≤ 1000000 := hfn
        rw [e1, e2]
        refine AWP.region ?_; simp only [go_sem])
    | (
        refine AWP.here 16 60 5 rfl ?_
        obtain ⟨x, hy⟩ : ∃ x, (allP (doneB bk))[m]? = some x := ⟨_, List.getElem?_eq_getElem (by omega)⟩
        refine AWP.region ?_; simp only [go_sem])
    | (refine AWP.region ?_; simp only [go_sem])
    | (refine AWP.here 3 14 6 rfl ?_; apply AWP.regionAnyJ (.take 0 (.fork (.alt 1 (.take 2 (.take 3 (.take 4 (.take 5 .done)))) (.alt 2 (.fork (.alt 1 (.take 3 (.take 4 (.take 5 .done))) (.alt 3 (.fork (.alt 1 (.take 4 (.take 5 .done)) (.alt 4 (.take 1 (.take 5 .done)) .ends))) .ends))) (.alt 3 (.fork (.alt 1 (.take 2 (.take 4 (.take 5 .done))) (.alt 2 (.fork (.alt 1 (.take 4 (.take 5 .done)) (.alt 4 (.take 1 (.take 5 .done)) .ends))) .ends))) .ends))))) [[], [], [], [], [0, 2, 3], [0, 1, 2, 3, 4]] [5, 6] (by kernel_rfl) (by kernel_rfl) (by decide); simp only [go_sem])
    | (refine AWP.here 9 25 7 rfl ?_; refine AWP.regionO [0, 1, 2, 3, 4, 5, 6] [] (by kernel_rfl) (by kernel_rfl) rfl ?_; simp only [go_sem])
    | (refine AWP.here 10 32 11 rfl ?_; refine AWP.regionAnyT (.take 0 (.take 1 (.take 2 (.take 3 (.take 4 (.take 5 (.take 6 (.take 7 (.take 8 (.take 9 (.take 10 .done))))))))))) [[], [0], [], [2], [], [2, 3, 4], [2, 3, 4, 5], [2, 3, 4, 5, 6], [0, 1, 2, 3, 4, 5, 6, 7], [0, 1, 2, 3, 4, 5, 6, 7, 8], [0, 1, 2, 3, 4, 5, 6, 7, 8, 9]] [] (by kernel_rfl) (by kernel_rfl) ?_; simp only [go_sem])
    | (refine AWP.here 11 42 11 rfl ?_; refine AWP.regionAnyT (.take 0 (.take 1 (.take 2 (.take 3 (.take 4 (.take 5 (.take 6 (.take 7 (.take 8 (.take 9 (.take 10 .done))))))))))) [[], [0], [], [2], [], [2, 3, 4], [2, 3, 4, 5], [2, 3, 4, 5, 6], [0, 1, 2, 3, 4, 5, 6, 7], [0, 1, 2, 3, 4, 5, 6, 7, 8], [0, 1, 2, 3, 4, 5, 6, 7, 8, 9]] [] (by kernel_rfl) (by kernel_rfl) ?_; simp only [go_sem])
    | (refine hK _ ?_; clear hK K)
    | refine AWP.block ?_
    | refine AWP.cond rfl (fun c => ?_) (fun c => ?_) <;> first | exact Bool.noConfusion c | (try simp only [dD] at c)
    | refine AWP.skip ?_
    | (refine AWP.exit ?_; simp only [go_sem])
    | (refine ACall.one (r12right_c bk (by omega) (by omega) (by omega)) (by kernel_rfl) rfl ?_; simp only [go_sem])
    | (refine ACall.one (r16final_c bk f hfa.2.2.1 hfa.2.2.2 (right_clock hr).2) (by kernel_rfl) rfl ?_; simp only [go_sem])
    | (refine ACall.one (r13all_c ⟨bk.orders, finsB bk, bk.ids, bk.clock, bk.bad⟩ ho (by simp only []; omega) hi) (by kernel_rfl) rfl ?_; (try rw [all_fins hr]); simp only [go_sem])
    | (refine AGet.haveM (by assumption) ?_; (try simp only [go_sem]))
    | (refine AGet.have' (by assumption) ?_; (try simp only [go_sem]))
    | ((first | refine AGet.nth ?_ (fun b hb => ?_) | refine AGet.nth1 ?_ (fun b hb => ?_) | with_reducible refine And.intro ?_ ?_); (focus (first | omega | assumption | exact List.length_pos_iff.2 (by assumption) | (simp only [List.length_append, List.length_cons, List.length_nil, List.length_map, List.length_take, List.length_drop] at *; omega) | (rw [wrap64_id (by omega) (by omega)]; omega) | (simp; done) | (simp [spare_len]; done) | (exact ⟨by omega, by omega⟩))); (try simp only [hb, go_sem]))
    | exact rfl
    | refine And.intro (a := ACall _ _ _ _ _ _ _ _) ?_ ?_
    | refine And.intro (a := AGet _ _) ?_ ?_
    | refine And.intro (a := AGuard _ _ _ _ _ _ _) ?_ ?_
    | (
        refine AWP.here 7 18 5 rfl ?_
        refine AWP.nilTokLeaf 2 1 9 _ rfl rfl ?_
        refine AWP.nilTokLeaf 3 1 9 _ rfl rfl ?_
        simp only [go_sem]
        refine AWP.loopM (ι := Nat × List Dn × List Dn) [18, 19, 20, 21, 22, 23, 24, 25, 26, 27, 28, 29, 30, 31, 32, 33, 34, 35, 36, 37, 38, 39, 40, 41, 42, 43, 44, 45, 46, 47, 48, 49, 50, 51] (fun ⟨i, fs, rs⟩ => [(7, i64 i)]) (fun ⟨i, fs, rs⟩ => [some [.agg [odsV bk.orders, dnsV bk.fills, .sl none 1 (bk.ids.map str), i64 bk.clock, i64 bk.bad]], some [.agg [.nilS, .nilS, .nilS, i64 0, i64 0]], some [.agg [odsV bk.orders, .sl (some 0) 9 (fs.map dnV), .sl none 1 (bk.ids.map str), i64 bk.clock, i64 bk.bad]], some [.agg [odsV bk.orders, .sl (some 1) 9 (rs.map dnV), .sl none 1 (bk.ids.map str), i64 bk.clock, i64 bk.bad]]]) (fun ⟨i, fs, rs⟩ => [fs.length, rs.length]) (fun ⟨i, fs, rs⟩ => i ≤ bk.fills.length ∧ fs = (bk.fills.take i).filter (fun f => finalF bk f) ∧ rs = (bk.fills.take i).filter (fun f => !finalF bk f)) (fun ⟨i, fs, rs⟩ => bk.fills.length - i) ((0, [], [])) ?_ ?_ ?_
        · (try simp only [go_sem]); (repeat' (first | refine And.intro ?_ ?_ | exact .inl rfl | exact .inr rfl | exact .inr ⟨rfl, rfl⟩ | trivial | exact .inr (oblA rfl) | exact .inr ⟨rfl, oblA rfl⟩ | exact .inr bel_strs | exact .inr ⟨rfl, bel_strs⟩ | exact .inr ⟨by simp, bel_strs⟩ | (simp; done) | exact .inr ⟨rfl, by simp⟩ | exact .inr ⟨by simp, by simp⟩)); done
        · exact ⟨by omega, rfl, rfl⟩
        rintro ⟨i, fs, rs⟩ ⟨h1, h2, h3⟩
        simp only [go_sem]
        have hr : rightBk bk = true := by assumption
        have hfl : fs.length ≤ i := by rw [h2]; exact Nat.le_trans (List.length_filter_le _ _) (by rw [List.length_take]; omega)
        have hrl : rs.length ≤ i := by rw [h3]; exact Nat.le_trans (List.length_filter_le _ _) (by rw [List.length_take]; omega))
    | (
        refine AWP.here 14 54 4 rfl ?_
        refine AWP.loopM (ι := Nat) [3, 4, 54, 55, 56, 57, 58, 59, 60, 61, 62, 63, 64, 65] (fun (m : Nat) => [(9, i64 m)]) (fun (m : Nat) => [some [.agg [odsV bk.orders, dnsV bk.fills, .sl none 1 (bk.ids.map str), i64 bk.clock, i64 bk.bad]], some [.agg [.nilS, .nilS, .nilS, i64 0, i64 0]], some [.agg [odsV bk.orders, .sl (some 0) 9 ((finsB bk).map dnV), .sl none 1 (bk.ids.map str), i64 bk.clock, i64 bk.bad]], some [.agg [odsV bk.orders, .sl (some 1) 9 ((restB bk).map dnV), .sl none 1 (bk.ids.map str), i64 bk.clock, i64 bk.bad]]]) (fun (m : Nat) => [(finsB bk).length, (restB bk).length]) (fun (m : Nat) => m ≤ (allP (doneB bk)).length ∧ ((allP (doneB bk)).take m).any (·.over) = false) (fun (m : Nat) => (allP (doneB bk)).length - m) (0) ?_ ?_ ?_
        · (try simp only [go_sem]); (repeat' (first | refine And.intro ?_ ?_ | exact .inl rfl | exact .inr rfl | exact .inr ⟨rfl, rfl⟩ | trivial | exact .inr (oblA rfl) | exact .inr ⟨rfl, oblA rfl⟩ | exact .inr bel_strs | exact .inr ⟨rfl, bel_strs⟩ | exact .inr ⟨by simp, bel_strs⟩ | (simp; done) | exact .inr ⟨rfl, by simp⟩ | exact .inr ⟨by simp, by simp⟩)); done
        · exact ⟨Nat.zero_le _, rfl⟩
        rintro m ⟨g1, g2⟩
        simp only [go_sem])
    | (
        first
        | (refine ⟨(i + 1, fs ++ [f], rs), ?_, ⟨by show i + 1 ≤ _; omega, by show fs ++ [f] = _; rw [h2]; exact (fil_yes hb (by assumption)).symm, by show rs = _; rw [h3]; exact (fil_no hb (by simp_all)).symm⟩, by show bk.fills.length - (i + 1) < bk.fills.length - i; omega⟩
           (try simp only [go_sem]); (try rw [wrap64_id (by omega) (by omega)]); (repeat' (first | refine And.intro ?_ ?_ | exact .inl rfl | exact .inr rfl | exact .inr ⟨rfl, rfl⟩ | trivial | exact .inr (oblA rfl) | exact .inr ⟨rfl, oblA rfl⟩ | exact .inr bel_strs | exact .inr ⟨rfl, bel_strs⟩ | exact .inr ⟨by simp, bel_strs⟩ | (simp; done) | exact .inr ⟨rfl, by simp⟩ | exact .inr ⟨by simp, by simp⟩)); done)
        | (refine ⟨(i + 1, fs, rs ++ [f]), ?_, ⟨by show i + 1 ≤ _; omega, by show fs = _; rw [h2]; exact (fil_no hb (by assumption)).symm, by show rs ++ [f] = _; rw [h3]; exact (fil_yes hb (by simp_all)).symm⟩, by show bk.fills.length - (i + 1) < bk.fills.length - i; omega⟩
           (try simp only [go_sem]); (try rw [wrap64_id (by omega) (by omega)]); (repeat' (first | refine And.intro ?_ ?_ | exact .inl rfl | exact .inr rfl | exact .inr ⟨rfl, rfl⟩ | trivial | exact .inr (oblA rfl) | exact .inr ⟨rfl, oblA rfl⟩ | exact .inr bel_strs | exact .inr ⟨rfl, bel_strs⟩ | exact .inr ⟨by simp, bel_strs⟩ | (simp; done) | exact .inr ⟨rfl, by simp⟩ | exact .inr ⟨by simp, by simp⟩)); done))
    | (
        refine ⟨m + 1, ?_, ?_, ?_⟩
        · (try simp only [go_sem]); (try rw [wrap64_id (by omega) (by omega)]); (repeat' (first | refine And.intro ?_ ?_ | exact .inl rfl | exact .inr rfl | exact .inr ⟨rfl, rfl⟩ | trivial | exact .inr (oblA rfl) | exact .inr ⟨rfl, oblA rfl⟩ | exact .inr bel_strs | exact .inr ⟨rfl, bel_strs⟩ | exact .inr ⟨by simp, bel_strs⟩ | (simp; done) | exact .inr ⟨rfl, by simp⟩ | exact .inr ⟨by simp, by simp⟩)); done
        · exact ⟨by omega, any_next hy g2 (by assumption)⟩
        · (try simp only []); omega)
    | (
        refine AWP.ret ?_
        refine AEnd.is ?_; simp only [go_sem, out_v, out_s, out_n, v_int, v_bool, v_str] <;> (first | (rw [dayc_no (by assumption)]; first | exact ⟨⟨rfl, rfl, rfl, rfl, rfl⟩, trivial, rfl⟩ | (simp; done)) | (rw [dayc_over hr (any_at hy (by assumption))]; first | exact ⟨⟨rfl, rfl, rfl, rfl, rfl⟩, trivial, rfl⟩ | (simp; done)) | (rw [List.take_of_length_le (show (allP (doneB bk)).length ≤ m by omega)] at g2; rw [dayc_ok hr g2]; first | exact ⟨⟨rfl, rfl, rfl, rfl, rfl⟩, rfl, rfl⟩ | (simp; done)) | skip))
    | refine AWP.fin (by assumption) ?_
    | fail)


end Go.Proofs.YtajeeghgiilhiaaGreat
end
section
set_option linter.unusedVariables false
set_option linter.unusedSimpArgs false
namespace Go.Proofs.YtajeeghgiilhiaaGreat
open Go Go.Abs Go.RowKit Go.Bk
theorem close_cases (b : Bk) : (∃ e : Int, closeF b = (b, [], e) ∧ e ≠ 0) ∨ (rightBk b = true ∧ closeF b = (nB b, allP (doneB b), 0) ∧ (allP (doneB b)).any (·.over) = false) := by
  cases h : rightBk b with
  | false => exact .inl ⟨1, dayc_no h, by decide⟩
  | true =>
    cases h2 : (allP (doneB b)).any (·.over) with
    | true => exact .inl ⟨9, dayc_over h h2, by decide⟩
    | false => exact .inr ⟨rfl, dayc_ok h h2, rfl⟩
theorem short_y {x y z : Nat} (h1 : (x : Int) ≤ 80) (h2 : (y : Int) ≤ 60) : decide ((z : Int) ≤ 300) = (decide (x ≤ 80) && (decide (y ≤ 60) && decide (z ≤ 300))) := by
  rw [decide_eq_true (p := x ≤ 80) (by omega), decide_eq_true (p := y ≤ 60) (by omega), Bool.true_and, Bool.true_and]
  exact decide_eq_decide.2 (by omega)
theorem short_2 {x y z : Nat} (h2 : ¬ (y : Int) ≤ 60) : false = (decide (x ≤ 80) && (decide (y ≤ 60) && decide (z ≤ 300))) := by
  rw [decide_eq_false (p := y ≤ 60) (by omega)]; simp
theorem short_1 {x y z : Nat} (h2 : ¬ (x : Int) ≤ 80) : false = (decide (x ≤ 80) && (decide (y ≤ 60) && decide (z ≤ 300))) := by
  rw [decide_eq_false (p := x ≤ 80) (by omega)]; simp
set_option maxHeartbeats 4000000 in
set_option maxRecDepth 8000 in
theorem r12short_c (bk : Bk) (ho : bk.orders.length ≤ 9223372036854775807) (hf : bk.fills.length ≤ 9223372036854775807) (hi : bk.ids.length ≤ 9223372036854775807) : ACalls E 11 [bkV bk] (fun r t => r = bl (decide (bk.orders.length ≤ 80) && (decide (bk.fills.length ≤ 60) && decide (bk.ids.length ≤ 300))) ∧ t = []) := by -- checkroll/checkrollref12.Short
  refine ACalls.of_awp (n := 19) (rs := [.tmp 2]) Tryz.func11 rfl Tryz.ntmps11 rfl ?_
  repeat' (first
    | refine AWP.seqk fun K hK => ?_
    | (refine AWP.region ?_; simp only [go_sem])
    | (refine hK _ ?_; clear hK K)
    | refine AWP.block ?_
    | refine AWP.cond rfl (fun c => ?_) (fun c => ?_) <;> first | exact Bool.noConfusion c | (try simp only [dD] at c)
    | refine AWP.skip ?_
    | (refine AWP.exit ?_; simp only [go_sem])
    | (refine AGuard.splitN (fun h => ?_) (fun h => ?_) <;> simp only [h, go_sem] <;> (try simp only [dD] at h))
    | (refine AGuard.split (fun h => ?_) (fun h => ?_) <;> simp only [h, go_sem] <;> (try simp only [dD] at h))
    | (refine AGet.haveM (by assumption) ?_; (try simp only [go_sem]))
    | (refine AGet.have' (by assumption) ?_; (try simp only [go_sem]))
    | ((first | refine AGet.nth ?_ (fun b hb => ?_) | refine AGet.nth1 ?_ (fun b hb => ?_) | with_reducible refine And.intro ?_ ?_); (focus (first | omega | assumption | exact List.length_pos_iff.2 (by assumption) | (simp only [List.length_append, List.length_cons, List.length_nil, List.length_map, List.length_take, List.length_drop] at *; omega) | (rw [wrap64_id (by omega) (by omega)]; omega) | (simp; done) | (simp [spare_len]; done) | (exact ⟨by omega, by omega⟩))); (try simp only [hb, go_sem]))
    | (
        refine AWP.ret ?_
        refine AEnd.is ?_; simp only [go_sem, out_v, out_s, out_n, v_int, v_bool, v_str] <;> (first | exact short_y (by assumption) (by assumption) | exact short_2 (by assumption) | exact short_1 (by assumption) | skip))
    | (exfalso; simp_all; done)
    | refine AWP.fin (by assumption) ?_
    | fail)

end Go.Proofs.YtajeeghgiilhiaaGreat
end
section
set_option linter.unusedVariables false
set_option linter.unusedSimpArgs false
namespace Go.Proofs.YtajeeghgiilhiaaGreat
open Go Go.Abs Go.RowKit Go.Bk
theorem samePs_self2 (l : List Po) : samePs l l = true := same_iff.2 rfl
theorem short_two {p q : List Po} (h : shortPs [p, q] = true) : p.length ≤ 20 ∧ q.length ≤ 20 := by
  unfold shortPs at h
  simp only [List.all_cons, List.all_nil, Bool.and_eq_true, decide_eq_true_eq, Bool.and_true] at h
  exact ⟨h.2.1, h.2.2⟩
theorem close_lens (b : Bk) : (closeF b).1.orders.length ≤ b.orders.length ∧ (closeF b).1.fills.length ≤ b.fills.length ∧ (closeF b).1.ids.length ≤ b.ids.length ∧ (closeF b).2.1.length ≤ b.fills.length := by
  rcases close_cases b with ⟨e, h, _⟩ | ⟨_, h, _⟩
  · rw [h]; exact ⟨Nat.le_refl _, Nat.le_refl _, Nat.le_refl _, Nat.zero_le _⟩
  · rw [h]
    refine ⟨Nat.le_refl _, List.length_filter_le _ _, Nat.le_refl _, ?_⟩
    exact Nat.le_trans (allP_len (doneB b)) (List.length_filter_le _ _)
theorem carry_le2 (p q : List Po) : (carryF p q).1.length ≤ p.length + q.length := by
  have h := merge_len [p, q]
  simp only [List.flatten_cons, List.flatten_nil, List.append_nil, List.length_append] at h
  unfold carryF; split
  · simp
  · split
    · simp
    · exact h
theorem okP_over {x : Po} (h : okP x = true) (ho : x.over = true) : x.qty = 0 := by
  unfold okP at h
  simp only [ho, Bool.true_and, Bool.and_eq_true, Bool.not_eq_true', Bool.or_eq_false_iff, decide_eq_false_iff_not, Decidable.not_not] at h
  exact h.2.1
theorem wr_long {b : Bk} {p : List Po} {a s : Bs} (h : riseP p = true) : (worstR b p a s).1 = IntKind.i64.wrap ((ofF b a s).1 + (getP p (a, s)).qty) := by
  have hk := getP_ok h (a, s)
  have hb := of_bnd (b := b) (acc := a) (sym := s)
  unfold worstR
  split
  · rename_i ho
    simp only [Bnd] at hb
    rw [okP_over hk ho, Int.add_zero, wrap64_id (by omega) (by omega)]
  · rfl
theorem wr_short {b : Bk} {p : List Po} {a s : Bs} (h : riseP p = true) : (worstR b p a s).2 = IntKind.i64.wrap ((ofF b a s).2 - (getP p (a, s)).qty) := by
  have hk := getP_ok h (a, s)
  have hb := of_bnd (b := b) (acc := a) (sym := s)
  have hn : numB (getP p (a, s)).qty = true := by unfold okP at hk; simp only [Bool.and_eq_true] at hk; exact hk.1.1
  have hn := numB_iff.1 hn
  unfold worstR
  split
  · rename_i ho
    simp only [Bnd] at hb
    rw [okP_over hk ho, Int.sub_zero, wrap64_id (by omega) (by omega)]
  · unfold plusW
    dsimp only
    rw [wrap64_id (x := 0 - (getP p (a, s)).qty) (by omega) (by omega)]
    congr 1; omega

set_option maxHeartbeats 64000000 in
set_option maxRecDepth 8000 in
theorem rollRight_c (bk : Bk) (p q : List Po) (a s : Bs) (ho : bk.orders.length ≤ 9223372036854775807) (hf : bk.fills.length ≤ 9223372036854775807) (hi : bk.ids.length ≤ 9223372036854775807) (hp : p.length ≤ 9223372036854775807) (hq : q.length ≤ 9223372036854775807) : ACalls E 3 [bkV bk, posV p, posV q, str a, str s] (fun r t => r = bl true ∧ t = []) := by -- checkroll/checkrolllaw25.RollRight
  refine ACalls.of_awp (n := 135) (rs := [.tmp 10]) Tryz.func3 rfl Tryz.ntmps3 rfl ?_
  repeat' (first
    | refine AWP.seqk fun K hK => ?_
    | (
        refine AWP.here 5 37 10 rfl ?_
        obtain ⟨q1, q2, q3⟩ : bk.orders.length ≤ 80 ∧ bk.fills.length ≤ 60 ∧ bk.ids.length ≤ 300 := by assumption
        obtain ⟨q4, q5⟩ := short_two (by assumption)
        have q6 := close_lens bk
        have q7 := carry_le2 p q
        refine AWP.region ?_; simp only [go_sem, samePs_self2, decide_true, ne_eq, not_true_eq_false, decide_false, Bool.not_true, Bool.not_false])
    | (
        refine AWP.here 15 92 13 rfl ?_
        have hw1 := wr_long (a := a) (s := s) (b := bk) (by assumption)
        have hw2 := wr_short (a := a) (s := s) (b := bk) (by assumption)
        refine AWP.regionO [0, 1, 2, 3, 5, 6, 7, 9, 10, 4, 8, 11, 12] [21, 22] (by kernel_rfl) (by kernel_rfl) rfl ?_; simp only [go_sem, samePs_self2, decide_true, ne_eq, not_true_eq_false, decide_false, Bool.not_true, Bool.not_false])
    | (refine AWP.region ?_; simp only [go_sem, samePs_self2, decide_true, ne_eq, not_true_eq_false, decide_false, Bool.not_true, Bool.not_false])
    | (refine AWP.here 15 92 13 rfl ?_; refine AWP.regionO [0, 1, 2, 3, 5, 6, 7, 9, 10, 4, 8, 11, 12] [21, 22] (by kernel_rfl) (by kernel_rfl) rfl ?_; simp only [go_sem, samePs_self2, decide_true, ne_eq, not_true_eq_false, decide_false, Bool.not_true, Bool.not_false])
    | (refine AWP.here 17 106 30 rfl ?_; refine AWP.regionAs [0, 1, 2, 3, 5, 6, 7, 8, 4, 9, 10, 11, 12, 13, 14, 15, 16, 17, 18, 19, 20, 21, 22, 23, 24, 25, 26, 27, 28, 29] [[], [], [], [], [0, 1, 2, 3], [], [], [], [], [0, 1, 2, 3, 4, 5, 6, 7, 8], [0, 1, 2, 3, 4, 5, 6, 7, 8, 9], [0, 1, 2, 3, 4, 5, 6, 7, 8, 9, 10], [0, 1, 2, 3, 4, 5, 6, 7, 8, 9, 10, 11], [0, 1, 2, 3, 4, 5, 6, 7, 8, 9, 10, 11, 12], [0, 1, 2, 3, 4, 5, 6, 7, 8, 9, 10, 11], [0, 1, 2, 3, 4, 5, 6, 7, 8, 9, 10, 11, 14], [0, 1, 2, 3, 4, 5, 6, 7, 8, 9, 10, 11], [0, 1, 2, 3, 4, 5, 6, 7, 8, 9, 10, 11, 14, 15, 16], [0, 1, 2, 3, 4, 5, 6, 7, 8, 9, 10, 11, 12, 13, 14, 15, 16, 17], [0, 1, 2, 3, 4, 5, 6, 7, 8, 9, 10, 11, 12, 13, 14, 15, 16, 17, 18], [0, 1, 2, 3, 4, 5, 6, 7, 8, 9, 10, 11, 12, 13, 14, 15, 16, 17, 18, 19], [0, 1, 2, 3, 4, 5, 6, 7, 8, 9, 10, 11, 12, 13, 14, 15, 16, 17, 18, 19, 20], [0, 1, 2, 3, 4, 5, 6, 7, 8, 9, 10, 11, 12, 13, 14, 15, 16, 17, 18, 19, 20, 21], [0, 1, 2, 3, 4, 5, 6, 7, 8, 9, 10, 11, 12, 13, 14, 15, 16, 17, 18, 19, 20], [0, 1, 2, 3, 4, 5, 6, 7, 8, 9, 10, 11, 12, 13, 14, 15, 16, 17, 18, 19, 20, 23], [0, 1, 2, 3, 4, 5, 6, 7, 8, 9, 10, 11, 12, 13, 14, 15, 16, 17, 18, 19, 20], [0, 1, 2, 3, 4, 5, 6, 7, 8, 9, 10, 11, 12, 13, 14, 15, 16, 17, 18, 19, 20, 23, 24, 25], [0, 1, 2, 3, 4, 5, 6, 7, 8, 9, 10, 11, 12, 13, 14, 15, 16, 17, 18, 19, 20, 21, 22, 23, 24, 25, 26], [0, 1, 2, 3, 4, 5, 6, 7, 8, 9, 10, 11, 12, 13, 14, 15, 16, 17, 18, 19, 20, 21, 22, 23, 24, 25, 26, 27], [0, 1, 2, 3, 4, 5, 6, 7, 8, 9, 10, 11, 12, 13, 14, 15, 16, 17, 18, 19, 20, 21, 22, 23, 24, 25, 26, 27, 28]] [] (by kernel_rfl) (by kernel_rfl) (by decide) rfl ?_; simp only [go_sem, samePs_self2, decide_true, ne_eq, not_true_eq_false, decide_false, Bool.not_true, Bool.not_false])
    | (refine hK _ ?_; clear hK K)
    | refine AWP.block ?_
    | refine AWP.cond rfl (fun c => ?_) (fun c => ?_) <;> first | exact Bool.noConfusion c | (try simp only [dD] at c)
    | refine AWP.skip ?_
    | (refine AWP.exit ?_; simp only [go_sem, samePs_self2, decide_true, ne_eq, not_true_eq_false, decide_false, Bool.not_true, Bool.not_false])
    | (refine ACall.one (awake25_c) (by kernel_rfl) rfl ?_; simp only [go_sem, samePs_self2, decide_true, ne_eq, not_true_eq_false, decide_false, Bool.not_true, Bool.not_false])
    | (refine ACall.one (r12short_c bk (by omega) (by omega) (by omega)) (by kernel_rfl) rfl ?_; simp only [go_sem, samePs_self2, decide_true, ne_eq, not_true_eq_false, decide_false, Bool.not_true, Bool.not_false])
    | (refine ACall.one (r14short_c [p, q] (by simp) (by intro l hl; simp only [List.mem_cons, List.not_mem_nil, or_false] at hl; rcases hl with rfl | rfl <;> assumption)) (by kernel_rfl) rfl ?_; simp only [go_sem, samePs_self2, decide_true, ne_eq, not_true_eq_false, decide_false, Bool.not_true, Bool.not_false])
    | (refine ACall.one (rclose_c bk (by omega) (by omega) (by omega)) (by kernel_rfl) rfl ?_; simp only [go_sem, samePs_self2, decide_true, ne_eq, not_true_eq_false, decide_false, Bool.not_true, Bool.not_false])
    | (refine ACall.one (r25close_c bk (by omega) (by omega) (by omega)) (by kernel_rfl) rfl ?_; simp only [go_sem, samePs_self2, decide_true, ne_eq, not_true_eq_false, decide_false, Bool.not_true, Bool.not_false])
    | (refine ACall.one (r12same_c (closeF bk).1 (closeF bk).1 (by omega) (by omega) (by omega)) (by kernel_rfl) rfl ?_; simp only [go_sem, samePs_self2, decide_true, ne_eq, not_true_eq_false, decide_false, Bool.not_true, Bool.not_false])
    | (refine ACall.one (r13same_c (closeF bk).2.1 (closeF bk).2.1 (by omega) (by omega)) (by kernel_rfl) rfl ?_; simp only [go_sem, samePs_self2, decide_true, ne_eq, not_true_eq_false, decide_false, Bool.not_true, Bool.not_false])
    | (refine ACall.one (r13same_c (carryF p q).1 (carryF p q).1 (by omega) (by omega)) (by kernel_rfl) rfl ?_; simp only [go_sem, samePs_self2, decide_true, ne_eq, not_true_eq_false, decide_false, Bool.not_true, Bool.not_false])
    | (refine ACall.one (rcarry_c p q (by omega) (by omega)) (by kernel_rfl) rfl ?_; simp only [go_sem, samePs_self2, decide_true, ne_eq, not_true_eq_false, decide_false, Bool.not_true, Bool.not_false])
    | (refine ACall.one (r25carry_c p q (by omega) (by omega)) (by kernel_rfl) rfl ?_; simp only [go_sem, samePs_self2, decide_true, ne_eq, not_true_eq_false, decide_false, Bool.not_true, Bool.not_false])
    | (refine ACall.one (r14right_c p (by omega)) (by kernel_rfl) rfl ?_; simp only [go_sem, samePs_self2, decide_true, ne_eq, not_true_eq_false, decide_false, Bool.not_true, Bool.not_false])
    | (refine ACall.one (r12right_c bk (by omega) (by omega) (by omega)) (by kernel_rfl) rfl ?_; simp only [go_sem, samePs_self2, decide_true, ne_eq, not_true_eq_false, decide_false, Bool.not_true, Bool.not_false])
    | (refine ACall.one (rworst_c bk p a s (by omega) (by omega) (by omega) (by omega)) (by kernel_rfl) rfl ?_; simp only [go_sem, samePs_self2, decide_true, ne_eq, not_true_eq_false, decide_false, Bool.not_true, Bool.not_false])
    | (refine ACall.one (r16of_c bk a s (by omega) (by omega) (by omega)) (by kernel_rfl) rfl ?_; simp only [go_sem, samePs_self2, decide_true, ne_eq, not_true_eq_false, decide_false, Bool.not_true, Bool.not_false])
    | (refine ACall.one (r14get_c p a s (by omega)) (by kernel_rfl) rfl ?_; simp only [go_sem, samePs_self2, decide_true, ne_eq, not_true_eq_false, decide_false, Bool.not_true, Bool.not_false])
    | (refine ACall.one (rhas_c bk p a s (by omega) (by omega) (by omega) (by omega)) (by kernel_rfl) rfl ?_; simp only [go_sem, samePs_self2, decide_true, ne_eq, not_true_eq_false, decide_false, Bool.not_true, Bool.not_false])
    | (refine ACall.one (r25has_c bk p a s (by assumption) (by assumption) (by omega)) (by kernel_rfl) rfl ?_; simp only [go_sem, samePs_self2, decide_true, ne_eq, not_true_eq_false, decide_false, Bool.not_true, Bool.not_false])
    | (refine AGuard.splitN (fun h => ?_) (fun h => ?_) <;> simp only [h, go_sem, samePs_self2, decide_true, ne_eq, not_true_eq_false, decide_false, Bool.not_true, Bool.not_false] <;> (try simp only [dD] at h))
    | (refine AGuard.split (fun h => ?_) (fun h => ?_) <;> simp only [h, go_sem, samePs_self2, decide_true, ne_eq, not_true_eq_false, decide_false, Bool.not_true, Bool.not_false] <;> (try simp only [dD] at h))
    | (refine AGet.haveM (by assumption) ?_; (try simp only [go_sem, samePs_self2, decide_true, ne_eq, not_true_eq_false, decide_false, Bool.not_true, Bool.not_false]))
    | (refine AGet.have' (by assumption) ?_; (try simp only [go_sem, samePs_self2, decide_true, ne_eq, not_true_eq_false, decide_false, Bool.not_true, Bool.not_false]))
    | ((first | refine AGet.nth ?_ (fun b hb => ?_) | refine AGet.nth1 ?_ (fun b hb => ?_) | with_reducible refine And.intro ?_ ?_); (focus (first | omega | assumption | exact List.length_pos_iff.2 (by assumption) | (simp only [List.length_append, List.length_cons, List.length_nil, List.length_map, List.length_take, List.length_drop] at *; omega) | (rw [wrap64_id (by omega) (by omega)]; omega) | (simp; done) | (simp [spare_len]; done) | (exact ⟨by omega, by omega⟩))); (try simp only [hb, go_sem, samePs_self2, decide_true, ne_eq, not_true_eq_false, decide_false, Bool.not_true, Bool.not_false]))
    | (
        refine AWP.ret ?_
        refine AEnd.is ?_; simp only [go_sem, out_v, out_s, out_n, v_int, v_bool, v_str] <;> (first | rfl | (simp_all; done) | skip))
    | (exfalso; simp_all; done)
    | refine AWP.fin (by assumption) ?_
    | fail)


end Go.Proofs.YtajeeghgiilhiaaGreat
end
section
/- How a law's arguments are read: lists of executions, of bytes. -/
namespace Go.Proofs.YtajeeghgiilhiaaGreat
open Go.ChangeShapes Go.WideShapes Go.ChangeAt Go.RowKit Go.Joins Go.Abs Go.Bk
set_option linter.unusedVariables false
set_option linter.unusedSimpArgs false
section
variable {H : Type} {enc : TypeId × Value → H}
variable {w : World} {r : Reach} {b0 base : Nat} {spare : Nat → Bool} {held : Bool} {v : Value} {d : DataW H} {ps : List MemPlace}
theorem list_map {α : Type} {f : α → AV} {Q : α → Prop} : ∀ {es : List AV}, (∀ y ∈ es, ∃ b, Q b ∧ y = f b) → ∃ L : List α, es = L.map f ∧ ∀ b ∈ L, Q b
  | [], _ => ⟨[], rfl, by simp⟩
  | e :: es, h => by
    obtain ⟨b, hb, rfl⟩ := h e (List.mem_cons_self ..)
    obtain ⟨L, rfl, hL⟩ := list_map (es := es) fun y hy => h y (List.mem_cons_of_mem _ hy)
    exact ⟨b :: L, rfl, fun x hx => by rcases List.mem_cons.1 hx with rfl | hx; exact hb; exact hL x hx⟩
theorem c5 : Tryz.prog.cellsOf 5 = 1 := by kernel_rfl
end

theorem own : ownKnob Tryz.prog.godebug = none := by kernel_rfl
theorem laidOut : laidOutB Tryz.prog = true := by kernel_rfl
end Go.Proofs.YtajeeghgiilhiaaGreat
end
section
/- The reading of books, of orders, of strings. -/
namespace Go.Proofs.YtajeeghgiilhiaaGreat
open Go.ChangeShapes Go.WideShapes Go.ChangeAt Go.RowKit Go.Joins Go.Abs Go.Bk
set_option linter.unusedVariables false
set_option linter.unusedSimpArgs false
theorem VR0.agg_map {im : Im} {cs cs' : List AV} {v : Value} (hl : cs.length = cs'.length) (h : ∀ (i : Nat) (c c' : AV) (u : Value), cs[i]? = some c → cs'[i]? = some c' → VR0 im c u → VR0 im c' u) (hv : VR0 im (.agg cs) v) : VR0 im (.agg cs') v := by
  cases hv with
  | agg _ vs hn hh =>
    refine .agg cs' vs (by rw [hn, hl]) fun i c u h1 h2 => ?_
    have hi : i < cs.length := by rw [hl]; exact (List.getElem?_eq_some_iff.1 h1).1
    exact h i cs[i] c u (by simp) h1 (hh i cs[i] u (by simp) h2)
section
variable {H : Type} {enc : TypeId × Value → H}
variable {w : World} {r : Reach} {b0 base : Nat} {spare : Nat → Bool} {held : Bool} {v : Value} {d : DataW H} {ps : List MemPlace}
theorem c65 : Tryz.prog.cellsOf 65 = 8 := by kernel_rfl
theorem c106 : Tryz.prog.cellsOf 106 = 9 := by kernel_rfl
theorem c9 : Tryz.prog.cellsOf 9 = 1 := by kernel_rfl
theorem c26 : Tryz.prog.cellsOf 26 = 5 := by kernel_rfl
set_option maxRecDepth 100000 in
theorem arg_str (hv : Value.okWide Tryz.prog w r b0 9 v) (hd : DataW.Trod enc Tryz.prog w base spare held 9 v d ps) : ∃ s : List UInt8, VR0 (imOf w) (str s) v := by
  obtain ⟨l, _, h⟩ := arg_string Tryz.underlying9 hv hd
  exact ⟨l, h⟩
theorem sl_of {α : Type} {f : α → AV} {k : Nat} {S : List AV → Prop} {ag : Bool} (hf : ∀ l, S l → ∃ a : α, elOf ag l = f a) {ls : List AV} (h : ls = [.nilS] ∨ ∃ es : List AV, es.length ≤ maxLen ∧ (∀ x ∈ es, ∃ l, S l ∧ x = elOf ag l) ∧ ls = [.sl none k es]) :
    ∃ l : List α, l.length ≤ 9223372036854775807 ∧ ∃ y, ls = [y] ∧ ∀ im v, VR0 im y v → VR0 im (.sl none k (l.map f)) v := by
  rcases h with rfl | ⟨es, h1, h2, rfl⟩
  · exact ⟨[], by simp, _, rfl, fun im v hv => VR0.of_nil hv⟩
  · obtain ⟨L, rfl, _⟩ := list_map (f := f) (Q := fun _ => True) (es := es) (fun y hy => by
      obtain ⟨l, hl, rfl⟩ := h2 y hy
      obtain ⟨a, ha⟩ := hf l hl
      exact ⟨a, trivial, ha⟩)
    exact ⟨L, by unfold maxLen at h1; simpa using h1, _, rfl, fun im v hv => hv⟩
set_option maxRecDepth 100000 in
theorem reads_od : Reads enc Tryz.prog 65 8 fun l => ∃ a : Od, elOf true l = odV a := fun w base spare held fuel cs x hx => by
  obtain ⟨ls, ⟨_, _, ⟨s1, k1, rfl⟩, ⟨_, _, ⟨s2, k2, rfl⟩, ⟨_, _, ⟨s3, k3, rfl⟩, ⟨_, _, ⟨b4, rfl⟩, ⟨_, _, ⟨n5, k5, rfl⟩, ⟨_, _, ⟨n6, k6, rfl⟩, ⟨_, _, ⟨n7, k7, rfl⟩, ⟨_, _, ⟨b8, rfl⟩, rfl, rfl⟩, rfl⟩, rfl⟩, rfl⟩, rfl⟩, rfl⟩, rfl⟩, rfl⟩, h2, h3⟩ := reads_struct Tryz.underlying65 rfl c65 (readsF_cons (reads_string Tryz.underlying9) (by kernel_rfl) rfl (readsF_cons (reads_string Tryz.underlying9) (by kernel_rfl) rfl (readsF_cons (reads_string Tryz.underlying9) (by kernel_rfl) rfl (readsF_cons (reads_bool Tryz.underlying4) (by kernel_rfl) rfl (readsF_cons (reads_int Tryz.underlying2) (by kernel_rfl) rfl (readsF_cons (reads_int Tryz.underlying2) (by kernel_rfl) rfl (readsF_cons (reads_int Tryz.underlying2) (by kernel_rfl) rfl (readsF_cons (reads_bool Tryz.underlying4) (by kernel_rfl) rfl (readsF_nil 8))))))))) w base spare held fuel cs x hx
  exact ⟨_, ⟨⟨s1, s2, s3, b4, n5, n6, n7, b8⟩, rfl⟩, h2, h3⟩
set_option maxRecDepth 100000 in
theorem reads_dn : Reads enc Tryz.prog 106 9 fun l => ∃ a : Dn, elOf true l = dnV a := fun w base spare held fuel cs x hx => by
  obtain ⟨ls, ⟨_, _, ⟨s1, k1, rfl⟩, ⟨_, _, ⟨s2, k2, rfl⟩, ⟨_, _, ⟨s3, k3, rfl⟩, ⟨_, _, ⟨s4, k4, rfl⟩, ⟨_, _, ⟨b5, rfl⟩, ⟨_, _, ⟨n6, k6, rfl⟩, ⟨_, _, ⟨n7, k7, rfl⟩, ⟨_, _, ⟨n8, k8, rfl⟩, ⟨_, _, ⟨b9, rfl⟩, rfl, rfl⟩, rfl⟩, rfl⟩, rfl⟩, rfl⟩, rfl⟩, rfl⟩, rfl⟩, rfl⟩, h2, h3⟩ := reads_struct Tryz.underlying106 rfl c106 (readsF_cons (reads_string Tryz.underlying9) (by kernel_rfl) rfl (readsF_cons (reads_string Tryz.underlying9) (by kernel_rfl) rfl (readsF_cons (reads_string Tryz.underlying9) (by kernel_rfl) rfl (readsF_cons (reads_string Tryz.underlying9) (by kernel_rfl) rfl (readsF_cons (reads_bool Tryz.underlying4) (by kernel_rfl) rfl (readsF_cons (reads_int Tryz.underlying2) (by kernel_rfl) rfl (readsF_cons (reads_int Tryz.underlying2) (by kernel_rfl) rfl (readsF_cons (reads_int Tryz.underlying2) (by kernel_rfl) rfl (readsF_cons (reads_bool Tryz.underlying4) (by kernel_rfl) rfl (readsF_nil 9)))))))))) w base spare held fuel cs x hx
  exact ⟨_, ⟨⟨s1, s2, s3, s4, b5, n6, n7, n8, b9⟩, rfl⟩, h2, h3⟩
set_option maxRecDepth 100000 in
theorem arg_book (hv : Value.okWide Tryz.prog w r b0 26 v) (hd : DataW.Trod enc Tryz.prog w base spare held 26 v d ps) : ∃ b : Bk, (b.orders.length ≤ 9223372036854775807 ∧ b.fills.length ≤ 9223372036854775807 ∧ b.ids.length ≤ 9223372036854775807) ∧ VR0 (imOf w) (bkV b) v := by
  obtain ⟨ls, ⟨_, _, h1, ⟨_, _, h2, ⟨_, _, h3, ⟨_, _, ⟨n4, k4, rfl⟩, ⟨_, _, ⟨n5, k5, rfl⟩, rfl, rfl⟩, rfl⟩, rfl⟩, rfl⟩, rfl⟩, hx⟩ := arg_struct Tryz.underlying26 (reads_struct Tryz.underlying26 rfl c26
    (readsF_cons (reads_slice true Tryz.underlying22 c65 (by decide) (fun h => by cases h) reads_od) (by kernel_rfl) rfl (readsF_cons (reads_slice true Tryz.underlying23 c106 (by decide) (fun h => by cases h) reads_dn) (by kernel_rfl) rfl (readsF_cons (reads_slice false Tryz.underlying24 c9 (by decide) (fun _ => rfl) (reads_string Tryz.underlying9)) (by kernel_rfl) rfl (readsF_cons (reads_int Tryz.underlying2) (by kernel_rfl) rfl (readsF_cons (reads_int Tryz.underlying3) (by kernel_rfl) rfl (readsF_nil 5))))))) hv hd
  obtain ⟨os, o1, y1, rfl, g1⟩ := sl_of (f := odV) (fun l h => h) h1
  obtain ⟨fs, o2, y2, rfl, g2⟩ := sl_of (f := dnV) (fun l h => h) h2
  obtain ⟨ids, o3, y3, rfl, g3⟩ := sl_of (f := str) (fun l h => by obtain ⟨s, _, rfl⟩ := h; exact ⟨s, rfl⟩) h3
  refine ⟨⟨os, fs, ids, n4, n5⟩, ⟨o1, o2, o3⟩, VR0.agg_map (by rfl) ?_ hx⟩
  intro i c c' u e1 e2 hc
  match i, e1, e2 with
  | 0, e1, e2 => cases e1; cases e2; exact g1 _ _ hc
  | 1, e1, e2 => cases e1; cases e2; exact g2 _ _ hc
  | 2, e1, e2 => cases e1; cases e2; exact g3 _ _ hc
  | 3, e1, e2 => cases e1; cases e2; exact hc
  | 4, e1, e2 => cases e1; cases e2; exact hc
  | i + 5, e1, e2 => simp at e1
theorem cP : Tryz.prog.cellsOf 49 = 5 := by kernel_rfl
set_option maxRecDepth 100000 in
theorem reads_po : Reads enc Tryz.prog 49 5 fun l => ∃ a : Po, elOf true l = poV a := fun w base spare held fuel cs x hx => by
  obtain ⟨ls, ⟨_, _, ⟨s1, k1, rfl⟩, ⟨_, _, ⟨s2, k2, rfl⟩, ⟨_, _, ⟨n3, k3, rfl⟩, ⟨_, _, ⟨n4, k4, rfl⟩, ⟨_, _, ⟨b5, rfl⟩, rfl, rfl⟩, rfl⟩, rfl⟩, rfl⟩, rfl⟩, h2, h3⟩ := reads_struct Tryz.underlying49 rfl cP (readsF_cons (reads_string Tryz.underlying9) (by kernel_rfl) rfl (readsF_cons (reads_string Tryz.underlying9) (by kernel_rfl) rfl (readsF_cons (reads_int Tryz.underlying2) (by kernel_rfl) rfl (readsF_cons (reads_int Tryz.underlying2) (by kernel_rfl) rfl (readsF_cons (reads_bool Tryz.underlying4) (by kernel_rfl) rfl (readsF_nil 5)))))) w base spare held fuel cs x hx
  exact ⟨_, ⟨⟨s1, s2, n3, n4, b5⟩, rfl⟩, h2, h3⟩
set_option maxRecDepth 100000 in
theorem arg_poss (hv : Value.okWide Tryz.prog w r b0 27 v) (hd : DataW.Trod enc Tryz.prog w base spare held 27 v d ps) : ∃ l : List Po, l.length ≤ 9223372036854775807 ∧ VR0 (imOf w) (posV l) v := by
  obtain ⟨x, hx, h⟩ := arg_slice true Tryz.underlying27 cP (by decide) (fun h => by cases h) reads_po hv hd
  obtain ⟨l, hl, y, hy, h2⟩ := sl_of (f := poV) (ls := [x]) (k := 5) (ag := true) (fun l h => h) (by
    rcases h with rfl | ⟨es, h1, h2, rfl⟩
    · exact .inl rfl
    · exact .inr ⟨es, h1, h2, rfl⟩)
  cases hy
  exact ⟨l, hl, h2 _ _ hx⟩
theorem c4 : Tryz.prog.cellsOf 4 = 1 := by kernel_rfl
end
end Go.Proofs.YtajeeghgiilhiaaGreat
end
section
/- RollRight: a book is closed, and positions are carried, as the document says. No condition. -/
namespace Go.Proofs.YtajeeghgiilhiaaGreat
open Go.ChangeShapes Go.WideShapes Go.ChangeAt Go.RowKit Go.Joins Go.Abs Go.Bk
set_option linter.unusedVariables false
set_option linter.unusedSimpArgs false

set_option maxRecDepth 100000 in
theorem rollRight_lifted (os : Os) (started : os.Started) (H : Type) (enc : TypeId × Value → H) :
    ReturnsInHanded {} Tryz.checked os 3 .any (Rows.rollRightSpec.pre6 enc Tryz.prog Tryz.f3 Rows.rollRightRow.domain false) (Rows.rollRightSpec.post enc Tryz.prog Tryz.f3 false true false false) := by
  refine returnsInHanded_of_change (C := Tryz.checked) own started (by kernel_rfl) Tryz.func3
    (ChangeSpec.witness6 (enc := enc) (C := Tryz.checked) false ⟨#[], #[.agg #[.slice none 0 0, .slice none 0 0, .slice none 0 0, .int .i64 0, .int .i64 0], .slice none 0 0, .slice none 0 0, .string ⟨#[]⟩, .string ⟨#[]⟩], []⟩ 8 (by kernel_rfl) (by kernel_rfl) (by kernel_rfl) (by kernel_rfl)) ?_
  intro W base args ds gs before hval0 hW hcnd _
  have hval : ∀ (j : Nat) t v, Tryz.f3.params[j]? = some t → args[j]? = some v → Value.okWide Tryz.prog W .any base t v := hval0
  have hW' := hW
  obtain ⟨p, q, hA0, hV, rfl, hfz, hnd⟩ := hW
  have hA : DataW.TrodAll enc Tryz.prog W 0 (fun _ => true) true Tryz.f3.params.toList args.toList ds p := hA0
  rw [Tryz.params3] at hA hval
  obtain ⟨rfl, rfl⟩ := trodVars_none hV
  obtain ⟨v0, vs0, d0, ds0, p0, q0, e0, rfl, rfl, h0, hA⟩ := trodAll_cons hA
  obtain ⟨v1, vs1, d1, ds1, p1, q1, rfl, rfl, rfl, h1, hA⟩ := trodAll_cons hA
  obtain ⟨v2, vs2, d2, ds2, p2, q2, rfl, rfl, rfl, h2, hA⟩ := trodAll_cons hA
  obtain ⟨v3, vs3, d3, ds3, p3, q3, rfl, rfl, rfl, h3, hA⟩ := trodAll_cons hA
  obtain ⟨v4, vs4, d4, ds4, p4, q4, rfl, rfl, rfl, h4, hA⟩ := trodAll_cons hA
  obtain ⟨rfl, rfl, rfl⟩ := trodAll_nil hA
  have hargs : args = #[v0, v1, v2, v3, v4] := by apply Array.ext'; simpa using e0
  subst hargs
  obtain ⟨b0, ⟨ko, kf, ki⟩, x0⟩ := arg_book (hval 0 26 v0 rfl rfl) h0
  obtain ⟨l1, k1, x1⟩ := arg_poss (hval 1 27 v1 rfl rfl) h1
  obtain ⟨l2, k2, x2⟩ := arg_poss (hval 2 27 v2 rfl rfl) h2
  obtain ⟨s3, x3⟩ := arg_str (hval 3 9 v3 rfl rfl) h3
  obtain ⟨s4, x4⟩ := arg_str (hval 4 9 v4 rfl rfl) h4
  exact (calls_law (E := E) trivial (fun g cs e => by simp [E] at e) (rollRight_c b0 l1 l2 s3 s4 ko kf ki k1 k2) (pw0_cons x0 (pw0_cons x1 (pw0_cons x2 (pw0_cons x3 (pw0_cons x4 pw0_nil)))))).mono fun e W' ⟨he, hB⟩ => ⟨_, he, law_post laidOut (by kernel_rfl) rfl rfl Tryz.underlying4 hW' hB rfl⟩

set_option maxRecDepth 100000 in
theorem rollRight_holds : Rows.RollRightSaid :=
  OpenClaim.holds_of_wide 3 Tryz.f3 rfl rfl rfl rfl rfl rfl rfl ⟨rfl, rfl, rfl, rfl, rfl⟩ rfl rfl rfl rfl rfl (by kernel_rfl) Tryz.func3 (by kernel_rfl)
    (of_decide_eq_true (by kernel_rfl)) (by unfold Func.isWrapper; first | (rw [if_pos (by decide +kernel)]; kernel_rfl) | (rw [if_neg (by decide +kernel)]; exact ⟨rfl, rfl⟩))
    (fun os started H enc _ => rollRight_lifted os started H enc)
end Go.Proofs.YtajeeghgiilhiaaGreat
end
