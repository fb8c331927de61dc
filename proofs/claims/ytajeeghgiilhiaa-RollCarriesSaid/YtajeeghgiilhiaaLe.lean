/- The layer, the plain facts: several texts of one chain, put together (SqA, SqB, SqC). -/
import Derived.Shelf.SlIter.Sorted
import Derived.Test.YtajeeghgiilhiaaLd
import Derived.Test.YtajeeghgiilhiaaLc
/- slices.Sorted against an iterator that reads what lay before: the library's own proofs, turned: the caller's invariant tells that nothing old has turned. -/
namespace Go.Proofs
open Go.RowKit Go.Maps Go.Sort Go.Shelf
set_option linter.unusedVariables false
set_option linter.unusedSimpArgs false
variable {P : Program} {ρ : Ren}
/-- An iterator's word, to those who keep what lay in w. -/
def SeqB {α : Type} (F : Fence) (n : Nat) (P : Program) (g : Nat) (lb : Array Value) (enc : α → Value) (S : List α → Prop) (N : Nat) (w : World) : Prop :=
  ∀ (l : Nat) (J : List α → World → Prop) (W : World), Below w.heap.size w W → AbidesFrom W.heap.size J → (∀ pre W1, J pre W1 → Below w.heap.size w W1) →
    (∀ pre x W1, J pre W1 → pre.length < N → YieldAt F (n - 1) P l #[enc x] W1 fun e W' => e = .returned (.bool true) ∧ J (pre ++ [x]) W' ∧ KeepsWalks W1 W') →
    J [] W → CallsIn F n P g (#[.func (.yield l) #[] #[]] ++ lb) W fun e W' => (∃ v, e = .returned v) ∧ ∃ xs, S xs ∧ J xs W'
theorem SeqB.upto {α : Type} {F : Fence} {n : Nat} {P : Program} {g : Nat} {lb : Array Value} {enc : α → Value} {S : List α → Prop} {N : Nat} {w : World}
    (h : SeqB F n P g lb enc S N w) : SeqB F n P g lb enc (fun xs => S xs ∧ xs.length ≤ N) N w := fun l J W hW hJ hB hY h0 => by
  refine (h l (fun xs W' => J xs W' ∧ xs.length ≤ N) W hW (fun s A B row hs hg hr => ⟨hJ s A B row hs.1 hg hr, hs.2⟩) (fun pre W1 hj => hB pre W1 hj.1)
    (fun pre x W1 hj hl => (hY pre x W1 hj.1 hl).mono (fun e w' hr => ⟨hr.1, ⟨hr.2.1, by simp; omega⟩, hr.2.2⟩)) ⟨h0, Nat.zero_le _⟩).mono ?_
  rintro e W' ⟨hv, xs, hS, hJ', hlen⟩
  exact ⟨hv, xs, ⟨hS, hlen⟩, hJ'⟩

set_option maxRecDepth 100000 in
set_option maxHeartbeats 2000000 in
theorem Sq.appendSeq_b (L : SlLaysZ.n11 P ρ) (F : Fence) (n : Nat) (h11 : F.fn (ρ.f 11)) (hro : F.round = none) (hn : 2 ≤ n) (g : Nat) (lb : Array Value) (hFg : F.fn g) (eg : ∀ args w, (callFunc g args).run P w = .ok (.enter g args) w)
    (S : List (List UInt8) → Prop) (N : Nat) (hN : N ≤ maxLen) (hNb : N * 16 ≤ 140737488355328) (w : World) (hseq : SeqB F (n - 1) P g lb encStr S N w) :
    CallsIn F n P (ρ.f 11) #[.slice none 0 0, .func (.func g) #[] lb] w fun e w' => ∃ (v : Value) (ss : List (List UInt8)), e = .returned v ∧ S ss ∧ w'.ownsRow w.heap.size (ρ.t 26) 1 v ss.length (ss.map encStr) ∧ (v = .slice none 0 0 ↔ ss = []) ∧ Below w.heap.size w w' := by
  have h1 : 1 ≤ n := by omega
  have mixed := L.mixed; have t0 := L.t0; have a0 := L.a0; have z0 := L.z0; have v0 := L.v0; have t24 := L.t24; have a24 := L.a24; have z24 := L.z24; have v24 := L.v24; have t26 := L.t26; have a26 := L.a26; have z26 := L.z26; have v26 := L.v26; have t28 := L.t28; have a28 := L.a28; have z28 := L.z28; have v28 := L.v28
  have hne : ρ.t 24 ≠ ρ.t 26 := fun e => by have h := L.t24; rw [e, L.t26] at h; cases h
  have u0 := run_underlying L.t0; have u24 := run_underlying L.t24; have u26 := run_underlying L.t26; have u28 := run_underlying L.t28
  obtain ⟨_, _, FG⟩ := L.f11
  refine callsIn_of_wp_marks FG rfl h11 ?_ hro
  simp only [SlBodyZ.n11_ntmps ρ, List.size_toArray, List.length_cons, List.length_nil, Nat.reduceAdd, Nat.reduceSub, Array.replicate_succ, Array.replicate_zero, List.push_toArray, List.append_toArray, List.nil_append, List.cons_append]
  gi_wp2
  refine wpIn_rangeFunc ?_
  intro fn hfn
  rw [hro]
  obtain ⟨W0, hW0⟩ : ∃ W0, w.alloc (.cells #[.slice none 0 0] (ρ.t 24)) = W0 := ⟨_, rfl⟩
  have hs0 : W0.heap.size = w.heap.size + 1 := by rw [← hW0]; simp
  have hv0 : W0.heap[w.heap.size]? = some (.cells #[.slice none 0 0] (ρ.t 24) (0, 0)) := by rw [← hW0]; exact World.alloc_heap_new w _
  have hb0 : Below w.heap.size w W0 := by rw [← hW0]; exact (Below.refl _ w).alloc (Nat.le_refl _) _
  rw [hW0]
  obtain ⟨W1, hW1⟩ : ∃ W1, (W0.alloc (.deferred (some []))).alloc (.loop (AnyZ.apRec ρ fn (.func (.func g) #[] lb) w.heap.size W0.heap.size .ready none)) = W1 := ⟨_, rfl⟩
  have hold : ∀ k, k < W0.heap.size → W1.heap[k]? = W0.heap[k]? := fun k hk => by
    rw [← hW1]; exact (Below.heap_alloc _ _ k (by simp; omega)).trans (Below.heap_alloc _ _ k hk)
  have hb1 : Below w.heap.size w W1 := by rw [← hW1]; exact (hb0.alloc hb0.size _).alloc (by have := hb0.size; simp; omega) _
  have hs1 : W1.heap.size = W0.heap.size + 2 := by rw [← hW1]; simp
  have hM : AnyZ.ApAt ρ w fn (.func (.func g) #[] lb) w.heap.size (W0.heap.size + 1) W0.heap.size [] W1 :=
    ⟨⟨_, (hold w.heap.size (by omega)).trans hv0, ⟨rfl, .inl ⟨rfl, rfl⟩⟩, by simp⟩,
     by rw [← hW1]; have := World.alloc_heap_new (W0.alloc (.deferred (some []))) (.loop (AnyZ.apRec ρ fn (.func (.func g) #[] lb) w.heap.size W0.heap.size .ready none)); rwa [World.size_alloc] at this,
     by rw [← hW1]; exact (Below.heap_alloc _ _ _ (by simp)).trans (World.alloc_heap_new W0 _), hb1⟩
  refine ⟨W0.heap.size + 1, [{ target := .collected W0.heap.size, args := #[] }], W1, { target := .fn (.func g) lb, args := #[.func (.yield (W0.heap.size + 1)) #[] #[]] }, W1, g,
    #[.func (.yield (W0.heap.size + 1)) #[] #[]] ++ lb, W1, ?_, ?_, ?_, ?_, fun _ => h1, ?_⟩
  · rw [← hW1]; exact run_enterLoop_outer _ _ _ _ _
  · simp [resolve, go_sem]
  · intro f' hf'; simp [Target.leads] at hf'; subst hf'; exact hFg
  · simp [invoke, go_sem, eg]
  · refine (hseq (W0.heap.size + 1) (AnyZ.ApAt ρ w fn (.func (.func g) #[] lb) w.heap.size (W0.heap.size + 1) W0.heap.size) W1 hb1 (AnyZ.ap_abides ρ _ _ _ _ _ _ _ hb1.size) (fun pre W hJ => hJ.below)
      (fun pre x W hJ hl => AnyZ.apYield { L with } F (n - 1 - 1) w fn hfn _ w.heap.size (W0.heap.size + 1) W0.heap.size (by omega) (by omega) (by omega) (Nat.le_refl _) (by omega) N hN hNb pre x W hJ hl) hM).mono ?_
    rintro e W2 ⟨⟨v0, rfl⟩, ss, hS, h2⟩
    obtain ⟨v, hv, hrow, hnil⟩ := h2.box
    have hend := run_endLoop (P := P) h2.L (by simp [AnyZ.apRec])
    obtain ⟨W3, hW3⟩ : ∃ W3, W2.putObj (W0.heap.size + 1) (.loop { AnyZ.apRec ρ fn (.func (.func g) #[] lb) w.heap.size W0.heap.size .ready none with state := .exhausted }) = W3 := ⟨_, rfl⟩
    rw [hW3] at hend
    have hg3 : W2.grownBy W3 (some (W0.heap.size + 1)) := by rw [← hW3]; exact grownBy_putObj_a _ _ _
    have hv3 : W3.heap[w.heap.size]? = some (.cells #[v] (ρ.t 24) (0, 0)) := by rw [← hW3]; exact (World.putObj_heap_other (by omega)).trans hv
    have hK3 : W3.heap[W0.heap.size]? = some (.deferred (some [])) := by rw [← hW3]; exact (World.putObj_heap_other (by omega)).trans h2.K
    have hrow3 := hrow.kept hg3 (ownsRow_ne_a hrow h2.L (fun cur e => by first | cases e | exact hne (Obj.cells.inj e).2.1))
    have hb3 : Below w.heap.size w W3 := h2.below.grown hg3 h2.below.size (fun k e => by cases e; omega)
    obtain ⟨hc3, hf3⟩ := cell_of_box_a hv3
    clear hW3
    refine ⟨none, W3, hend, ?_⟩
    gi_wp2
    rw [← hs0]
    refine ⟨by simp, .inl ⟨_, _, rfl, run_takeDeferred hK3, ?_⟩⟩
    exact ⟨_, results_tmp rfl _ _ _, v, ss, rfl, hS, hrow3.kept (grownBy_putObj_a _ _ _) (ownsRow_ne_a hrow3 hK3 (fun cur e => by first | cases e | exact hne (Obj.cells.inj e).2.1)), hnil, hb3.grown (grownBy_putObj_a _ _ _) hb3.size (fun k e => by cases e; omega)⟩

set_option maxHeartbeats 1000000 in
theorem Sq.collect_b (L : SlLaysZ.n8 P ρ) (F : Fence) (n : Nat) (h8 : F.fn (ρ.f 8)) (h11 : F.fn (ρ.f 11)) (hro : F.round = none) (hn : 3 ≤ n) (g : Nat) (lb : Array Value) (hFg : F.fn g) (eg : ∀ args w, (callFunc g args).run P w = .ok (.enter g args) w)
    (S : List (List UInt8) → Prop) (N : Nat) (hN : N ≤ maxLen) (hNb : N * 16 ≤ 140737488355328) (w : World) (hseq : SeqB F (n - 1 - 1) P g lb encStr S N w) :
    CallsIn F n P (ρ.f 8) #[.func (.func g) #[] lb] w fun e w' => ∃ (v : Value) (ss : List (List UInt8)), e = .returned v ∧ S ss ∧ w'.ownsRow w.heap.size (ρ.t 26) 1 v ss.length (ss.map encStr) ∧ (v = .slice none 0 0 ↔ ss = []) ∧ Below w.heap.size w w' := by
  have h1 : 1 ≤ n := by omega
  have e11 : ∀ args w, (callFunc (ρ.f 11) args).run P w = .ok (.enter (ρ.f 11) args) w := L.f11.enters rfl
  have mixed := L.mixed; have t0 := L.t0; have a0 := L.a0; have z0 := L.z0; have v0 := L.v0; have t24 := L.t24; have a24 := L.a24; have z24 := L.z24; have v24 := L.v24; have t26 := L.t26; have a26 := L.a26; have z26 := L.z26; have v26 := L.v26; have t28 := L.t28; have a28 := L.a28; have z28 := L.z28; have v28 := L.v28
  have u0 := run_underlying L.t0; have u24 := run_underlying L.t24; have u26 := run_underlying L.t26; have u28 := run_underlying L.t28
  obtain ⟨_, _, FG⟩ := L.f8
  refine callsIn_of_wp FG rfl h8 ?_ hro
  simp only [SlBodyZ.n8_ntmps ρ, List.size_toArray, List.length_cons, List.length_nil, Nat.reduceAdd, Nat.reduceSub, Array.replicate_succ, Array.replicate_zero, List.push_toArray, List.append_toArray, List.nil_append, List.cons_append]
  gi_wp2_with (gi_at_fn (ρ.f 11); refine (Sq.appendSeq_b { L with } F (n - 1) h11 hro (by omega) g lb hFg eg S N hN hNb _ hseq).mono ?_; rintro e w' ⟨v, ss, rfl, hS, hrow, hnil, hb⟩)
  go_ret
  exact ⟨v, ss, rfl, hS, hrow, hnil, hb⟩

set_option maxRecDepth 100000 in
set_option maxHeartbeats 2000000 in
theorem Sq.sorted_b (L : SlLaysZ.n6 P ρ) (F : Fence) (n : Nat) (h6 : F.fn (ρ.f 6)) (h8 : F.fn (ρ.f 8)) (h9 : F.fn (ρ.f 9)) (h11 : F.fn (ρ.f 11)) (hro : F.round = none) (hn : 4 ≤ n) (hsort : AnyZ.SortsIn P ρ F (n - 1)) (e9 : ∀ args w, (callFunc (ρ.f 9) args).run P w = .ok (.enter (ρ.f 9) args) w) (g : Nat) (lb : Array Value) (hFg : F.fn g) (eg : ∀ args w, (callFunc g args).run P w = .ok (.enter g args) w)
    (S : List (List UInt8) → Prop) (N : Nat) (hN : N ≤ maxLen) (hNb : N * 16 ≤ 140737488355328) (w : World) (hseq : SeqB F (n - 1 - 1 - 1) P g lb encStr S N w) :
    CallsIn F n P (ρ.f 6) #[.func (.func g) #[] lb] w fun e w' => ∃ (v : Value) (ss : List (List UInt8)), e = .returned v ∧ S ss ∧
      w'.ownsRow w.heap.size (ρ.t 26) 1 v ss.length ((ss.mergeSort (fun x y => decide (x ≤ y))).map encStr) ∧ (v = .slice none 0 0 ↔ ss = []) ∧ Below w.heap.size w w' := by
  have h1 : 1 ≤ n := by omega
  have e8 : ∀ args w, (callFunc (ρ.f 8) args).run P w = .ok (.enter (ρ.f 8) args) w := L.f8.enters rfl
  have mixed := L.mixed; have t0 := L.t0; have a0 := L.a0; have z0 := L.z0; have v0 := L.v0; have t24 := L.t24; have a24 := L.a24; have z24 := L.z24; have v24 := L.v24; have t26 := L.t26; have a26 := L.a26; have z26 := L.z26; have v26 := L.v26; have t28 := L.t28; have a28 := L.a28; have z28 := L.z28; have v28 := L.v28
  have u0 := run_underlying L.t0; have u24 := run_underlying L.t24; have u26 := run_underlying L.t26; have u28 := run_underlying L.t28
  obtain ⟨_, _, FG⟩ := L.f6
  refine callsIn_of_wp FG rfl h6 ?_ hro
  simp only [SlBodyZ.n6_ntmps ρ, List.size_toArray, List.length_cons, List.length_nil, Nat.reduceAdd, Nat.reduceSub, Array.replicate_succ, Array.replicate_zero, List.push_toArray, List.append_toArray, List.nil_append, List.cons_append]
  gi_wp2_with (gi_at_fn (ρ.f 8); refine (Sq.collect_b { L with } F (n - 1) h8 h11 hro (by omega) g lb hFg eg _ N hN hNb _ hseq.upto).mono ?_; rintro e W ⟨v, ss, rfl, ⟨hS, hlen⟩, hrow, hnil, hb⟩)
  rcases hrow.2 with ⟨rfl, hz⟩ | ⟨gb, cap, cur, rfl, hbase, hgb, r1, r2, r3, r4⟩
  · -- nothing came: the nil slice is sorted and handed back
    have hss : ss = [] := List.eq_nil_of_length_eq_zero hz
    subst hss
    gi_wp2_with (gi_at_fn (ρ.f 9); refine (hsort.2 none 0 W).mono ?_; rintro e w' ⟨rfl, rfl⟩)
    go_ret
    exact ⟨.slice none 0 0, [], rfl, hS, by simpa using hrow, by simp, hb⟩
  · have hH : Holds encStr W gb 0 ss.toArray := holds_of_block hgb (by simpa using r4)
    have hgl : gb < W.heap.size := (Array.getElem?_eq_some_iff.1 hgb).1
    have hsz : ss.length < 4611686018427387904 := by omega
    have cS := hsort.1 gb 0 cap ss W hH hgl hsz
    gi_wp2_with (gi_at_fn (ρ.f 9); refine cS.mono ?_; rintro e w' ⟨rfl, nn, os, rfl⟩)
    go_ret
    exact ⟨_, ss, rfl, hS, ownsRow_sorted (by simp) hbase hgb r1 r2 r3, hnil, hb.grown (grownBy_sorted _) hb.size (fun j hj => by cases hj; exact hbase)⟩

end Go.Proofs

/- A contract whose row is new memory, told by its content; strings as cells. -/
set_option linter.unusedVariables false
set_option linter.unusedSimpArgs false
namespace Go.Abs
open Go Go.RowKit Go.Sort Go.Proofs Go.Maps

/-- Where nothing is own. -/
theorem Rel.start {w : World} {im : Im} (E : Env) (hG : GOK E im) (hok : ∀ (b o : Nat) (x : Value), im b o = some x → w.cell? ⟨b, o, none⟩ = some x) :
    Rel w ⟨im, [], E.dr⟩ ⟨[], [], im⟩ ⟨[], [], [], E.gl, none, []⟩ { tmps := #[], defers := [] } w :=
  ⟨⟨rfl, fun b o hb => by
      cases h : im b o with
      | none => exact h
      | some x => exact absurd (World.block_lt_of_cell? w ⟨b, o, none⟩ (hok b o x h)) (Nat.not_lt.2 hb)⟩, rfl, by simp, Below.refl _ _, .refl _, fun _ _ _ => rfl, hok, rfl, by simp, rfl, by simp, by simp, ⟨by simp, by simp, by simp⟩, fun g cs h => hG g cs h, ⟨rfl, by simp⟩, fun l d i h => by simp at h⟩
theorem ACalls.of_rel {E : Env} {f : FuncId} {args : List AV} {R : AV → List Nat → Prop}
    (h : ∀ (w : World) (im : Im) (vs : List Value), E.ok w → GOK E im → (∀ (b o : Nat) (x : Value), im b o = some x → w.cell? ⟨b, o, none⟩ = some x) → Pw0 im args vs → Calls E.P f vs.toArray w fun e w' => ∃ v, e = .returned v ∧
      ∃ c st a, Rel w ⟨im, [], E.dr⟩ c st a w' ∧ ∃ x, VR c x v ∧ ∃ sel y, selOK st.tk.length sel = true ∧ OutT sel x y ∧ R y (selLens st.tk sel)) : ACalls E f args R := by
  intro w im vs hE hG hok hpw
  refine (h w im vs hE hG hok hpw).mono ?_
  rintro e w' ⟨v, rfl, c', st', a, r', x, hv, sel, y, h3, h4, h5⟩
  refine ⟨v, y, selTk c' sel, c'.im, rfl, r'.below, r'.imle, r'.imold, r'.imok, selToks r' h3, outT_ok r' h3 hv h4, ?_⟩
  rw [selLens_eq r' h3]; exact h5
theorem cells_strs {im : Im} {l : List (List UInt8)} {cs : List Value} (h : cs.take l.length = l.map encStr) : Cells im 1 (l.map str) cs := by
  refine ⟨fun i e he => ?_, fun i e j c he hc => ?_⟩
  · rw [List.getElem?_map] at he
    cases hl : l[i]? with
    | none => simp [hl] at he
    | some b => simp only [hl, Option.map_some, Option.some.injEq] at he; subst he; rfl
  · rw [List.getElem?_map] at he
    cases hl : l[i]? with
    | none => simp [hl] at he
    | some b =>
      simp only [hl, Option.map_some, Option.some.injEq] at he; subst he
      have hlt : i < l.length := (List.getElem?_eq_some_iff.1 hl).1
      have h1 : (cs.take l.length)[i]? = cs[i]? := by rw [List.getElem?_take, if_pos hlt]
      cases j with
      | succ j => simp [AV.leaves] at hc
      | zero =>
        simp only [AV.leaves, List.getElem?_cons_zero, Option.some.injEq] at hc; subst hc
        refine ⟨encStr b, ?_, .v _, rfl⟩
        rw [Nat.mul_one, Nat.add_zero, ← h1, h]
        simp [hl]
/-- A row of strings in new memory. -/
theorem ACalls.of_strs {E : Env} {f : FuncId} {args : List AV} {l : List (List UInt8)} {ty : TypeId}
    (h : ∀ (w : World) (im : Im) (vs : List Value), E.ok w → GOK E im → (∀ (b o : Nat) (x : Value), im b o = some x → w.cell? ⟨b, o, none⟩ = some x) → Pw0 im args vs → Calls E.P f vs.toArray w fun e w' => ∃ v, e = .returned v ∧
      w'.ownsRow w.heap.size ty 1 v l.length (l.map encStr) ∧ Go.RowKit.Below w.heap.size w w') (hdr : ¬ E.dr := by exact fun h => h) : ACalls E f args (fun r t => r = .sl (some 0) 1 (l.map str) ∧ t = [l.length]) := by
  refine ACalls.of_rel fun w im vs hE hG hok hpw => (h w im vs hE hG hok hpw).mono ?_
  rintro e w' ⟨v, rfl, hrow, hb0⟩
  have hb : Below E.dr w.heap.size w w' := ⟨hb0, fun d => absurd d hdr⟩
  have r0 := Rel.start E hG hok
  refine ⟨v, rfl, ?_⟩
  rcases hrow.2 with ⟨rfl, hz⟩ | ⟨g, cap, cur, rfl, hbase, hg, h1, h2, h3, h4⟩
  · have hl : l = [] := List.eq_nil_of_length_eq_zero hz
    subst hl
    exact ⟨_, _, _, r0.ext hb, .nilS, .base .nilS, [(false, 1)], .sl (some 0) 1 [], rfl, rfl, rfl, rfl⟩
  · obtain ⟨c', hle, r1, hv⟩ := r0.newTok (k := 1) (cap := cap) (es := l.map str) (cs := cur) hb hbase hg (.inl rfl) (by rw [h3]; exact Nat.le_refl _) (by simpa using h1) (cells_strs (by simpa using h4))
    rw [List.length_map] at hv r1
    refine ⟨c', _, _, r1, _, hv, [(true, 0)], .sl (some 0) 1 (l.map str), rfl, ⟨rfl, rfl, rfl⟩, rfl, ?_⟩
    simp [selLens]
end Go.Abs

/- slices.Sort on an own row of strings. -/
set_option linter.unusedVariables false
set_option linter.unusedSimpArgs false
namespace Go.Abs
open Go Go.RowKit Go.Sort Go.Proofs Go.Maps

abbrev sortL (l : List (List UInt8)) : List (List UInt8) := l.mergeSort fun x y => decide (x ≤ y)
theorem sortL_len (l : List (List UInt8)) : (sortL l).length = l.length := List.length_mergeSort l
theorem heap_put {w : World} {g n : Nat} {os : Array Obj} {d : Array (List UInt8)} {cur : Array Value} {e : TypeId} {fz : Nat × Nat} (hb : w.heap[g]? = some (.cells cur e fz)) :
    (grow (putRow encStr (Sort.ahead w n) g 0 d) os).heap[g]? = some (.cells (putCells encStr 0 d cur) e fz) := by
  have hlt := (Array.getElem?_eq_some_iff.1 hb).1
  rw [heap_grow_old _ _ (by simpa using hlt)]
  simp [putRow, mapBlock, Sort.ahead, Array.getElem?_modify, hb, onCells]
theorem below_sorted {w : World} {B g n : Nat} {os : Array Obj} (d : Array (List UInt8)) {w0 : World} {D : Prop} (h : Below D B w0 w) (hg : B ≤ g) (hB : B ≤ w.heap.size) : Below D B w0 (grow (putRow encStr (Sort.ahead w n) g 0 d) os) :=
  h.grown (grownBy_sorted d) hB (fun j hj => by cases hj; exact hg) (Nat.le_add_right _ _)
theorem AWPL.sortS {E : Env} {Q : Exit → St → Prop} {st : St} {ops : Array Oper} {rest : List Oper} {g : FuncId} {dst : Option Tmp} {f x : Operand} {tys : Array TypeId} {ty : TypeId} {pos : String} {after : Array Edge}
    (hc : callable E.P g = true) (he : st.ev f = .fn g [])
    (hsort : ∀ (blk off cap : Nat) (ss : List (List UInt8)) (w : World), Holds encStr w blk off ss.toArray → blk < w.heap.size → ss.length < 4611686018427387904 →
      Calls E.P g #[.slice (some ⟨blk, off, none⟩) ss.length cap] w fun e w' => e = .returned (.tuple #[]) ∧ ∃ n os, w' = grow (putRow encStr (Sort.ahead w n) blk off (ss.mergeSort fun x y => decide (x ≤ y)).toArray) os)
    (hnone : ∀ (p : Option Addr) (cap : Nat) (w : World), Calls E.P g #[.slice p 0 cap] w fun e w' => e = .returned (.tuple #[]) ∧ w' = w)
    {id cap : Nat} {l : List (List UInt8)} {sp : List AV} (hx : st.ev x = .mu id 1 0 l.length cap) (ho : st.own[id]? = some (some (l.map str ++ sp))) (hsz : l.length ≤ 1000000)
    (h : AWPL E ops rest Q (St.put { st with own := st.own.set id (some ((sortL l).map str ++ sp)) } dst (.tup []))) :
    AWPL E ops (⟨dst, .call ⟨.value f, #[x], tys⟩, ty, pos, after, none⟩ :: rest) Q st := by
  refine AWPL.callRaw hc he fun w0 im0 cx a w vs h0 hG r hpw => ?_
  obtain ⟨hn, hp⟩ := hpw
  obtain ⟨v, rfl⟩ : ∃ v, vs = [v] := by
    match vs, hn with
    | [v], _ => exact ⟨v, rfl⟩
  have hv : VR cx (.mu id 1 0 l.length cap) v := by
    have := hp 0 _ v rfl rfl
    rwa [← hx]
  have same : l = [] → { st with own := st.own.set id (some ((sortL l).map str ++ sp)) } = st := fun e => by
    subst e
    have e1 : st.own.set id (some ((sortL []).map str ++ sp)) = st.own := by
      apply List.ext_getElem?
      intro j
      rw [List.getElem?_set]
      split
      · rename_i hj; subst hj
        rw [if_pos (lt_of_get ho), ho]; simp [sortL]
      · rfl
    rw [e1]
  rcases hv.inv_mu with ⟨b, hb, hcap, rfl⟩ | ⟨hl, rfl, rfl⟩
  · rcases Nat.eq_zero_or_pos l.length with hz | hz
    · have hl : l = [] := List.eq_nil_of_length_eq_zero hz
      subst hl
      refine (hnone _ cap w).mono ?_
      rintro e w' ⟨rfl, rfl⟩
      exact ⟨_, rfl, cx, st, .tup [], r, .tup [] [] rfl (by simp), by rw [same rfl] at h; exact h⟩
    · have hOK := r.own id b 1 _ hb ho
      obtain ⟨cs, te, lo, hi, hblk, hfr, hsize, hlv, hcell⟩ := hOK.blk
      have hget : ∀ j, j < l.length → cs[j]? = some (encStr l[j]!) := fun j hj => by
        have e1 : (l.map str ++ sp)[j]? = some (str l[j]!) := by
          rw [List.getElem?_append_left (by simpa using hj)]
          simp [hj]
        obtain ⟨v, hv, hvr, _⟩ := hcell j _ 0 _ e1 rfl
        rw [hvr.inv_v] at hv
        simpa using hv
      have hH : Holds encStr w b 0 l.toArray := fun j hj => by
        have hj' : j < l.length := by simpa using hj
        have e2 := hget j hj'
        have hlt : j < cs.size := (Array.getElem?_eq_some_iff.1 e2).1
        constructor
        · simp only [World.cell?, hblk, Nat.zero_add, e2]
          try simp [hj']
        · simp only [World.frozen?, hblk, Nat.zero_add]
          rcases hfr with rfl | hfr
          · first | (simp; done) | (simp; omega)
          · first | (simp; done) | (simp; omega)
      have hbs : b < w.heap.size := r.own_lt hb ho
      rw [Nat.zero_mul]
      refine (hsort b 0 cap l w hH hbs (by omega)).mono ?_
      rintro e w' ⟨rfl, n, os, rfl⟩
      refine ⟨_, rfl, cx, { st with own := st.own.set id (some ((sortL l).map str ++ sp)) }, .tup [], ?_, .tup [] [] rfl (by simp), h⟩
      -- the block's content turns; then new blocks come
      obtain ⟨w1, hw1⟩ : ∃ w1, putRow encStr (Sort.ahead w n) b 0 (l.mergeSort fun x y => decide (x ≤ y)).toArray = w1 := ⟨_, rfl⟩
      have hw1' : grow w1 #[] = w1 := grow_empty w1
      have hsz1 : w1.heap.size = w.heap.size := by rw [← hw1]; simp [putRow, mapBlock, Sort.ahead]
      have r1 : Rel w0 im0 cx { st with own := st.own.set id (some ((sortL l).map str ++ sp)) } a w1 := by
        refine r.setOwn hb ho (fun d hd => ?_) ?_ ?_
        · rw [← hw1]
          simp [putRow, mapBlock, Sort.ahead, Array.getElem?_modify, Ne.symm hd]
        · rw [← hw1', ← hw1]
          exact below_sorted _ r.below hOK.new r.below.size
        · refine ⟨_, te, lo, hi, (by rw [← hw1', ← hw1]; exact heap_put hblk), ?_, ?_, ?_, ?_⟩
          · simpa [putCells] using hfr
          · simp only [List.length_append, List.length_map, sortL_len] at hsize ⊢
            simpa [putCells] using hsize
          · intro i e he
            rcases getElem?_app' _ _ _ _ he with ⟨h1, h2⟩ | ⟨h1, h2⟩
            · rw [List.getElem?_map] at h2
              cases hq : (sortL l)[i]? with
              | none => simp [hq] at h2
              | some z => simp only [hq, Option.map_some, Option.some.injEq] at h2; subst h2; rfl
            · refine hlv i e ?_
              rw [List.length_map, sortL_len] at h1 h2
              rw [List.getElem?_append_right (by rw [List.length_map]; exact h1), List.length_map]; exact h2
          · intro i e j y he hy
            rcases getElem?_app' _ _ _ _ he with ⟨h1, h2⟩ | ⟨h1, h2⟩
            · rw [List.length_map, sortL_len] at h1
              rw [List.getElem?_map] at h2
              cases hq : (sortL l)[i]? with
              | none => simp [hq] at h2
              | some z =>
                simp only [hq, Option.map_some, Option.some.injEq] at h2; subst h2
                cases j with
                | succ j => simp [AV.leaves] at hy
                | zero =>
                  simp only [AV.leaves, List.getElem?_cons_zero, Option.some.injEq] at hy; subst hy
                  have hlt : i < cs.size := (Array.getElem?_eq_some_iff.1 (hget i h1)).1
                  refine ⟨encStr z, ?_, .base (.v _), .inr rfl⟩
                  rw [Nat.mul_one, Nat.add_zero]
                  have hz2 : (l.mergeSort fun x y => decide (x ≤ y))[i]? = some z := hq
                  have hi2 := lt_of_get hz2
                  simp only [putCells, Array.getElem?_mapIdx, Array.getElem?_eq_getElem hlt, Option.map_some]
                  rw [if_pos ⟨Nat.zero_le _, by simpa using hi2⟩]
                  simp [hz2]
            · have h3 : (l.map str ++ sp)[i]? = some e := by
                rw [List.length_map, sortL_len] at h1 h2
                rw [List.getElem?_append_right (by rw [List.length_map]; exact h1), List.length_map]; exact h2
              obtain ⟨v, hv, hvr, hv1⟩ := hcell i e j y h3 hy
              refine ⟨v, ?_, hvr, hv1⟩
              rw [List.length_map, sortL_len] at h1
              have hlt := (Array.getElem?_eq_some_iff.1 hv).1
              simp only [putCells, Array.getElem?_mapIdx, Array.getElem?_eq_getElem hlt, Option.map_some]
              have hns : ¬ (0 ≤ i * 1 + j ∧ i * 1 + j < 0 + (l.mergeSort fun x y => decide (x ≤ y)).toArray.size) := by
                have : (l.mergeSort fun x y => decide (x ≤ y)).length = l.length := List.length_mergeSort l
                simp only [List.size_toArray, this]; omega
              rw [if_neg hns]
              rw [Array.getElem?_eq_getElem hlt] at hv; exact hv
      rw [hw1]
      exact r1.ext (w' := grow w1 os) ((Below.refl _ w1).grown (w' := grow w1 os) (row := none) ⟨rfl, rfl, rfl, by simp [grow], fun k hk _ => heap_grow_old _ _ hk⟩ (Nat.le_refl _) (fun j hj => by cases hj) (Nat.le_refl _))
  · have hl : l = [] := List.eq_nil_of_length_eq_zero hl
    subst hl
    refine (hnone _ 0 w).mono ?_
    rintro e w' ⟨rfl, rfl⟩
    exact ⟨_, rfl, cx, st, .tup [], r, .tup [] [] rfl (by simp), by rw [same rfl] at h; exact h⟩
end Go.Abs
