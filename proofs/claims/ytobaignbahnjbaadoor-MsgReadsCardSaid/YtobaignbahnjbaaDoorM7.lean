import Derived.Test.YtobaignbahnjbaaDoorM6
import Derived.Test.YtobaignbahnjbaaDoorM2a
set_option linter.unusedVariables false
set_option linter.unusedSimpArgs false
namespace Go.Proofs.YtobaignbahnjbaaDoor
open Go Go.Abs Go.RowKit Go.Bk Go.Msg
def kindUp (s : List UInt8) : Nat → Int
  | 0 => 0
  | i + 1 => if s = [letters.getD i 0] then (i : Int) + 1 else kindUp s i
theorem kindUp_yes {s : List UInt8} {i : Nat} (h : s = [letters.getD i 0]) (hi : i < 7) : kindUp s (i + 1) = IntKind.i64.wrap ((i : Int) + 1) := by
  rw [wrap64_id (by omega) (by omega)]; unfold kindUp; rw [if_pos h]
theorem kindUp_no {s : List UInt8} {i : Nat} (h : ¬ s = [letters.getD i 0]) : kindUp s (i + 1) = kindUp s i := by rw [kindUp, if_neg h]
theorem kindUp7 (s : List UInt8) : kindUp s 7 = kindR s := by
  simp only [kindUp, letters, List.getD_eq_getElem?_getD]
  unfold kindR
  by_cases h1 : s = [65]
  · subst h1; decide
  by_cases h2 : s = [48]
  · subst h2; decide
  by_cases h3 : s = [49]
  · subst h3; decide
  by_cases h4 : s = [50]
  · subst h4; decide
  by_cases h5 : s = [52]
  · subst h5; decide
  by_cases h6 : s = [53]
  · subst h6; decide
  by_cases h7 : s = [56]
  · subst h7; decide
  simp [h1, h2, h3, h4, h5, h6, h7]
theorem let_i {i : Nat} (h : i < 7) : ([str [65], str [48], str [49], str [50], str [52], str [53], str [56]] : List AV)[i]? = some (str [letters.getD i 0]) := by
  have : i = 0 ∨ i = 1 ∨ i = 2 ∨ i = 3 ∨ i = 4 ∨ i = 5 ∨ i = 6 := by omega
  rcases this with rfl | rfl | rfl | rfl | rfl | rfl | rfl <;> rfl
theorem take_bound {l : List Fld.Fd} (hl : ∀ f ∈ l, f.2.length ≤ 300) {tag : Int} {s : Nat × Bool} {y : List UInt8} {n : Nat} {b : Bool} (e : takeS l tag s = (y, n, b)) : y.length ≤ 300 := by
  have : y = (takeS l tag s).1 := by rw [e]
  subst this
  unfold takeS
  split
  · unfold valAt
    split
    · rename_i f hf; exact hl f (List.mem_of_getElem? hf)
    · simp
  · simp
theorem maybe_bound {l : List Fld.Fd} (hl : ∀ f ∈ l, f.2.length ≤ 300) {tag : Int} {s : Nat × Bool} {y : List UInt8} {n : Nat} {b : Bool} (e : maybeS l tag s = (y, n, b)) : y.length ≤ 300 := by
  unfold maybeS at e
  split at e
  · exact take_bound hl e
  · cases e; simp
theorem parse_bound (bs : List UInt8) : ∀ f ∈ (Fld.parseL bs).1, f.2.length ≤ 300 := by
  by_cases h : (Fld.parseL bs).2 = 0
  · intro f hf
    have hp := Fld.put_parse (b := bs) (l := (Fld.parseL bs).1) (Prod.ext rfl h)
    have := (Fld.put_done (l := (Fld.parseL bs).1) (by rw [hp])).2.1
    have := Fld.rightF_iff.1 (List.all_eq_true.1 this f hf)
    omega
  · rw [Fld.parse_err h]; intro f hf; simp at hf
theorem exok_of {a b c d e : List UInt8} {k : Int} {bu : Bool} {q p t : Int} (ha : a.length ≤ 300) (hb : b.length ≤ 300) (hc : c.length ≤ 300) (hd : d.length ≤ 300) (he : e.length ≤ 300) : exOk ⟨a, b, c, d, e, k, bu, q, p, t⟩ :=
  ⟨by simp only; omega, by simp only; omega, by simp only; omega, by simp only; omega, by simp only; omega⟩
theorem mgOk_z {k q t : Int} {c : Bool} {a b : Int} {g : Bool} {x : List UInt8} (hx : x.length ≤ 300) : mgOk ⟨k, q, t, c, a, b, g, x, zeroX⟩ := ⟨by simp only; omega, exok_of (by simp) (by simp) (by simp) (by simp) (by simp)⟩
theorem mgOk_x {k q t : Int} {c : Bool} {a b : Int} {g : Bool} {x : Ex} (hx : exOk x) : mgOk ⟨k, q, t, c, a, b, g, [], x⟩ := ⟨by simp, hx⟩
theorem msg_hd {l : List Fld.Fd} {s35 s34 s52 s43 : Nat × Bool} {y35 : List UInt8} {y34 y52 : Int} {y43 : Bool} (e35 : takeS l 35 (0, false) = (y35, s35)) (e34 : numS l 34 s35 = (y34, s34)) (e52 : numS l 52 s34 = (y52, s52)) (e43 : yesS l 43 s52 = (y43, s43)) :
    hdS l = (⟨kindR y35, y34, y52, y43, 0, 0, false, [], zeroX⟩, s43) := by simp only [hdS, e35, e34, e52, e43]
theorem msg_1 {l : List Fld.Fd} {k q t : Int} {c : Bool} {s s1 : Nat × Bool} {a : Int} (h : hdS l = (⟨k, q, t, c, 0, 0, false, [], zeroX⟩, s)) (hk : k = 1) (e : numS l 108 s = (a, s1)) : msgS l = (⟨k, q, t, c, a, 0, false, [], zeroX⟩, s1) := by
  subst hk; simp [msgS, h, e]
theorem msg_2 {l : List Fld.Fd} {k q t : Int} {c : Bool} {s s1 : Nat × Bool} {a : List UInt8} (h : hdS l = (⟨k, q, t, c, 0, 0, false, [], zeroX⟩, s)) (hk : k = 2 ∨ k = 3) (e : maybeS l 112 s = (a, s1)) : msgS l = (⟨k, q, t, c, 0, 0, false, a, zeroX⟩, s1) := by
  rcases hk with rfl | rfl <;> simp [msgS, h, e]
theorem msg_4 {l : List Fld.Fd} {k q t : Int} {c : Bool} {s s1 s2 : Nat × Bool} {a b : Int} (h : hdS l = (⟨k, q, t, c, 0, 0, false, [], zeroX⟩, s)) (hk : k = 4) (e : numS l 7 s = (a, s1)) (e2 : numS l 16 s1 = (b, s2)) : msgS l = (⟨k, q, t, c, a, b, false, [], zeroX⟩, s2) := by
  subst hk; simp [msgS, h, e, e2]
theorem msg_5 {l : List Fld.Fd} {k q t : Int} {c : Bool} {s s1 s2 : Nat × Bool} {a : Int} {g : Bool} (h : hdS l = (⟨k, q, t, c, 0, 0, false, [], zeroX⟩, s)) (hk : k = 5) (e : yesS l 123 s = (g, s1)) (e2 : numS l 36 s1 = (a, s2)) : msgS l = (⟨k, q, t, c, a, 0, g, [], zeroX⟩, s2) := by
  subst hk; simp [msgS, h, e, e2]
theorem msg_7 {l : List Fld.Fd} {k q t : Int} {c : Bool} {s s1 : Nat × Bool} {x : Ex} (h : hdS l = (⟨k, q, t, c, 0, 0, false, [], zeroX⟩, s)) (hk : k = 7) (e : execS l s = (x, s1)) : msgS l = (⟨k, q, t, c, 0, 0, false, [], x⟩, s1) := by
  subst hk; simp [msgS, h, e]
theorem msg_0 {l : List Fld.Fd} {k q t : Int} {c : Bool} {s : Nat × Bool} (h : hdS l = (⟨k, q, t, c, 0, 0, false, [], zeroX⟩, s)) (hk : k ≠ 1 ∧ k ≠ 2 ∧ k ≠ 3 ∧ k ≠ 4 ∧ k ≠ 5 ∧ k ≠ 7) : msgS l = (⟨k, q, t, c, 0, 0, false, [], zeroX⟩, s) := by
  obtain ⟨h1, h2, h3, h4, h5, h7⟩ := hk
  simp [msgS, h, h1, h2, h3, h4, h5, h7]
theorem readR_e {bs : List UInt8} (h : ¬ (Fld.parseL bs).2 = 0) : readR bs = (zeroM, (Fld.parseL bs).2) := by unfold readR; rw [if_pos h]
theorem readR_0 {bs : List UInt8} {m : Mg} {n : Nat} {b : Bool} (h : (Fld.parseL bs).2 = 0) (hm : msgS (Fld.parseL bs).1 = (m, n, b)) : readR bs = if b = true ∨ n ≠ (Fld.parseL bs).1.length ∨ rightR m = false then (zeroM, 3) else (m, 0) := by
  unfold readR; rw [if_neg (fun h' => h' h), hm]
theorem readR_1 {bs : List UInt8} {m : Mg} {n : Nat} {b : Bool} (h : (Fld.parseL bs).2 = 0) (hm : msgS (Fld.parseL bs).1 = (m, n, b)) (hb : b = true) : readR bs = (zeroM, 3) := by rw [readR_0 h hm, if_pos (.inl hb)]
theorem readR_2 {bs : List UInt8} {m : Mg} {n : Nat} {b : Bool} (h : (Fld.parseL bs).2 = 0) (hm : msgS (Fld.parseL bs).1 = (m, n, b)) (hn : ¬ (n : Int) = ((Fld.parseL bs).1.length : Int)) : readR bs = (zeroM, 3) := by rw [readR_0 h hm, if_pos (.inr (.inl (fun e => hn (by rw [e]))))]
theorem readR_3 {bs : List UInt8} {m : Mg} {n : Nat} {b : Bool} (h : (Fld.parseL bs).2 = 0) (hm : msgS (Fld.parseL bs).1 = (m, n, b)) (hr : rightR m = false) : readR bs = (zeroM, 3) := by rw [readR_0 h hm, if_pos (.inr (.inr hr))]
theorem readR_4 {bs : List UInt8} {m : Mg} {n : Nat} {b : Bool} (h : (Fld.parseL bs).2 = 0) (hm : msgS (Fld.parseL bs).1 = (m, n, b)) (hb : b = false) (hn : (n : Int) = ((Fld.parseL bs).1.length : Int)) (hr : rightR m = true) : readR bs = (m, 0) := by
  rw [readR_0 h hm, if_neg]
  rintro (h1 | h1 | h1)
  · rw [hb] at h1; simp at h1
  · exact h1 (by omega)
  · rw [hr] at h1; simp at h1
theorem exec_eq {l : List Fld.Fd} {s s17 s19 s11 s1 s55 s54 s5 s150 s15 s32 s31 s60 : Nat × Bool} {y17 y19 y11 y1 y55 y54 : List UInt8} {y150 k y32 y31 y60 : Int} {bu : Bool} (hbu : bu = decide (y54 = [49])) (e17 : takeS l 17 s = (y17, s17)) (e19 : maybeS l 19 s17 = (y19, s19)) (e11 : takeS l 11 s19 = (y11, s11)) (e1 : takeS l 1 s11 = (y1, s1))
    (e55 : takeS l 55 s1 = (y55, s55)) (e54 : takeS l 54 s55 = (y54, s54)) (es : sideS (y54, s54) = s5) (e150 : numS l 150 s5 = (y150, s150)) (ek : kindS (y150, s150) = (k, s15)) (e32 : numS l 32 s15 = (y32, s32)) (e31 : numS l 31 s32 = (y31, s31)) (e60 : numS l 60 s31 = (y60, s60)) :
    execS l s = (⟨y17, y19, y11, y1, y55, k, bu, y32, y31, y60⟩, s60) := by
  subst hbu
  simp only [execS, e17, e19, e11, e1, e55, e54, es, e150, ek, e32, e31, e60]
theorem side_ok {y : List UInt8} {n : Nat} {b : Bool} (h : y = [49] ∨ y = [50]) : sideS (y, n, b) = (n, b) := by
  unfold sideS; rcases h with h | h <;> simp [h]
theorem side_bad {y : List UInt8} {n : Nat} {b : Bool} (h : ¬ y = [49]) (h2 : ¬ y = [50]) : sideS (y, n, b) = (n, true) := by
  unfold sideS; simp [h, h2]
theorem kind_ok {k : Int} {n : Nat} {b : Bool} (h : ¬ k < 1) (h2 : ¬ 8 < k) : kindS (k, n, b) = (k, n, b) := by
  unfold kindS; rw [if_neg (by simp only; omega)]
theorem kind_bad {k : Int} {n : Nat} {b : Bool} (h : k < 1 ∨ 8 < k) : kindS (k, n, b) = (0, n, true) := by
  unfold kindS; rw [if_pos h]

set_option maxRecDepth 100000 in
set_option maxHeartbeats 8000000 in
theorem exec_call {ops : Array Oper} {l0 : List Oper} {Q : Exit → St → Prop} {tmps up : List AV} {gl : Nat → Option (List AV)} {o0 o2 : Option (List AV)} {tk : List Nat} {o : Option Nat} {l : List Fld.Fd} {n : Nat} {bad : Bool} {dst : Option Tmp} {x0 : Operand} {tys : Array TypeId} {ty : TypeId} {pos : String} {after : Array Edge}
    (hx0 : St.ev ⟨tmps, [o0, some [tkV o l n bad], o2], tk, gl, none, up⟩ x0 = .ptr 1 0 0) (hl : l.length ≤ 1000) (hn : n ≤ l.length) (hfl : ∀ f ∈ l, f.2.length ≤ 300)
    (h : ∀ x n2 bad2, execS l (n, bad) = (x, n2, bad2) → n2 ≤ l.length → exOk x → AWPL E ops l0 Q (St.put ⟨tmps, [o0, some [tkV o l n2 bad2], o2, some [exV x], some [exV x]], tk, gl, none, up⟩ dst (exV x))) :
    AWPL E ops (⟨dst, .call ⟨.value (.func 40), #[x0], tys⟩, ty, pos, after, none⟩ :: l0) Q ⟨tmps, [o0, some [tkV o l n bad], o2], tk, gl, none, up⟩ := by
  refine AWPL.call (caps := []) (rs := [.cell 2 23]) Tryd.func40 rfl Tryd.ntmps40 rfl (by kernel_rfl) rfl rfl ?_
  show AWP E _ _ ⟨([St.ev _ x0] ++ []) ++ List.replicate (58 - 1) (.v undef), [o0, some [tkV o l n bad], o2], tk, gl, none, tmps ++ up⟩
  rw [hx0]
  have hB : ∀ (tm : List AV) (ow : List (Option (List AV))) x n2 bad2, execS l (n, bad) = (x, n2, bad2) → n2 ≤ l.length → exOk x → ow = [o0, some [tkV o l n2 bad2], o2, some [exV x], some [exV x]] → tm[2]? = some (.ptr 3 0 0) → AInPost E.P [.cell 2 23] ⟨tmps, [o0, some [tkV o l n bad], o2], tk, gl, none, up⟩ (fun s z => AWPL E ops l0 Q (s.put dst z)) .ret ⟨tm, ow, tk, gl, none, tmps ++ up⟩ := by
    intro tm ow x n2 bad2 he hle hok how h4
    subst how
    refine AInPost.ret rfl ?_
    have h2 : St.ev ⟨tm, [o0, some [tkV o l n2 bad2], o2, some [exV x], some [exV x]], tk, gl, none, tmps ++ up⟩ (.tmp 2) = .ptr 3 0 0 := by simp [St.ev, List.getD_eq_getElem?_getD, h4]
    simp only [ARes, h2]
    simp only [go_sem]
    exact h x n2 bad2 he hle hok
  generalize AInPost E.P [.cell 2 23] ⟨tmps, [o0, some [tkV o l n bad], o2], tk, gl, none, up⟩ (fun s z => AWPL E ops l0 Q (s.put dst z)) = Q' at hB ⊢
  generalize tmps ++ up = up' at hB ⊢
  clear h hx0
  repeat' (first
    | refine AWP.seqk fun K hK => ?_
    | (refine take_call (tag := 17) rfl rfl rfl (by omega) (by omega) ?_; intro y17 n17 b17 e17 hn17; have hy17 := take_bound hfl e17; simp only [go_sem])
    | (refine take_call (tag := 11) rfl rfl rfl (by omega) (by omega) ?_; intro y11 n11 b11 e11 hn11; have hy11 := take_bound hfl e11; simp only [go_sem])
    | (refine take_call (tag := 1) rfl rfl rfl (by omega) (by omega) ?_; intro y1 n1 b1 e1 hn1; have hy1 := take_bound hfl e1; simp only [go_sem])
    | (refine take_call (tag := 55) rfl rfl rfl (by omega) (by omega) ?_; intro y55 n55 b55 e55 hn55; have hy55 := take_bound hfl e55; simp only [go_sem])
    | (refine take_call (tag := 54) rfl rfl rfl (by omega) (by omega) ?_; intro y54 n54 b54 e54 hn54; have hy54 := take_bound hfl e54; simp only [go_sem])
    | (refine maybe_call (tag := 19) rfl rfl rfl (by omega) (by omega) ?_; intro y19 n19 b19 e19 hn19; have hy19 := maybe_bound hfl e19; simp only [go_sem])
    | (refine numb_call (tag := 150) rfl rfl rfl (by omega) (by omega) ?_; intro y150 n150 b150 e150 hn150; simp only [go_sem])
    | (refine numb_call (tag := 32) rfl rfl rfl (by omega) (by omega) ?_; intro y32 n32 b32 e32 hn32; simp only [go_sem])
    | (refine numb_call (tag := 31) rfl rfl rfl (by omega) (by omega) ?_; intro y31 n31 b31 e31 hn31; simp only [go_sem])
    | (refine numb_call (tag := 60) rfl rfl rfl (by omega) (by omega) ?_; intro y60 n60 b60 e60 hn60; simp only [go_sem])
    | (refine AWPL.call (rs := [.tmp 4]) Tryd.func36 rfl Tryd.ntmps36 rfl (by kernel_rfl) rfl rfl ?_; simp only [go_sem])
    | (refine AWPL.call (rs := [.tmp 4]) Tryd.func39 rfl Tryd.ntmps39 rfl (by kernel_rfl) rfl rfl ?_; simp only [go_sem])
    | (refine AWPL.call (rs := [.tmp 4]) Tryd.func37 rfl Tryd.ntmps37 rfl (by kernel_rfl) rfl rfl ?_; simp only [go_sem])
    | (refine AWP.here 2 6 4 rfl ?_; refine AWP.regionL ?_; refine AWPL.at 4 1 rfl ?_; simp only [go_sem])
    | (refine AWP.here 3 9 4 rfl ?_; refine AWP.regionL ?_; refine AWPL.at 4 1 rfl ?_; simp only [go_sem])
    | (refine AWP.here 4 12 4 rfl ?_; refine AWP.regionL ?_; refine AWPL.at 4 1 rfl ?_; simp only [go_sem])
    | (refine AWP.here 5 15 4 rfl ?_; refine AWP.regionL ?_; refine AWPL.at 4 1 rfl ?_; simp only [go_sem])
    | (refine AWP.here 6 18 4 rfl ?_; refine AWP.regionL ?_; refine AWPL.at 4 1 rfl ?_; simp only [go_sem])
    | (refine AWP.here 7 21 3 rfl ?_; refine AWP.regionL ?_; refine AWPL.at 3 1 rfl ?_; simp only [go_sem])
    | (refine AWP.here 11 35 3 rfl ?_; refine AWP.regionL ?_; refine AWPL.at 3 1 rfl ?_; simp only [go_sem])
    | (refine AWP.here 16 48 4 rfl ?_; refine AWP.regionL ?_; refine AWPL.at 4 1 rfl ?_; simp only [go_sem])
    | (refine AWP.here 17 51 4 rfl ?_; refine AWP.regionL ?_; refine AWPL.at 4 1 rfl ?_; simp only [go_sem])
    | (refine AWP.here 18 54 4 rfl ?_; refine AWP.regionL ?_; refine AWPL.at 4 1 rfl ?_; simp only [go_sem])
    | (refine AWP.here 2 30 4 rfl ?_; refine AWP.regionL ?_; refine AWPL.at 4 2 rfl ?_; simp only [go_sem])
    | (refine AWP.here 1 8 9 rfl ?_; refine AWP.regionL ?_; refine AWPL.at 9 2 rfl ?_; simp only [go_sem])
    | (refine AWP.region ?_; simp only [go_sem])
    | (refine AWP.here 1 5 25 rfl ?_; refine AWP.regionAs [0, 1, 2, 3, 4, 5, 6, 7, 8, 9, 10, 11, 12, 13, 14, 15, 16, 17, 18, 19, 20, 21, 22, 23, 24] [[], [0], [0, 1], [0, 1, 2], [], [4], [4, 5], [4, 5, 6], [4, 5, 6, 7], [0, 1, 2, 3, 4, 5, 6, 7, 8], [0, 1, 2, 3, 4, 5, 6, 7, 8, 9], [0, 1, 2, 3, 4, 5, 6, 7, 8, 9, 10], [0, 1, 2, 3, 4, 5, 6, 7, 8, 9, 10, 11], [0, 1, 2, 3, 4, 5, 6, 7, 8, 9, 10, 11, 12], [0, 1, 2, 3, 4, 5, 6, 7, 8, 9, 10, 11, 12, 13], [0, 1, 2, 3, 4, 5, 6, 7, 8, 9, 10], [0, 1, 2, 3, 4, 5, 6, 7, 8, 9, 10, 15], [0, 1, 2, 3, 4, 5, 6, 7, 8, 9, 10, 15, 16], [0, 1, 2, 3, 4, 5, 6, 7, 8, 9, 10, 15, 16, 17], [0, 1, 2, 3, 4, 5, 6, 7, 8, 9, 10, 11, 12, 13, 14, 15, 16, 17, 18], [0, 1, 2, 3, 4, 5, 6, 7, 8, 9, 10, 11, 12, 13, 14, 15, 16, 17, 18, 19], [0, 1, 2, 3, 4, 5, 6, 7, 8, 9, 10, 11, 12, 13, 14, 15, 16, 17, 18, 19, 20], [0, 1, 2, 3, 4, 5, 6, 7, 8, 9, 10], [0, 1, 2, 3, 4, 5, 6, 7, 8, 9, 10, 11, 12, 13, 14, 15, 16, 17, 18, 19, 20, 21, 22], [0, 1, 2, 3, 4, 5, 6, 7, 8, 9, 10, 11, 12, 13, 14, 15, 16, 17, 18, 19, 20, 21, 22, 23]] [] (by kernel_rfl) (by kernel_rfl) (by decide) rfl ?_; simp only [go_sem])
    | (refine AWP.here 5 40 13 rfl ?_; refine AWP.regionO [0, 1, 2, 3, 4, 5, 6, 7, 8, 9, 10, 11, 12] [] (by kernel_rfl) (by kernel_rfl) rfl ?_; simp only [go_sem])
    | (refine hK _ ?_; clear hK K)
    | refine AWP.block ?_
    | refine AWP.cond rfl (fun c => ?_) (fun c => ?_) <;> first | exact Bool.noConfusion c | (try simp only [dD] at c)
    | refine AWP.skip ?_
    | (refine AWP.exit ?_; simp only [go_sem])
    | (refine AGuard.splitN (fun h => ?_) (fun h => ?_) <;> simp only [h, go_sem] <;> (try simp only [dD] at h))
    | (refine AGuard.split (fun h => ?_) (fun h => ?_) <;> simp only [h, go_sem] <;> (try simp only [dD] at h))
    | (refine AGet.haveM (by assumption) ?_; (try simp only [go_sem]))
    | (refine AGet.have' (by assumption) ?_; (try simp only [go_sem]))
    | ((first | refine AGet.nth ?_ (fun b hb => ?_) | refine AGet.nth1 ?_ (fun b hb => ?_) | with_reducible refine And.intro ?_ ?_); (focus (first | omega | assumption | exact List.length_pos_iff.2 (by assumption) | (simp only [List.length_append, List.length_cons, List.length_nil, List.length_map, List.length_take, List.length_drop] at *; omega) | (rw [wrap64_id (by omega) (by omega)]; omega) | (simp; done) | (simp [spare_len]; done) | (exact ⟨by omega, by omega⟩))); (try simp only [hb, go_sem]))
    | (
        refine AWP.ret ?_
        (try simp only [inb_ret, athen_ret])
        first
        | exact hB _ _ ⟨y17, y19, y11, y1, y55, _, _, _, _, _⟩ _ _ (exec_eq ((decide_eq_true (by assumption)).symm) e17 e19 e11 e1 e55 e54 (side_ok (.inl (by assumption))) e150 (kind_ok (by assumption) (by assumption)) e32 e31 e60) hn60 (exok_of hy17 hy19 hy11 hy1 hy55) rfl rfl
        | exact hB _ _ ⟨y17, y19, y11, y1, y55, _, _, _, _, _⟩ _ _ (exec_eq ((decide_eq_true (by assumption)).symm) e17 e19 e11 e1 e55 e54 (side_ok (.inl (by assumption))) e150 (kind_bad (.inl (by assumption))) e32 e31 e60) hn60 (exok_of hy17 hy19 hy11 hy1 hy55) rfl rfl
        | exact hB _ _ ⟨y17, y19, y11, y1, y55, _, _, _, _, _⟩ _ _ (exec_eq ((decide_eq_true (by assumption)).symm) e17 e19 e11 e1 e55 e54 (side_ok (.inl (by assumption))) e150 (kind_bad (.inr (by assumption))) e32 e31 e60) hn60 (exok_of hy17 hy19 hy11 hy1 hy55) rfl rfl
        | exact hB _ _ ⟨y17, y19, y11, y1, y55, _, _, _, _, _⟩ _ _ (exec_eq ((decide_eq_false (by assumption)).symm) e17 e19 e11 e1 e55 e54 (side_ok (.inr (by assumption))) e150 (kind_ok (by assumption) (by assumption)) e32 e31 e60) hn60 (exok_of hy17 hy19 hy11 hy1 hy55) rfl rfl
        | exact hB _ _ ⟨y17, y19, y11, y1, y55, _, _, _, _, _⟩ _ _ (exec_eq ((decide_eq_false (by assumption)).symm) e17 e19 e11 e1 e55 e54 (side_ok (.inr (by assumption))) e150 (kind_bad (.inl (by assumption))) e32 e31 e60) hn60 (exok_of hy17 hy19 hy11 hy1 hy55) rfl rfl
        | exact hB _ _ ⟨y17, y19, y11, y1, y55, _, _, _, _, _⟩ _ _ (exec_eq ((decide_eq_false (by assumption)).symm) e17 e19 e11 e1 e55 e54 (side_ok (.inr (by assumption))) e150 (kind_bad (.inr (by assumption))) e32 e31 e60) hn60 (exok_of hy17 hy19 hy11 hy1 hy55) rfl rfl
        | exact hB _ _ ⟨y17, y19, y11, y1, y55, _, _, _, _, _⟩ _ _ (exec_eq ((decide_eq_false (by assumption)).symm) e17 e19 e11 e1 e55 e54 (side_bad (by assumption) (by assumption)) e150 (kind_ok (by assumption) (by assumption)) e32 e31 e60) hn60 (exok_of hy17 hy19 hy11 hy1 hy55) rfl rfl
        | exact hB _ _ ⟨y17, y19, y11, y1, y55, _, _, _, _, _⟩ _ _ (exec_eq ((decide_eq_false (by assumption)).symm) e17 e19 e11 e1 e55 e54 (side_bad (by assumption) (by assumption)) e150 (kind_bad (.inl (by assumption))) e32 e31 e60) hn60 (exok_of hy17 hy19 hy11 hy1 hy55) rfl rfl
        | exact hB _ _ ⟨y17, y19, y11, y1, y55, _, _, _, _, _⟩ _ _ (exec_eq ((decide_eq_false (by assumption)).symm) e17 e19 e11 e1 e55 e54 (side_bad (by assumption) (by assumption)) e150 (kind_bad (.inr (by assumption))) e32 e31 e60) hn60 (exok_of hy17 hy19 hy11 hy1 hy55) rfl rfl
        | trace_state)
    | (refine AWP.ret ?_; refine AInPost.ret rfl ?_; simp only [go_sem])
    | (refine AWP.ret ?_; simp only [inb_ret, athen_ret]; refine AInPost.ret rfl ?_; simp only [go_sem])
    | (refine AWP.ret ?_; (try simp only [inb_ret, athen_ret]); refine AInPost.ret rfl ?_; (try simp only [go_sem]))
    | (refine AWPL.of ?_; simp only [go_sem])
    | refine AWP.fin (by assumption) ?_
    | fail)


end Go.Proofs.YtobaignbahnjbaaDoor
