/- Texts of one chain, put together (GtD, Lv, Lq, Lj, Lr, Lt, Lx). -/
import Derived.Test.YtajeeghgiilhiaaGreatKuM
import Derived.Test.YtajeeghgiilhiaaGreatKuL
import Derived.Laws.MakeOwn
import Derived.Lib.AppendZerosOnto
import Derived.Lib.Overlaps
set_option linter.unusedVariables false
set_option linter.unusedSimpArgs false
section
namespace Go.Bk
open Go Go.Abs
theorem hasB_iff {l : List Od} {id : Bs} : hasB l id = decide (id ∈ l.map (·.id)) := by
 unfold hasB
 rw [Bool.eq_iff_iff, List.any_eq_true, decide_eq_true_eq, List.mem_map]
 simp only [decide_eq_true_eq]
theorem vn_right {v : Vn} {now : Int} (h1 : rightBk v.book = true) (h2 : rightO v.sent = true) (h3 : v.book.orders.length + v.sent.length ≤ 64) (h4 : 0 ≤ v.last) (h5 : v.last ≤ now) (h6 : ∀ o ∈ v.sent, o.opn = true ∧ hasB v.book.orders o.id = false) : rightV v now = true :=
 rightV_ok h1 h2 h3 h4 h5 (Nat.le_refl _) (fun k o _ ho => h6 o (List.mem_of_getElem? ho))
theorem with_right {g : Gt} {k : Nat} {v' : Vn} (h : rightG g = true) (hv : rightV v' g.now = true) : rightG (withG g k v') = true := by
 obtain ⟨h1, h2, h3, h4, h5, h6⟩ := right_lens h
 refine rightG_ok (g := withG g k v') (i := g.venues.length) (by simpa [withG] using h1) (by simpa [withG] using h2) h3 h4 h5 (by simp [withG]) (fun j w _ hw => ?_)
 rcases List.mem_or_eq_of_mem_set (List.mem_of_getElem? hw) with hw | rfl
 · exact h6 w hw
 · exact hv
theorem kill_right {g : Gt} {on : Bool} (h : rightG g = true) : rightG (killG g on).1 = true := by rw [kill_yes h]; exact h
theorem tick_right {g : Gt} {now : Int} (h : rightG g = true) : rightG (tickG g now).1 = true := by
 unfold tickG
 split
 · rename_i hc
   obtain ⟨h1, h2, h3, h4, h5, h6⟩ := right_lens h
   have h4' : timeB now = true := by
     simp only [timeB, Bool.and_eq_true, decide_eq_true_eq] at h4 ⊢
     exact ⟨by omega, hc.2.2⟩
   refine rightG_ok h1 h2 h3 h4' h5 (Nat.le_refl _) (fun k v _ hv => ?_)
   obtain ⟨f1, f2, f3, f4, f5, f6⟩ := rightV_facts (h6 v (List.mem_of_getElem? hv))
   exact vn_right f1 f2 f3 f4 (Int.le_trans f5 hc.2.1) f6
 · exact h
theorem gap_right {g : Gt} {n : Int} {b : Bool} (h : rightG g = true) : rightG (gapG g n b).1 = true := by
 cases hi : isAtB g n with
 | false => rw [gap_no hi]; exact h
 | true =>
   obtain ⟨k, v, rfl, hv⟩ := isAt_get hi
   rw [gap_yes hi hv]
   obtain ⟨f1, f2, f3, f4, f5, f6⟩ := rightV_facts (isAt_rightV hi hv)
   exact with_right h (vn_right f1 f2 f3 f4 f5 f6)
theorem reset_right {g : Gt} {n : Int} (h : rightG g = true) : rightG (resetG g n).1 = true := by
 cases hi : isAtB g n with
 | false => rw [reset_no hi]; exact h
 | true =>
   obtain ⟨k, v, rfl, hv⟩ := isAt_get hi
   by_cases hb : v.book.bad = 0
   · rw [reset_st hi hv hb]; exact h
   · rw [reset_yes hi hv hb]
     obtain ⟨f1, f2, f3, f4, f5, f6⟩ := rightV_facts (isAt_rightV hi hv)
     obtain ⟨⟨a1, a2, a3, a4, a5, a6, a7⟩, b2, b3, b4⟩ := rightBk_iff.1 f1
     refine with_right h (vn_right (rightBk_iff.2 ⟨⟨a1, a2, a3, a4, a5, by show (0 : Int) ≤ 0; decide, by show (0 : Int) ≤ 6; decide⟩, b2, b3, b4⟩) f2 f3 f4 f5 f6)
theorem why_zero {g : Gt} {v : Vn} {o : Od} (h : whyG g v o = 0) : g.kill = false ∧ stateV v g.now g.pat = 0 ∧ whyL g.limits o (worstG g o.acc o.sym) = 0 := by
 unfold whyG at h
 have hs := stateV_rng v g.now g.pat
 cases hk : g.kill with
 | true => rw [hk] at h; simp at h
 | false =>
   rw [hk] at h
   simp only [Bool.false_eq_true, if_false] at h
   split at h
   · omega
   · rename_i h2; exact ⟨rfl, by simpa using h2, h⟩
theorem state_room {v : Vn} {now pat : Int} (h : stateV v now pat = 0) : v.book.orders.length + v.sent.length < 64 ∧ v.book.ids.length < 256 := by
 unfold stateV ofV at h
 split at h
 · omega
 split at h
 · omega
 · rename_i h2
   simp only [Bool.or_eq_true, decide_eq_true_eq, not_or] at h2
   omega
theorem send_right {g : Gt} {v : Vn} {o : Od} (hv : rightV v g.now = true) (hm : mayB o = true) (ho : o.opn = true) (hk : knownB v o.id = false) (hr : v.book.orders.length + v.sent.length < 64) : rightV (sendV v o) g.now = true := by
 obtain ⟨f1, f2, f3, f4, f5, f6⟩ := rightV_facts hv
 unfold knownB at hk
 rw [Bool.or_eq_false_iff] at hk
 have hp : placeF v.sent o.id = none := by
   have h2 := hk.2
   rw [hasB_iff, decide_eq_false_iff_not] at h2
   have : (placeF v.sent o.id).isNone = true := by rw [placeF_isNone]; simpa using h2
   simpa using this
 refine vn_right f1 (rightO_snoc f2 hm hp (by omega)) (by show v.book.orders.length + (v.sent ++ [o]).length ≤ 64; simp; omega) f4 f5 (fun p hp => ?_)
 rcases List.mem_append.1 hp with hp | hp
 · exact f6 p hp
 · rw [List.mem_singleton.1 hp]; exact ⟨ho, hk.1⟩
theorem order_right {g : Gt} {n : Int} {o : Od} (h : rightG g = true) : rightG (orderG g n o).1 = true := by
 cases hi : isAtB g n with
 | false => rw [order_no hi]; exact h
 | true =>
   obtain ⟨k, v, rfl, hv⟩ := isAt_get hi
   cases hm : mayB (openO o) with
   | false => rw [order_may hm]; exact h
   | true =>
     rw [order_at hi hm hv]
     split
     · exact h
     · rename_i hk
       split
       · exact h
       · rename_i hw
         have hw := why_zero (by simpa using hw)
         exact with_right h (send_right (isAt_rightV hi hv) hm rfl (by show knownB v o.id = false; simpa using hk) (state_room hw.2.1).1)
theorem change_right {g : Gt} {n : Int} {old id : Bs} {q p : Int} (h : rightG g = true) : rightG (changeG g n old id q p).1 = true := by
 cases hi : isAtB g n with
 | false => rw [change_no hi]; exact h
 | true =>
   obtain ⟨k, v, rfl, hv⟩ := isAt_get hi
   rw [change_at hi hv]
   split
   · exact h
   · rename_i hf
     split
     · exact h
     · rename_i hm
       split
       · exact h
       · rename_i hk
         split
         · exact h
         · rename_i hw
           have hw := why_zero (by simpa using hw)
           simp only [not_or, Bool.not_eq_false] at hf
           exact with_right h (send_right (isAt_rightV hi hv) (by simpa using hm) hf.2 (by show knownB v id = false; simpa using hk) (state_room hw.2.1).1)
theorem newO_ids {l : List Od} {o : Od} (h : (newO l o).2 = 0) : (newO l o).1.map (·.id) = l.map (·.id) ++ [o.id] := by
 unfold newO at h ⊢
 split at h <;> rename_i h1
 · simp at h
 split at h <;> rename_i h2
 · simp at h
 split at h <;> rename_i h3
 · simp at h
 rw [if_neg h1, if_neg h2, if_neg h3]; simp
theorem closeO_ids {l : List Od} {id : Bs} (h : (closeO l id).2 = 0) : (closeO l id).1.map (·.id) = l.map (·.id) := by
 unfold closeO at h ⊢
 split at h
 · simp at h
 · rename_i h1
   rw [if_neg h1]
   split at h
   · simp at h
   · rename_i n hn
     obtain ⟨o, h2, h3, h4, h5⟩ := openF_get hn
     simp only [hn, h5]
     exact map_set_same h2 rfl
theorem fillO_ids {l : List Od} {id : Bs} {q p : Int} (h : (fillO l id q p).2 = 0) : (fillO l id q p).1.map (·.id) = l.map (·.id) := by
 unfold fillO at h ⊢
 split at h
 · simp at h
 · rename_i h1
   rw [if_neg h1]
   split at h
   · simp at h
   · rename_i n hn
     obtain ⟨o, h2, h3, h4, h5⟩ := openF_get hn
     simp only [hn, h5] at h ⊢
     split at h <;> rename_i h6
     · simp at h
     split at h <;> rename_i h7
     · simp at h
     rw [if_neg h6, if_neg h7]
     exact map_set_same h2 rfl
theorem changeO_ids {l : List Od} {a b : Bs} {q p : Int} (h : (changeO l a b q p).2 = 0) : (changeO l a b q p).1.map (·.id) = l.map (·.id) ++ [b] := by
 unfold changeO at h ⊢
 split at h
 · simp at h
 · rename_i h1
   rw [if_neg h1]
   split at h
   · simp at h
   · rename_i n hn
     obtain ⟨o, h2, h3, h4, h5⟩ := openF_get hn
     simp only [hn, h5] at h ⊢
     split at h <;> rename_i h6
     · simp at h
     split at h <;> rename_i h7
     · simp at h
     split at h <;> rename_i h8
     · simp at h
     rw [if_neg h6, if_neg h7, if_neg h8]
     show (l.set n _ ++ _).map _ = _
     rw [List.map_append, map_set_same (f := fun o : Od => o.id) h2 (by rfl)]
     rfl
theorem does_ids {b c : Bk} {x : Ex} (h : Does b x c) : c.orders.map (·.id) = b.orders.map (·.id) ∨ (opensX x = true ∧ c.orders.map (·.id) = b.orders.map (·.id) ++ [x.ord]) := by
 cases h with
 | opens hk h => exact .inr ⟨by simp [opensX, hk], newO_ids h⟩
 | busts => exact .inl rfl
 | corrects => exact .inl rfl
 | fills hk h => exact .inl (fillO_ids h)
 | changes hk h => exact .inr ⟨by simp [opensX, hk], changeO_ids h⟩
 | closes hk h => exact .inl (closeO_ids h)
theorem wrong_cases {b : Bk} {x : Ex} (hr : rightBk b = true) (h : (comeF b x).2 = 3) : execB x = true ∧ b.bad = 0 ∧ b.ids.length < 256 ∧ x.id ∉ b.ids ∧ (comeF b x).1.orders = b.orders := by
 cases hx : execB x with
 | false => unfold comeF at h; rw [hx] at h; simp at h
 | true =>
   have e : comeF b x = takeF b x := by unfold comeF; simp [hr, hx]
   rw [e] at h ⊢
   by_cases h1 : b.bad ≠ 0 ∨ 256 ≤ b.ids.length
   · unfold takeF at h; rw [if_pos h1] at h; simp at h
   · simp only [not_or, ne_eq, Decidable.not_not] at h1
     by_cases hm : x.id ∈ b.ids
     · unfold takeF at h; rw [if_neg (by omega), if_pos (hasF_iff.2 hm)] at h; simp at h
     · rcases take_cases h1.1 (by omega) hm with ⟨e', h4, _⟩ | ⟨c, h4, h5, h6⟩
       · exact ⟨rfl, h1.1, by omega, hm, by rw [h4]⟩
       · rw [h4] at h; simp at h
theorem come_len {b : Bk} {x : Ex} (hr : rightBk b = true) (h : (comeF b x).2 = 1) : b.ids.length < 256 := by
 obtain ⟨hx, hb, hm, _⟩ := fresh_cases hr h
 have e : comeF b x = takeF b x := by unfold comeF; simp [hr, hx]
 rw [e] at h
 rcases Nat.lt_or_ge b.ids.length 256 with h' | h'
 · exact h'
 · unfold takeF at h; rw [if_pos (.inr h')] at h; simp at h
theorem badV_right {v : Vn} {x : Ex} {now : Int} (hv : rightV v now = true) (hm : x.id ∉ v.book.ids) (hl : v.book.ids.length < 256) : rightV (badV v x) now = true := by
 obtain ⟨f1, f2, f3, f4, f5, f6⟩ := rightV_facts hv
 obtain ⟨⟨a1, a2, a3, a4, a5, a6, a7⟩, b2, b3, b4⟩ := rightBk_iff.1 f1
 refine vn_right (rightBk_iff.2 ⟨⟨a1, a2, by show (v.book.ids ++ [x.id]).length ≤ 256; simp; omega, a4, a5, by show (0 : Int) ≤ 2; decide, by show (2 : Int) ≤ 6; decide⟩, ?_, ?_, b4⟩) f2 f3 f4 f5 f6
 · show (v.book.ids ++ [x.id]).Nodup
   rw [List.nodup_append]
   refine ⟨b2, by simp, fun a ha c hc e => ?_⟩
   simp only [List.mem_singleton] at hc
   subst hc; subst e; exact hm ha
 · exact fun f hf => fillB_later (h := b3 f hf) (Int.le_refl _) (fun s hs => List.mem_append_left _ hs)
theorem rightO_erase {l : List Od} {p : Nat} (h : rightO l = true) : rightO (l.eraseIdx p) = true := by
 rw [rightO_iff] at h ⊢
 have hs : (l.eraseIdx p).Sublist l := List.eraseIdx_sublist ..
 exact ⟨Nat.le_trans hs.length_le h.1, fun o ho => h.2.1 o (hs.subset ho), (hs.map _).nodup h.2.2⟩
theorem told_right {g : Gt} {n : Int} {x : Ex} (h : rightG g = true) : rightG (toldG g n x).1 = true := by
 cases hi : isAtB g n with
 | false => rw [told_no hi]; exact h
 | true =>
   obtain ⟨k, v, rfl, hv⟩ := isAt_get hi
   have hrv := isAt_rightV hi hv
   obtain ⟨f1, f2, f3, f4, f5, f6⟩ := rightV_facts hrv
   have hnow := right_lens h
   have hn : 0 ≤ g.now := by have := hnow.2.2.2.1; simp only [timeB, Bool.and_eq_true, decide_eq_true_eq] at this; exact this.1
   rw [told_at hi hv]
   split
   · exact h
   rename_i h24
   split
   rotate_left
   · exact h
   rename_i h13
   refine with_right h ?_
   have hb := comeF_right (x := x) f1
   have ids : ∀ (s : List Od) (l2 : Int), rightO s = true → 0 ≤ l2 → l2 ≤ g.now → (comeF v.book x).1.orders.length + s.length ≤ 64 → (∀ o ∈ s, o.opn = true ∧ hasB (comeF v.book x).1.orders o.id = false) → rightV ⟨(comeF v.book x).1, s, l2, v.gap⟩ g.now = true :=
     fun s l2 e1 e2 e3 e4 e5 => vn_right hb e1 e4 e2 e3 e5
   have same : (comeF v.book x).1.orders.map (·.id) = v.book.orders.map (·.id) → ∀ l2 : Int, 0 ≤ l2 → l2 ≤ g.now → rightV ⟨(comeF v.book x).1, v.sent, l2, v.gap⟩ g.now = true := fun e l2 e2 e3 => by
     have hlen : (comeF v.book x).1.orders.length = v.book.orders.length := by have := congrArg List.length e; simpa using this
     refine ids _ _ f2 e2 e3 (by omega) (fun o ho => ⟨(f6 o ho).1, ?_⟩)
     rw [hasB_iff, e, ← hasB_iff]; exact (f6 o ho).2
   have hk3 : (comeF v.book x).2 = 3 → (comeF v.book x).1.orders.map (·.id) = v.book.orders.map (·.id) := fun h3 => by rw [(wrong_cases f1 h3).2.2.2.2]
   have hnew : x.id ∉ v.book.ids ∧ v.book.ids.length < 256 := by
     rcases h13 with h1 | h3
     · exact ⟨(fresh_cases f1 h1).2.2.1, come_len f1 h1⟩
     · have := wrong_cases f1 h3; exact ⟨this.2.2.2.1, this.2.2.1⟩
   have h1ids : (comeF v.book x).2 = 1 → (comeF v.book x).1.orders.map (·.id) = v.book.orders.map (·.id) ∨ (opensX x = true ∧ (comeF v.book x).1.orders.map (·.id) = v.book.orders.map (·.id) ++ [x.ord]) := fun h1 => by
     obtain ⟨_, _, _, c, e, _, hd⟩ := fresh_cases f1 h1
     have := does_ids hd
     rw [e]; exact this
   unfold toldV
   split
   · rename_i ho
     split
     · exact badV_right hrv hnew.1 hnew.2
     · rename_i p hp
       split
       · rename_i h1
         rcases h1ids h1 with e | ⟨_, e⟩
         ·
           have hs : (v.sent.eraseIdx p).Sublist v.sent := List.eraseIdx_sublist ..
           have hlen : (comeF v.book x).1.orders.length = v.book.orders.length := by have := congrArg List.length e; simpa using this
           have := hs.length_le
           refine ids _ _ (rightO_erase f2) hn (Int.le_refl _) (by omega) (fun o ho => ⟨(f6 o (hs.subset ho)).1, ?_⟩)
           rw [hasB_iff, e, ← hasB_iff]; exact (f6 o (hs.subset ho)).2
         · have hs : (v.sent.eraseIdx p).Sublist v.sent := List.eraseIdx_sublist ..
           have hlen : (comeF v.book x).1.orders.length = v.book.orders.length + 1 := by have := congrArg List.length e; simpa using this
           obtain ⟨hpl, hfit, _⟩ := List.findIdx?_eq_some_iff_getElem.1 hp
           have hpid : v.sent[p].id = x.ord := by
             simp only [fitsO, Bool.and_eq_true, decide_eq_true_eq] at hfit
             exact hfit.1.1.1.1.1.1
           have hel : (v.sent.eraseIdx p).length = v.sent.length - 1 := List.length_eraseIdx_of_lt hpl
           refine ids _ _ (rightO_erase f2) hn (Int.le_refl _) (by omega) (fun o ho => ⟨(f6 o (hs.subset ho)).1, ?_⟩)
           rw [hasB_iff, e, decide_eq_false_iff_not, List.mem_append, not_or]
           refine ⟨by have := (f6 o (hs.subset ho)).2; rw [hasB_iff] at this; simpa using this, fun hx => ?_⟩
           simp only [List.mem_singleton] at hx
           have hnd := (rightO_iff.1 f2).2.2
           obtain ⟨q, hq⟩ := List.mem_iff_getElem?.1 ho
           rw [List.getElem?_eraseIdx] at hq
           have hpg : (v.sent.map (·.id))[p]? = some x.ord := by rw [List.getElem?_map, List.getElem?_eq_getElem hpl]; simp [hpid]
           have key : ∀ j, v.sent[j]? = some o → j = p := fun j hj => by
             have hjg : (v.sent.map (·.id))[j]? = some x.ord := by rw [List.getElem?_map, hj]; simp [hx]
             have hjl := get_lt hjg
             exact (List.getElem?_inj hjl hnd).1 (hjg.trans hpg.symm)
           split at hq
           · have := key _ hq; omega
           · have := key _ hq; omega
       · rename_i h1
         exact same (hk3 (by omega)) _ f4 f5
   · rename_i ho
     split
     · rename_i h1
       rcases h1ids h1 with e | ⟨e0, _⟩
       · exact same e _ hn (Int.le_refl _)
       · exact absurd e0 ho
     · rename_i h1
       exact same (hk3 (by omega)) _ f4 f5
theorem zeroV_right {p : Int} (h : timeB p = true) : rightV zeroV 0 = true := by decide
theorem new_right {n p : Int} (h1 : 1 ≤ n) (h2 : n ≤ 4) (h : timeB p = true) : rightG (newG n p).1 = true := by
 rw [new_yes h1 h2 h]
 refine rightG_ok (by show 1 ≤ (List.replicate n.toNat zeroV).length; rw [List.length_replicate]; omega) (by show (List.replicate n.toNat zeroV).length ≤ 4; rw [List.length_replicate]; omega) (by show rightL [] = true; decide) (by show timeB 0 = true; decide) h (Nat.le_refl _) (fun k v _ hv => ?_)
 have := List.mem_of_getElem? hv
 simp only [List.mem_replicate] at this
 rw [this.2]
 exact zeroV_right h
end Go.Bk
end
section
namespace Go.Abs
open Go Go.RowKit
theorem OCells.drop {c : Ctx} {k : Nat} {es : List AV} {cs : List Value} (h : OCells c k es cs) (d : Nat) : OCells c k (es.drop d) (cs.drop (d * k)) := by
 refine ⟨fun i e he => h.1 (d + i) e (by rwa [List.getElem?_drop] at he), fun i e j x he hx => ?_⟩
 rw [List.getElem?_drop] at he
 obtain ⟨v, h1, h2⟩ := h.2 (d + i) e j x he hx
 refine ⟨v, ?_, h2⟩
 rw [List.getElem?_drop, ← h1]
 congr 1
 rw [Nat.add_mul]; omega
theorem OCells.takeN {c : Ctx} {k : Nat} {es : List AV} {cs : List Value} (h : OCells c k es cs) (d : Nat) (hd : d ≤ es.length) : OCells c k (es.take d) (cs.take (d * k)) := by
 have h2 : OCells c k (es.take d ++ es.drop d) cs := by rw [List.take_append_drop]; exact h
 have := h2.take
 rwa [List.length_take, Nat.min_eq_left hd] at this
section
variable {P : Program} {w0 : World} {im0 : Base} {c : Ctx} {st : St} {a : Act} {w : World}
theorem append_self (r : Rel w0 im0 c st a w) {t tx ty e : TypeId} {k n' : Nat} (hx : srcTy P tx = true) (hai : appInfo P t = some (e, k, n')) {id i j o cy : Nat} {es : List AV} {v xv : Value}
   (hv : VR c (.mu id k 0 i es.length) v) (hxv : VR c (.mu id k o j cy) xv) (ho : st.own[id]? = some (some es)) (hpos : 0 < es.length) (hij : i + j ≤ es.length) (hoj : o + j ≤ es.length) (hna : ∀ e ∈ (es.drop o).take j, ∀ x ∈ e.leaves, x ≠ .any) :
   ∃ v' w', (Builtin.append_ #[t, tx] ty #[v, xv]).run P w = .ok v' w' ∧ Rel w0 im0 c { st with own := st.own.set id (some (es.take i ++ ((es.drop o).take j ++ es.drop (i + j)))) } a w' ∧ VR c (.mu id k 0 (i + j) es.length) v' := by
 obtain ⟨hu, hs, hk0, ii, zv, hi, hz, hsize, hbytes, hzs⟩ := appInfo_ok hai
 rcases hv.inv_mu with ⟨g, hb, hcap, hve⟩ | ⟨_, hz2, _⟩
 rotate_left
 · omega
 have hown := r.own id g k _ hb ho
 obtain ⟨cs, ty', lo, hi', hblk, hfr, hsz, hlv, hcell⟩ := hown.blk
 rw [Nat.zero_mul] at hve
 have hoc : OCells c k es cs.toList := ⟨hlv, fun i e j x he hx => by obtain ⟨u, h1, h2⟩ := hcell i e j x he hx; exact ⟨u, by simpa using h1, h2⟩⟩
 have hq : cs.toList.length = cs.size := Array.length_toList
 have hmul : (o + j) * k ≤ es.length * k := Nat.mul_le_mul_right _ hoj
 have hmul2 : (i + j) * k ≤ es.length * k := Nat.mul_le_mul_right _ hij
 rw [Nat.add_mul] at hmul hmul2
 obtain ⟨news, hnews⟩ : ∃ news, news = (cs.toList.drop (o * k)).take (j * k) := ⟨_, rfl⟩
 have hnl : news.length = j * k := by rw [hnews, List.length_take, List.length_drop, hq]; omega
 have hone : ∀ u ∈ news, u.oneCell' = true := by
   intro u hu'
   obtain ⟨q, hq'⟩ := List.mem_iff_getElem?.1 hu'
   rw [hnews, List.getElem?_take] at hq'
   split at hq'
   · rename_i hqlt
     rw [List.getElem?_drop] at hq'
     have hdm := Nat.div_add_mod q k
     have hmod := Nat.mod_lt q hk0
     have hdiv : q / k < j := Nat.div_lt_of_lt_mul (by rw [Nat.mul_comm]; exact hqlt)
     have hel : es[o + q / k]? = some (es[o + q / k]'(by omega)) := List.getElem?_eq_getElem (by omega)
     have hlen := hlv _ _ hel
     have hlf : (es[o + q / k]'(by omega)).leaves[q % k]? = some ((es[o + q / k]'(by omega)).leaves[q % k]'(by omega)) := List.getElem?_eq_getElem (by omega)
     obtain ⟨v2, e1, e2, e3⟩ := hcell _ _ _ _ hel hlf
     have hidx : (o + q / k) * k + q % k = o * k + q := by
       rw [Nat.add_mul, Nat.mul_comm (q / k) k]; omega
     rw [hidx] at e1
     have : u = v2 := by
       have h1 : cs.toList[o * k + q]? = some v2 := by simpa using e1
       rw [h1] at hq'; exact (Option.some.inj hq').symm
     subst this
     refine e3.resolve_left (hna _ ?_ _ (List.mem_of_getElem? hlf))
     refine List.mem_iff_getElem?.2 ⟨q / k, ?_⟩
     rw [List.getElem?_take, if_pos hdiv, List.getElem?_drop]; exact hel
   · simp at hq'
 have hlen : (Builtin.lenOf xv).run P w = .ok j w ∧ (Builtin.firstCells k j xv).run P w = .ok news.toArray w := by
   rcases hxv.inv_mu with ⟨g2, hb2, hcap2, hxe⟩ | ⟨hj0, _, hxe⟩
   · have hg : g2 = g := by rw [hb] at hb2; simp only [Option.some.injEq, Prod.mk.injEq] at hb2; exact hb2.1.symm
     subst hg
     rw [hxe]
     refine ⟨by simp [Builtin.lenOf], ?_⟩
     exact run_firstCells_some w k j ⟨g2, o * k, none⟩ j _ _ hnl (fun p u hp => by
       rw [add_none]
       rw [hnews, List.getElem?_take] at hp
       split at hp
       · rw [List.getElem?_drop] at hp
         simp only [World.cell?, hblk, Option.isSome_none, Bool.false_eq_true, if_false]; simpa using hp
       · simp at hp)
   · subst hj0
     rw [hxe]
     have : news = [] := List.eq_nil_of_length_eq_zero (by rw [hnl]; simp)
     rw [this]
     exact ⟨by simp [Builtin.lenOf], run_firstCells_none w k 0 0 0⟩
 have hfro : ∀ o, o < cs.toList.length → ¬ (lo ≤ o ∧ o < hi') := fun o h1 h2 => by
   have h1 : o < cs.size := by simpa using h1
   rcases hfr with h | h <;> omega
 have hcs : cs = cs.toList.toArray := by simp
 have hfit2 : i * k + 0 + news.length ≤ cs.toList.length := by rw [hnl, hq]; omega
 have hst := run_storePut (P := P) g (i * k) ty' lo hi' news 0 cs.toList w (by rw [← hcs]; exact hblk) hfro hfit2 hone
 rw [Nat.add_zero] at hst
 have hrun := run_append_place (P := P) (w := w) (ty := ty) (base := some ⟨g, 0, none⟩) (n := i) (cap := es.length) hu hs hx hlen.1 hlen.2 hij
 simp only [add_none, Nat.zero_add, hst, Result.andThen_ok] at hrun
 have hcs'len : (putV cs.toList (i * k) news).length = cs.size := by rw [putV_length]; simp
 have hOC : OCells c k (es.take i ++ ((es.drop o).take j ++ es.drop (i + j))) (putV cs.toList (i * k) news) := by
   have e1 : putV cs.toList (i * k) news = cs.toList.take (i * k) ++ (news ++ cs.toList.drop ((i + j) * k)) := by
     apply List.ext_getElem?
     intro p
     have htl : (cs.toList.take (i * k)).length = i * k := by rw [List.length_take, hq]; omega
     rw [putV_get _ _ _ _ (by simpa using hfit2)]
     by_cases hp : p < i * k
     · rw [if_neg (by omega), List.getElem?_append_left (by rw [htl]; exact hp), List.getElem?_take, if_pos hp]
     · rw [List.getElem?_append_right (by rw [htl]; omega), htl]
       by_cases hp2 : p < i * k + news.length
       · rw [if_pos ⟨by omega, hp2⟩, List.getElem?_append_left (by omega)]
       · rw [if_neg (by omega), List.getElem?_append_right (by omega), List.getElem?_drop, hnl, Nat.add_mul]
         congr 1; rw [hnl] at hp2; omega
   rw [e1]
   refine (hoc.takeN i (by omega)).append (by rw [List.length_take, List.length_take, hq, Nat.min_eq_left (show i ≤ es.length by omega)]; omega) ?_
   rw [hnews]
   refine ((hoc.drop o).takeN j (by rw [List.length_drop]; omega)).append (by rw [← hnews, hnl, List.length_take, List.length_drop, Nat.min_eq_left (by omega)]) (hoc.drop (i + j))
 have hnewlen : (es.take i ++ ((es.drop o).take j ++ es.drop (i + j))).length = es.length := by simp only [List.length_append, List.length_take, List.length_drop]; omega
 have hset := r.setOwn (w' := w.setRow g (putV cs.toList (i * k) news).toArray) (es' := es.take i ++ ((es.drop o).take j ++ es.drop (i + j))) hb ho (fun b hne => setRow_other w g b _ hne) (below_setRow r.below hown.new _)
   ⟨(putV cs.toList (i * k) news).toArray, ty', lo, hi', setRow_heap w g cs _ ty' (lo, hi') hblk, by
     rcases hfr with h | h
     · exact .inl h
     · exact .inr (by simpa [putV_length] using h), by
     rw [hnewlen]; simp only [List.size_toArray, hcs'len]; exact hsz, hOC.1, fun i e j x he hx => by
     obtain ⟨u, h1, h2⟩ := hOC.2 i e j x he hx
     exact ⟨u, by simpa using h1, h2⟩⟩
 refine ⟨_, _, by rw [hve]; exact hrun, hset, ?_⟩
 have := VR.mu (c := c) (id := id) (off := 0) (len := i + j) (g := g) (k := k) (cap := es.length) hb hij
 rw [Nat.zero_mul] at this
 exact this
end
section
variable {E : Env} {Q : Exit → St → Prop} {st : St} {ops : Array Oper} {l : List Oper}
theorem AWPL.appSelf {dst : Option Tmp} {t tx ty : TypeId} {x y : Operand} {pos : String} {after : Array Edge} {e : TypeId} {k n' id i j o cy : Nat} {es : List AV}
   (hx : srcTy E.P tx = true) (hai : appInfo E.P t = some (e, k, n')) (hs : st.ev x = .mu id k 0 i es.length) (hsy : st.ev y = .mu id k o j cy) (ho : st.own[id]? = some (some es)) (hpos : 0 < es.length) (hij : i + j ≤ es.length) (hoj : o + j ≤ es.length) (hna : ∀ e ∈ (es.drop o).take j, ∀ x ∈ e.leaves, x ≠ .any)
   (h : AWPL E ops l Q (St.put { st with own := st.own.set id (some (es.take i ++ ((es.drop o).take j ++ es.drop (i + j)))) } dst (.mu id k 0 (i + j) es.length))) : AWPL E ops (⟨dst, .call ⟨.builtin .append, #[x, y], #[t, tx]⟩, ty, pos, after, none⟩ :: l) Q st := by
 intro w0 im0 cx a w h0 hG r
 refine wpList_step (fun K' hK' => ?_)
 have hw : Region.wanted ⟨dst, .call ⟨.builtin .append, #[x, y], #[t, tx]⟩, ty, pos, after, none⟩ (yielded ops a.tmps) = true := rfl
 rw [if_pos hw]
 have hv := r.ev x
 have hvy := r.ev y
 rw [hs] at hv; rw [hsy] at hvy
 obtain ⟨v', w', h1, h2, h3⟩ := append_self (P := E.P) (ty := ty) r hx hai hv hvy ho hpos hij hoj hna
 refine wp_value (w' := w') (v := v') ?_ (hK' _ _ (h w0 im0 _ _ _ h0 hG (h2.put dst h3)))
 simp only [execOp, resolve, Sem.run_bind, Sem.run_pure, Result.andThen_ok, invoke, builtin, List.map_toArray, List.map_cons, List.map_nil, h1]
theorem bounds3_run {P : Program} {w : World} {len cap l h m : Nat} (h1 : l ≤ h) (h2 : h ≤ m) (h3 : m ≤ cap) : (Instr.sliceBounds true len cap (some (.int .i64 (l : Int))) (some (.int .i64 (h : Int))) (some (.int .i64 (m : Int)))).run P w = .ok (l, h, m) w := by
 have e1 : ∀ code, (Instr.sliceBound (.int .i64 (m : Int)) cap code).run P w = .ok m w := fun code => (bound_run (by omega) (by omega)).trans (by simp)
 have e2 : ∀ code, (Instr.sliceBound (.int .i64 (h : Int)) m code).run P w = .ok h w := fun code => (bound_run (by omega) (by omega)).trans (by simp)
 have e3 : ∀ code, (Instr.sliceBound (.int .i64 (l : Int)) h code).run P w = .ok l w := fun code => (bound_run (by omega) (by omega)).trans (by simp)
 simp [Instr.sliceBounds, Sem.run_bind, e1, e2, e3]
theorem bounds2_run {P : Program} {w : World} {len cap l h : Nat} (h1 : l ≤ h) (h2 : h ≤ cap) : (Instr.sliceBounds true len cap (some (.int .i64 (l : Int))) (some (.int .i64 (h : Int))) none).run P w = .ok (l, h, cap) w := by
 have e2 : ∀ code, (Instr.sliceBound (.int .i64 (h : Int)) cap code).run P w = .ok h w := fun code => (bound_run (by omega) (by omega)).trans (by simp)
 have e3 : ∀ code, (Instr.sliceBound (.int .i64 (l : Int)) h code).run P w = .ok l w := fun code => (bound_run (by omega) (by omega)).trans (by simp)
 simp [Instr.sliceBounds, Sem.run_bind, e2, e3]
theorem bounds1_run {P : Program} {w : World} {len cap l : Nat} (h1 : l ≤ len) : (Instr.sliceBounds true len cap (some (.int .i64 (l : Int))) none none).run P w = .ok (l, len, cap) w := by
 have e3 : ∀ code, (Instr.sliceBound (.int .i64 (l : Int)) len code).run P w = .ok l w := fun code => (bound_run (by omega) (by omega)).trans (by simp)
 simp [Instr.sliceBounds, Sem.run_bind, e3]
theorem AWPL.slice3Mu {dst : Option Tmp} {t ty : TypeId} {x lo hi mx : Operand} {pos : String} {after : Array Edge} {e : TypeId} {k id off len cap l' h' m' : Nat}
   (hu : E.P.underlying t = some (.slice e)) (hsz : tsz E.P e = some k) (hs : st.ev x = .mu id k off len cap) (hl : st.ev lo = i64 (l' : Int)) (hh : st.ev hi = i64 (h' : Int)) (hm : st.ev mx = i64 (m' : Int)) (h1 : l' ≤ h') (h2 : h' ≤ m') (h3 : m' ≤ cap)
   (h : AWPL E ops l Q (st.put dst .any)) : AWPL E ops (⟨dst, .slice t x (some lo) (some hi) (some mx), ty, pos, after, none⟩ :: l) Q st := by
 intro w0 im0 cx a w h0' hG r
 refine wpList_step (fun K' hK' => ?_)
 have hw : Region.wanted ⟨dst, .slice t x (some lo) (some hi) (some mx), ty, pos, after, none⟩ (yielded ops a.tmps) = true := rfl
 rw [if_pos hw]
 have hv := r.ev x
 rw [hs] at hv
 have e1 : a.eval lo = .int .i64 (l' : Int) := by have := r.ev lo; rw [hl] at this; exact this.inv_v
 have e2 : a.eval hi = .int .i64 (h' : Int) := by have := r.ev hi; rw [hh] at this; exact this.inv_v
 have e3 : a.eval mx = .int .i64 (m' : Int) := by have := r.ev mx; rw [hm] at this; exact this.inv_v
 have hval : ∃ u, (Instr.sliceAt t (a.eval x) (some (a.eval lo)) (some (a.eval hi)) (some (a.eval mx))).run E.P w = .ok u w := by
   rw [e1, e2, e3]
   have key : ∀ (b : Option Addr) (len cap : Nat), m' ≤ cap → (Instr.sliceAt t (.slice b len cap) (some (.int .i64 (l' : Int))) (some (.int .i64 (h' : Int))) (some (.int .i64 (m' : Int)))).run E.P w = .ok (.slice (if m' = l' then b else b.map (·.add (l' * k))) (h' - l') (m' - l')) w := by
     intro b len cap hm3
     simp only [Instr.sliceAt, Sem.run_bind, underlying_run hu, Result.andThen_ok, Instr.slice, bounds3_run (P := E.P) (w := w) h1 h2 hm3, tsz_run hsz, Sem.run_pure]
   rcases hv.inv_mu with ⟨g, hb, hcap, hve⟩ | ⟨hz, hz2, hve⟩
   · rw [hve]; exact ⟨_, key _ _ _ h3⟩
   · rw [hve]; exact ⟨_, key _ _ _ (by omega)⟩
 obtain ⟨u, hrun⟩ := hval
 refine wp_value (w' := w) (v := u) ?_ (hK' _ _ (h w0 im0 _ _ _ h0' hG (r.put dst (.base (.any _)))))
 simp only [execOp, Option.map_some, Sem.run_bind, hrun, Result.andThen_ok, Sem.run_pure]
theorem AWPL.slice2Mu {dst : Option Tmp} {t ty : TypeId} {x lo hi : Operand} {pos : String} {after : Array Edge} {e : TypeId} {k id off len cap l' h' : Nat}
   (hu : E.P.underlying t = some (.slice e)) (hsz : tsz E.P e = some k) (hs : st.ev x = .mu id k off len cap) (hl : st.ev lo = i64 (l' : Int)) (hh : st.ev hi = i64 (h' : Int)) (h1 : l' ≤ h') (h2 : h' ≤ cap) (h3 : l' < cap)
   (h : AWPL E ops l Q (st.put dst (.mu id k (off + l') (h' - l') (cap - l')))) : AWPL E ops (⟨dst, .slice t x (some lo) (some hi) none, ty, pos, after, none⟩ :: l) Q st := by
 intro w0 im0 cx a w h0' hG r
 refine wpList_step (fun K' hK' => ?_)
 have hw : Region.wanted ⟨dst, .slice t x (some lo) (some hi) none, ty, pos, after, none⟩ (yielded ops a.tmps) = true := rfl
 rw [if_pos hw]
 have hv := r.ev x
 rw [hs] at hv
 have e1 : a.eval lo = .int .i64 (l' : Int) := by have := r.ev lo; rw [hl] at this; exact this.inv_v
 have e2 : a.eval hi = .int .i64 (h' : Int) := by have := r.ev hi; rw [hh] at this; exact this.inv_v
 rcases hv.inv_mu with ⟨g, hb, hcap, hve⟩ | ⟨hz, hz2, _⟩
 rotate_left
 · omega
 have hrun : (Instr.sliceAt t (a.eval x) (some (a.eval lo)) (some (a.eval hi)) none).run E.P w = .ok (.slice (some ⟨g, (off + l') * k, none⟩) (h' - l') (cap - l')) w := by
   rw [e1, e2, hve]
   simp only [Instr.sliceAt, Sem.run_bind, underlying_run hu, Result.andThen_ok, Instr.slice, bounds2_run (P := E.P) (w := w) h1 h2, tsz_run hsz, Sem.run_pure]
   have hne : ¬ cap = l' := by omega
   simp [hne, Addr.add, Nat.add_mul]
 refine wp_value (w' := w) (v := .slice (some ⟨g, (off + l') * k, none⟩) (h' - l') (cap - l')) ?_ (hK' _ _ (h w0 im0 _ _ _ h0' hG (r.put dst (.mu hb (by omega)))))
 simp only [execOp, Option.map_some, Option.map_none, Sem.run_bind, hrun, Result.andThen_ok, Sem.run_pure]
theorem AWPL.sliceMuEnd {dst : Option Tmp} {t ty : TypeId} {x lo : Operand} {pos : String} {after : Array Edge} {e : TypeId} {k id off cap : Nat}
   (hu : E.P.underlying t = some (.slice e)) (hsz : tsz E.P e = some k) (hs : st.ev x = .mu id k off cap cap) (hl : st.ev lo = i64 (cap : Int)) (hc : 0 < cap)
   (h : AWPL E ops l Q (st.put dst (.mu id k off 0 0))) : AWPL E ops (⟨dst, .slice t x (some lo) none none, ty, pos, after, none⟩ :: l) Q st := by
 intro w0 im0 cx a w h0' hG r
 refine wpList_step (fun K' hK' => ?_)
 have hw : Region.wanted ⟨dst, .slice t x (some lo) none none, ty, pos, after, none⟩ (yielded ops a.tmps) = true := rfl
 rw [if_pos hw]
 have hv := r.ev x
 rw [hs] at hv
 have e1 : a.eval lo = .int .i64 (cap : Int) := by have := r.ev lo; rw [hl] at this; exact this.inv_v
 rcases hv.inv_mu with ⟨g, hb, hcap, hve⟩ | ⟨hz, hz2, _⟩
 rotate_left
 · omega
 have hrun : (Instr.sliceAt t (a.eval x) (some (a.eval lo)) none none).run E.P w = .ok (.slice (some ⟨g, off * k, none⟩) 0 0) w := by
   rw [e1, hve]
   simp only [Instr.sliceAt, Sem.run_bind, underlying_run hu, Result.andThen_ok, Instr.slice, bounds1_run (P := E.P) (w := w) (Nat.le_refl _), tsz_run hsz, Sem.run_pure]
   simp
 refine wp_value (w' := w) (v := .slice (some ⟨g, off * k, none⟩) 0 0) ?_ (hK' _ _ (h w0 im0 _ _ _ h0' hG (r.put dst (.mu hb (Nat.le_refl _)))))
 simp only [execOp, Option.map_some, Option.map_none, Sem.run_bind, hrun, Result.andThen_ok, Sem.run_pure]
end
end Go.Abs
end
section
namespace Go.Abs
open Go Go.RowKit
theorem Cells.ocells {c : Ctx} {k : Nat} {es : List AV} {cs : List Value} (h : Cells c.im k es cs) : OCells c k es cs :=
 ⟨h.1, fun i e j x he hx => by obtain ⟨u, h1, h2, h3⟩ := h.2 i e j x he hx; exact ⟨u, h1, .base h2, .inr h3⟩⟩
section
variable {P : Program} {w0 : World} {im0 : Base} {c : Ctx} {st : St} {a : Act} {w : World}
theorem copy_ok (r : Rel w0 im0 c st a w) {t tx ty e : TypeId} {k n' : Nat} (hai : appInfo P t = some (e, k, n')) {id off len cap : Nat} {es xs : List AV} {v xv : Value} {x : AV}
   (hv : VR c (.mu id k off len cap) v) (hxv : VR c x xv) (hsrc : ASrc x k = some xs) (ho : st.own[id]? = some (some es)) (hfit : off + len ≤ es.length) (hxl : xs.length ≤ len) (hpos : 0 < len) :
   ∃ w', (Builtin.copy_ #[t, tx] ty #[v, xv]).run P w = .ok (goInt xs.length) w' ∧ Rel w0 im0 c { st with own := st.own.set id (some (es.take off ++ (xs ++ es.drop (off + xs.length)))) } a w' := by
 obtain ⟨hu, hs, hk0, ii, zv, hi, hz, hsize, hbytes, hzs⟩ := appInfo_ok hai
 rcases hv.inv_mu with ⟨g, hb, hcap, hve⟩ | ⟨hl0, _, _⟩
 rotate_left
 · omega
 have hown := r.own id g k _ hb ho
 obtain ⟨cs, ty', lo, hi', hblk, hfr, hsz, hlv, hcell⟩ := hown.blk
 obtain ⟨news, hnl, hcells, hlen, hone, hfirst⟩ := src_ok (P := P) r hxv hk0 hsrc
 have hoc : OCells c k es cs.toList := ⟨hlv, fun i e j x he hx => by obtain ⟨u, h1, h2⟩ := hcell i e j x he hx; exact ⟨u, by simpa using h1, h2⟩⟩
 have hq : cs.toList.length = cs.size := Array.length_toList
 have hmul : (off + xs.length) * k ≤ es.length * k := Nat.mul_le_mul_right _ (by omega)
 rw [Nat.add_mul] at hmul
 have hfro : ∀ o, o < cs.toList.length → ¬ (lo ≤ o ∧ o < hi') := fun o h1 h2 => by
   have h1 : o < cs.size := by simpa using h1
   rcases hfr with h | h <;> omega
 have hcs : cs = cs.toList.toArray := by simp
 have hfit2 : off * k + 0 + news.length ≤ cs.toList.length := by rw [hnl, hq]; omega
 have hst := run_storePut (P := P) g (off * k) ty' lo hi' news 0 cs.toList w (by rw [← hcs]; exact hblk) hfro hfit2 hone
 rw [Nat.add_zero] at hst
 have hrun : (Builtin.copy_ #[t, tx] ty #[v, xv]).run P w = .ok (goInt xs.length) (w.setRow g (putV cs.toList (off * k) news).toArray) := by
   have hmin : Nat.min xs.length len = xs.length := Nat.min_eq_left hxl
   have hso := tsz_run hs w
   subst hve
   simp only [Builtin.copy_, List.getElem?_toArray, List.getElem?_cons_zero, List.getElem?_cons_succ, Sem.run_bind, underlying_run hu, Result.andThen_ok, hlen w, hso, hmin, hfirst w (fun _ _ => rfl), hst, Sem.run_pure]
 have hcs'len : (putV cs.toList (off * k) news).length = cs.size := by rw [putV_length]; simp
 have hOC : OCells c k (es.take off ++ (xs ++ es.drop (off + xs.length))) (putV cs.toList (off * k) news) := by
   have e1 : putV cs.toList (off * k) news = cs.toList.take (off * k) ++ (news ++ cs.toList.drop ((off + xs.length) * k)) := by
     apply List.ext_getElem?
     intro p
     have htl : (cs.toList.take (off * k)).length = off * k := by rw [List.length_take, hq]; omega
     rw [putV_get _ _ _ _ (by simpa using hfit2)]
     by_cases hp : p < off * k
     · rw [if_neg (by omega), List.getElem?_append_left (by rw [htl]; exact hp), List.getElem?_take, if_pos hp]
     · rw [List.getElem?_append_right (by rw [htl]; omega), htl]
       by_cases hp2 : p < off * k + news.length
       · rw [if_pos ⟨by omega, hp2⟩, List.getElem?_append_left (by omega)]
       · rw [if_neg (by omega), List.getElem?_append_right (by omega), List.getElem?_drop, hnl, Nat.add_mul]
         congr 1; rw [hnl] at hp2; omega
   rw [e1]
   refine (hoc.takeN off (by omega)).append (by rw [List.length_take, List.length_take, hq, Nat.min_eq_left (show off ≤ es.length by omega)]; omega) ?_
   exact hcells.ocells.append hnl (hoc.drop (off + xs.length))
 have hnewlen : (es.take off ++ (xs ++ es.drop (off + xs.length))).length = es.length := by simp only [List.length_append, List.length_take, List.length_drop]; omega
 have hset := r.setOwn (w' := w.setRow g (putV cs.toList (off * k) news).toArray) (es' := es.take off ++ (xs ++ es.drop (off + xs.length))) hb ho (fun b hne => setRow_other w g b _ hne) (below_setRow r.below hown.new _)
   ⟨(putV cs.toList (off * k) news).toArray, ty', lo, hi', setRow_heap w g cs _ ty' (lo, hi') hblk, by
     rcases hfr with h | h
     · exact .inl h
     · exact .inr (by simpa [putV_length] using h), by
     rw [hnewlen]; simp only [List.size_toArray, hcs'len]; exact hsz, hOC.1, fun i e j x he hx => by
     obtain ⟨u, h1, h2⟩ := hOC.2 i e j x he hx
     exact ⟨u, by simpa using h1, h2⟩⟩
 exact ⟨_, hrun, hset⟩
end
theorem AWPL.copyMu {E : Env} {Q : Exit → St → Prop} {st : St} {ops : Array Oper} {l : List Oper} {dst : Option Tmp} {t tx ty : TypeId} {x y : Operand} {pos : String} {after : Array Edge} {e : TypeId} {k n id off len cap : Nat} {es xs : List AV}
   (hai : appInfo E.P t = some (e, k, n)) (hx : st.ev x = .mu id k off len cap) (hsrc : ASrc (st.ev y) k = some xs) (ho : st.own[id]? = some (some es)) (hfit : off + len ≤ es.length) (hxl : xs.length ≤ len) (hpos : 0 < len)
   (h : AWPL E ops l Q (St.put { st with own := st.own.set id (some (es.take off ++ (xs ++ es.drop (off + xs.length)))) } dst (.v (goInt xs.length)))) : AWPL E ops (⟨dst, .call ⟨.builtin .copy, #[x, y], #[t, tx]⟩, ty, pos, after, none⟩ :: l) Q st := by
 intro w0 im0 cx a w h0 hG r
 refine wpList_step (fun K' hK' => ?_)
 have hw : Region.wanted ⟨dst, .call ⟨.builtin .copy, #[x, y], #[t, tx]⟩, ty, pos, after, none⟩ (yielded ops a.tmps) = true := rfl
 rw [if_pos hw]
 have hv := r.ev x
 rw [hx] at hv
 obtain ⟨w', hrun, r2⟩ := copy_ok (P := E.P) (tx := tx) (ty := ty) r hai hv (r.ev y) hsrc ho hfit hxl hpos
 refine wp_value (w' := w') (v := goInt xs.length) ?_ (hK' _ _ (h w0 im0 _ _ _ h0 hG (r2.put dst (.base (.v _)))))
 simp [execOp, resolve, invoke, Sem.run_bind, builtin, hrun]
end Go.Abs
end
section
namespace Go.Abs
open Go Go.RowKit
section
variable {P : Program} {w0 : World} {im0 : Base} {c : Ctx} {st : St} {a : Act} {w : World}
theorem grow_own (r : Rel w0 im0 c st a w) {t tn ty e : TypeId} {k n' : Nat} {kn kq : IntKind} (hai : appInfo P t = some (e, k, n')) (htn : P.underlying tn = some (.int kn)) {id i cap q : Nat} {es : List AV} {v : Value}
   (hv : VR c (.mu id k 0 i cap) v) (ho : st.own[id]? = some (some es)) (hc : 0 < cap) (hie : i ≤ es.length) (hq : 0 < q) (hg : cap < i + q) (h62 : i + q ≤ 4611686018427387904) (hbt : (i + q) * n' ≤ 140737488355328) :
   ∃ v' w' c' m, (Builtin.append_ #[t, tn] ty #[v, .int kq (q : Int)]).run P w = .ok v' w' ∧ Rel w0 im0 c' { st with own := st.own ++ [some (es.take i ++ spare k (q + m))] } a w' ∧ VR c' (.mu st.own.length k 0 (i + q) (i + q + m)) v' := by
 obtain ⟨hu, hs, hk0, ii, zv, hi, hz, hsize, hbytes, hzs⟩ := appInfo_ok hai
 rcases hv.inv_mu with ⟨g, hb, hcap, hve⟩ | ⟨_, hz2, _⟩
 rotate_left
 · omega
 have hown := r.own id g k _ hb ho
 obtain ⟨cs, ty', lo, hi2, hblk, hfr, hsz, hlv, hcell⟩ := hown.blk
 rw [Nat.zero_mul] at hve
 have hoc : OCells c k es cs.toList := ⟨hlv, fun i e j x he hx => by obtain ⟨u, h1, h2⟩ := hcell i e j x he hx; exact ⟨u, by simpa using h1, h2⟩⟩
 have hq' : cs.toList.length = cs.size := Array.length_toList
 have hmul : i * k ≤ es.length * k := Nat.mul_le_mul_right _ hie
 have hol : (cs.toList.take (i * k)).length = i * k := by rw [List.length_take, hq']; omega
 have hof : (Builtin.firstCells ii.size i (.slice (some ⟨g, 0, none⟩) i cap)).run P w.drew = .ok (cs.toList.take (i * k)).toArray w.drew := by
   rw [hsize]
   exact run_firstCells_some w.drew k i ⟨g, 0, none⟩ i _ _ hol (fun j u hj => by
     rw [add_none, Nat.zero_add]
     rw [List.getElem?_take] at hj
     split at hj
     · show w.cell? ⟨g, j, none⟩ = some u
       simp only [World.cell?, hblk, Option.isSome_none, Bool.false_eq_true, if_false]; simpa using hj
     · simp at hj)
 have hbq : q * ii.bytes ≤ 281474976710656 := by
   rw [hbytes]
   have := Nat.mul_le_mul_right n' (show q ≤ i + q by omega)
   omega
 have hfit : Builtin.nextslicecap (i + q) cap * ii.bytes ≤ 281474976710656 := growslice_fits hg (by rw [hbytes]; exact hbt)
 have hrun := Go.Lib.run_append_grow_zeros (P := P) w t tn ty e ii zv kq kn hu htn hi hz (some ⟨g, 0, none⟩) i cap _ hof q hq (by rw [hsize]; exact hk0) hg (by omega) hbq hfit
 have hC := grownCap_ge w (i + q) cap e
 refine ⟨_, _, _, grownCap w (i + q) cap e - (i + q), by rw [hve]; exact hrun, (r.addOwn (k := k) (g := w.heap.size) (es := es.take i ++ spare k (q + (grownCap w (i + q) cap e - (i + q)))) (below_drew_alloc w _) (Nat.le_refl _) ⟨_, e, 0, 0, heap_new w.drew _, .inl rfl, ?_, ?_⟩).2, ?_⟩
 · simp only [Array.size_append, List.size_toArray, hol, zeroCells_size, hzs, List.length_append, List.length_take, spare_len, Nat.min_eq_left hie, Nat.add_mul]; omega
 · have hcells : OCells c k (es.take i ++ spare k (q + (grownCap w (i + q) cap e - (i + q)))) (cs.toList.take (i * k) ++ ((Builtin.zeroCells zv.cells q).toList ++ (Builtin.zeroCells zv.cells (grownCap w (i + q) cap e - (i + q))).toList)) :=
     (hoc.takeN i hie).append (by rw [hol, List.length_take, Nat.min_eq_left hie]) (OCells.spare (by simp only [List.length_append, Array.length_toList, zeroCells_size, hzs, Nat.add_mul]; exact Nat.le_refl _))
   refine ⟨hcells.1, fun i e j x he hx => ?_⟩
   obtain ⟨u, h1, h2⟩ := hcells.2 i e j x he hx
   refine ⟨u, ?_, h2⟩
   rw [← Array.getElem?_toList]
   simpa using h1
 · have := VR.mu (c := { c with β := c.β ++ [some (w.heap.size, k)] }) (id := st.own.length) (off := 0) (len := i + q) (g := w.heap.size) (k := k) (cap := grownCap w (i + q) cap e) (by show (c.β ++ [_])[_]? = _; rw [← r.ownlen]; simp) hC
   rw [Nat.zero_mul] at this
   rw [show i + q + (grownCap w (i + q) cap e - (i + q)) = grownCap w (i + q) cap e by omega]
   exact this
theorem copy_own (r : Rel w0 im0 c st a w) {t tx ty e : TypeId} {k n' : Nat} (hai : appInfo P t = some (e, k, n')) {id off len cap id2 o j cy m : Nat} {es es2 : List AV} {v xv : Value}
   (hv : VR c (.mu id k off len cap) v) (hxv : VR c (.mu id2 k o j cy) xv) (ho : st.own[id]? = some (some es)) (ho2 : st.own[id2]? = some (some es2)) (hm : Nat.min j len = m) (hfit : off + m ≤ es.length) (hoj : o + m ≤ es2.length) (hpos : 0 < len) (hposj : 0 < j)
   (hna : ∀ e ∈ (es2.drop o).take m, ∀ x ∈ e.leaves, x ≠ .any) :
   ∃ w', (Builtin.copy_ #[t, tx] ty #[v, xv]).run P w = .ok (goInt m) w' ∧ Rel w0 im0 c { st with own := st.own.set id (some (es.take off ++ ((es2.drop o).take m ++ es.drop (off + m)))) } a w' := by
 obtain ⟨hu, hs, hk0, ii, zv, hi, hz, hsize, hbytes, hzs⟩ := appInfo_ok hai
 rcases hv.inv_mu with ⟨g, hb, hcap, hve⟩ | ⟨hl0, _, _⟩
 rotate_left
 · omega
 rcases hxv.inv_mu with ⟨g2, hb2, hcap2, hxe⟩ | ⟨hl0, _, _⟩
 rotate_left
 · omega
 have hown := r.own id g k _ hb ho
 obtain ⟨cs, ty', lo, hi', hblk, hfr, hsz, hlv, hcell⟩ := hown.blk
 have hown2 := r.own id2 g2 k _ hb2 ho2
 obtain ⟨ds, ty2, lo2, hi2, hblk2, hfr2, hsz2, hlv2, hcell2⟩ := hown2.blk
 have hoc : OCells c k es cs.toList := ⟨hlv, fun i e j x he hx => by obtain ⟨u, h1, h2⟩ := hcell i e j x he hx; exact ⟨u, by simpa using h1, h2⟩⟩
 have hoc2 : OCells c k es2 ds.toList := ⟨hlv2, fun i e j x he hx => by obtain ⟨u, h1, h2⟩ := hcell2 i e j x he hx; exact ⟨u, by simpa using h1, h2⟩⟩
 have hq : cs.toList.length = cs.size := Array.length_toList
 have hq2 : ds.toList.length = ds.size := Array.length_toList
 have hmul : (off + m) * k ≤ es.length * k := Nat.mul_le_mul_right _ hfit
 have hmul2 : (o + m) * k ≤ es2.length * k := Nat.mul_le_mul_right _ hoj
 rw [Nat.add_mul] at hmul hmul2
 obtain ⟨news, hnews⟩ : ∃ news, news = (ds.toList.drop (o * k)).take (m * k) := ⟨_, rfl⟩
 have hnl : news.length = m * k := by rw [hnews, List.length_take, List.length_drop, hq2]; omega
 have hone : ∀ u ∈ news, u.oneCell' = true := by
   intro u hu'
   obtain ⟨q, hq'⟩ := List.mem_iff_getElem?.1 hu'
   rw [hnews, List.getElem?_take] at hq'
   split at hq'
   · rename_i hqlt
     rw [List.getElem?_drop] at hq'
     have hdm := Nat.div_add_mod q k
     have hmod := Nat.mod_lt q hk0
     have hdiv : q / k < m := Nat.div_lt_of_lt_mul (by rw [Nat.mul_comm]; exact hqlt)
     have hel : es2[o + q / k]? = some (es2[o + q / k]'(by omega)) := List.getElem?_eq_getElem (by omega)
     have hlen := hlv2 _ _ hel
     have hlf : (es2[o + q / k]'(by omega)).leaves[q % k]? = some ((es2[o + q / k]'(by omega)).leaves[q % k]'(by omega)) := List.getElem?_eq_getElem (by omega)
     obtain ⟨v2, e1, e2, e3⟩ := hcell2 _ _ _ _ hel hlf
     have hidx : (o + q / k) * k + q % k = o * k + q := by
       rw [Nat.add_mul, Nat.mul_comm (q / k) k]; omega
     rw [hidx] at e1
     have : u = v2 := by
       have h1 : ds.toList[o * k + q]? = some v2 := by simpa using e1
       rw [h1] at hq'; exact (Option.some.inj hq').symm
     subst this
     refine e3.resolve_left (hna _ ?_ _ (List.mem_of_getElem? hlf))
     refine List.mem_iff_getElem?.2 ⟨q / k, ?_⟩
     rw [List.getElem?_take, if_pos hdiv, List.getElem?_drop]; exact hel
   · simp at hq'
 have hfro : ∀ o, o < cs.toList.length → ¬ (lo ≤ o ∧ o < hi') := fun o h1 h2 => by
   have h1 : o < cs.size := by simpa using h1
   rcases hfr with h | h <;> omega
 have hcs : cs = cs.toList.toArray := by simp
 have hfit2 : off * k + 0 + news.length ≤ cs.toList.length := by rw [hnl, hq]; omega
 have hst := run_storePut (P := P) g (off * k) ty' lo hi' news 0 cs.toList w (by rw [← hcs]; exact hblk) hfro hfit2 hone
 rw [Nat.add_zero] at hst
 have hfirst : (Builtin.firstCells k m xv).run P w = .ok news.toArray w := by
   rw [hxe]
   exact run_firstCells_some w k m ⟨g2, o * k, none⟩ j _ _ hnl (fun p u hp => by
     rw [add_none]
     rw [hnews, List.getElem?_take] at hp
     split at hp
     · rw [List.getElem?_drop] at hp
       simp only [World.cell?, hblk2, Option.isSome_none, Bool.false_eq_true, if_false]; simpa using hp
     · simp at hp)
 have hlenx : (Builtin.lenOf xv).run P w = .ok j w := by rw [hxe]; simp [Builtin.lenOf]
 have hrun : (Builtin.copy_ #[t, tx] ty #[v, xv]).run P w = .ok (goInt m) (w.setRow g (putV cs.toList (off * k) news).toArray) := by
   have hso := tsz_run hs w
   subst hve
   simp only [Builtin.copy_, List.getElem?_toArray, List.getElem?_cons_zero, List.getElem?_cons_succ, Sem.run_bind, underlying_run hu, Result.andThen_ok, hlenx, hso, hm, hfirst, hst, Sem.run_pure]
 have hcs'len : (putV cs.toList (off * k) news).length = cs.size := by rw [putV_length]; simp
 have hOC : OCells c k (es.take off ++ ((es2.drop o).take m ++ es.drop (off + m))) (putV cs.toList (off * k) news) := by
   have e1 : putV cs.toList (off * k) news = cs.toList.take (off * k) ++ (news ++ cs.toList.drop ((off + m) * k)) := by
     apply List.ext_getElem?
     intro p
     have htl : (cs.toList.take (off * k)).length = off * k := by rw [List.length_take, hq]; omega
     rw [putV_get _ _ _ _ (by simpa using hfit2)]
     by_cases hp : p < off * k
     · rw [if_neg (by omega), List.getElem?_append_left (by rw [htl]; exact hp), List.getElem?_take, if_pos hp]
     · rw [List.getElem?_append_right (by rw [htl]; omega), htl]
       by_cases hp2 : p < off * k + news.length
       · rw [if_pos ⟨by omega, hp2⟩, List.getElem?_append_left (by omega)]
       · rw [if_neg (by omega), List.getElem?_append_right (by omega), List.getElem?_drop, hnl, Nat.add_mul]
         congr 1; rw [hnl] at hp2; omega
   rw [e1]
   refine (hoc.takeN off (by omega)).append (by rw [List.length_take, List.length_take, hq, Nat.min_eq_left (show off ≤ es.length by omega)]; omega) ?_
   rw [hnews]
   refine ((hoc2.drop o).takeN m (by rw [List.length_drop]; omega)).append (by rw [← hnews, hnl, List.length_take, List.length_drop, Nat.min_eq_left (by omega)]) (hoc.drop (off + m))
 have hnewlen : (es.take off ++ ((es2.drop o).take m ++ es.drop (off + m))).length = es.length := by simp only [List.length_append, List.length_take, List.length_drop]; omega
 have hset := r.setOwn (w' := w.setRow g (putV cs.toList (off * k) news).toArray) (es' := es.take off ++ ((es2.drop o).take m ++ es.drop (off + m))) hb ho (fun b hne => setRow_other w g b _ hne) (below_setRow r.below hown.new _)
   ⟨(putV cs.toList (off * k) news).toArray, ty', lo, hi', setRow_heap w g cs _ ty' (lo, hi') hblk, by
     rcases hfr with h | h
     · exact .inl h
     · exact .inr (by simpa [putV_length] using h), by
     rw [hnewlen]; simp only [List.size_toArray, hcs'len]; exact hsz, hOC.1, fun i e j x he hx => by
     obtain ⟨u, h1, h2⟩ := hOC.2 i e j x he hx
     exact ⟨u, by simpa using h1, h2⟩⟩
 exact ⟨_, hrun, hset⟩
theorem overlaps_no (r : Rel w0 im0 c st a w) {t tR e : TypeId} {t0 : Option Nat} {k id off len cap : Nat} {es xs : List AV} {v xv : Value} (hu : P.underlying t = some (.slice e)) (hs : tsz P e = some k) (hk : 1 < k)
   (hxv : VR c (.sl t0 k xs) xv) (hv : VR c (.mu id k off len cap) v) (ho : st.own[id]? = some (some es)) (hx0 : xs ≠ []) (hlen : 0 < len) (hoff : off < es.length) :
   (Extern.SlicesOverlaps.overlaps #[t, t] #[tR] #[xv, v]).run P w = .ok (.bool false) w := by
 rcases hv.inv_mu with ⟨g, hb, hcap, hve⟩ | ⟨hl0, _, _⟩
 rotate_left
 · omega
 have hown := r.own id g k _ hb ho
 obtain ⟨cs, ty', lo, hi', hblk, hfr, hsz, hlv, hcell⟩ := hown.blk
 have hlh : lo = hi' := by rcases hfr with h | h <;> omega
 have hmul : (off + 1) * k ≤ es.length * k := Nat.mul_le_mul_right _ hoff
 rw [Nat.add_mul] at hmul
 have h := hxv.sl_base
 cases h with
 | sl0 => exact absurd rfl hx0
 | sl _ _ b o cap2 cv hc2 hk2 hm2 h12 hv2 =>
   obtain ⟨x, xs', rfl⟩ : ∃ x xs', xs = x :: xs' := by cases xs with | nil => exact absurd rfl hx0 | cons x xs' => exact ⟨_, _, rfl⟩
   have hlx := hk2 0 x rfl
   have him := hm2 0 x 0 (x.leaves[0]'(by omega)) rfl (List.getElem?_eq_getElem (by omega))
   have hcell2 := r.imok _ _ _ him
   have hne : b ≠ g := fun e => by subst e; rw [hown.im] at him; simp at him
   obtain ⟨ds, ty2, fr2, hblk2, hds⟩ : ∃ ds ty2 fr2, w.heap[b]? = some (.cells ds ty2 fr2) ∧ ds.size ≠ 0 := by
     unfold World.cell? at hcell2
     cases hbb : w.heap[b]? with
     | none => simp [hbb] at hcell2
     | some ob =>
       cases ob with
       | cells ds ty2 fr2 =>
         refine ⟨ds, ty2, fr2, rfl, fun h0 => ?_⟩
         have : ds = #[] := Array.eq_empty_of_size_eq_zero h0
         subst this
         simp [hbb] at hcell2
       | _ => simp [hbb] at hcell2
   subst hve
   have hnb : (b != g) = true := by simpa using hne
   have hnb' : (b == g) = false := by simpa using hne
   have hsa : w.shape? b = some (ty2, ds.size) := by simp only [World.shape?, hblk2]
   have hsb : w.shape? g = some (ty', cs.size) := by simp only [World.shape?, hblk]
   have hfb : ∀ o, w.frozen? ⟨g, o, none⟩ = false := fun o => by simp only [World.frozen?, hblk]; subst hlh; simp
   obtain ⟨n1, hn1⟩ : ∃ n, ds.size = n + 1 := ⟨ds.size - 1, by omega⟩
   obtain ⟨n2, hn2⟩ : ∃ n, cs.size = n + 1 := ⟨cs.size - 1, by omega⟩
   rw [hn1] at hsa; rw [hn2] at hsb
   have hz := tsz_run hs
   change Sem.run P (α := Value) (do
     let some t := (#[t, t] : Array TypeId)[0]? | stuck "slices.overlaps: no parameter types"
     let .slice elem ← underlying t | stuck "slices.overlaps: slice type expected"
     let size ← sizeOf elem
     match (some ⟨b, o, none⟩ : Option Addr), (some ⟨g, off * k, none⟩ : Option Addr) with
     | some a, some b =>
       if (x :: xs').length = 0 ∨ len = 0 ∨ size = 0 then pure (Value.bool false)
       else if a.block != b.block && (← frozen a) && (← frozen b) then unsupported .addressObserved
       else do
         if a.block != b.block then do
           noView a; noView b
           if ← mayBeOne a b then return Value.bool ((← choose (.extern "sameAddr.stringBytes" 2)) == 1)
         pure (Value.bool (a.block == b.block && a.off < b.off + len * size && b.off < a.off + (x :: xs').length * size))
     | _, _ => pure (Value.bool false)) w = _
   have hk0 : ¬ k = 0 := by omega
   have hl0 : ¬ len = 0 := by omega
   simp only [List.length_cons, Nat.succ_ne_zero, hl0, hk0, false_or, or_self, if_false]
   by_cases hfa : w.frozen? ⟨b, o, none⟩ = true <;> by_cases hfe : w.frozen? ⟨b, n1 + 1, none⟩ = true <;>
     simp [underlying_run hu, hz, hnb, hnb', frozen, noView, viewAt, mayBeOne, stringish, shape, Sem.run, hsa, hsb, hfa, hfe, hfb]
end
section
variable {E : Env} {Q : Exit → St → Prop} {st : St} {ops : Array Oper} {l : List Oper}
theorem AWPL.growMu {dst : Option Tmp} {t tn ty : TypeId} {x y : Operand} {pos : String} {after : Array Edge} {e : TypeId} {k n id i cap q : Nat} {es : List AV} {kn kq : IntKind}
   (hai : appInfo E.P t = some (e, k, n)) (htn : E.P.underlying tn = some (.int kn)) (hx : st.ev x = .mu id k 0 i cap) (hy : st.ev y = .v (.int kq (q : Int))) (ho : st.own[id]? = some (some es)) (hc : 0 < cap) (hie : i ≤ es.length) (hq : 0 < q) (hg : cap < i + q) (h62 : i + q ≤ 4611686018427387904) (hbt : (i + q) * n ≤ 140737488355328)
   (h : ∀ m, AWPL E ops l Q (St.put { st with own := st.own ++ [some (es.take i ++ spare k (q + m))] } dst (.mu st.own.length k 0 (i + q) (i + q + m)))) : AWPL E ops (⟨dst, .call ⟨.builtin .append, #[x, y], #[t, tn]⟩, ty, pos, after, none⟩ :: l) Q st := by
 intro w0 im0 cx a w h0 hG r
 refine wpList_step (fun K' hK' => ?_)
 have hw : Region.wanted ⟨dst, .call ⟨.builtin .append, #[x, y], #[t, tn]⟩, ty, pos, after, none⟩ (yielded ops a.tmps) = true := rfl
 rw [if_pos hw]
 have hv := r.ev x
 rw [hx] at hv
 have ey : a.eval y = .int kq (q : Int) := by have := r.ev y; rw [hy] at this; exact this.inv_v
 obtain ⟨v', w', c', m, h1, h2, h3⟩ := grow_own (P := E.P) (ty := ty) (kq := kq) r hai htn hv ho hc hie hq hg h62 hbt
 refine wp_value (w' := w') (v := v') ?_ (hK' _ _ (h m w0 im0 _ _ _ h0 hG (h2.put dst h3)))
 simp only [execOp, resolve, Sem.run_bind, Sem.run_pure, Result.andThen_ok, invoke, builtin, List.map_toArray, List.map_cons, List.map_nil, ey, h1]
theorem AWPL.copyOwn {dst : Option Tmp} {t tx ty : TypeId} {x y : Operand} {pos : String} {after : Array Edge} {e : TypeId} {k n id off len cap id2 o j cy : Nat} (m : Nat) {es es2 : List AV}
   (hai : appInfo E.P t = some (e, k, n)) (hx : st.ev x = .mu id k off len cap) (hy : st.ev y = .mu id2 k o j cy) (ho : st.own[id]? = some (some es)) (ho2 : st.own[id2]? = some (some es2)) (hm : Nat.min j len = m) (hfit : off + m ≤ es.length) (hoj : o + m ≤ es2.length) (hpos : 0 < len) (hposj : 0 < j)
   (hna : ∀ e ∈ (es2.drop o).take m, ∀ x ∈ e.leaves, x ≠ .any)
   (h : AWPL E ops l Q (St.put { st with own := st.own.set id (some (es.take off ++ ((es2.drop o).take m ++ es.drop (off + m)))) } dst (.v (goInt m)))) : AWPL E ops (⟨dst, .call ⟨.builtin .copy, #[x, y], #[t, tx]⟩, ty, pos, after, none⟩ :: l) Q st := by
 intro w0 im0 cx a w h0 hG r
 refine wpList_step (fun K' hK' => ?_)
 have hw : Region.wanted ⟨dst, .call ⟨.builtin .copy, #[x, y], #[t, tx]⟩, ty, pos, after, none⟩ (yielded ops a.tmps) = true := rfl
 rw [if_pos hw]
 have hv := r.ev x
 rw [hx] at hv
 have hvy := r.ev y
 rw [hy] at hvy
 obtain ⟨w', hrun, r2⟩ := copy_own (P := E.P) (tx := tx) (ty := ty) r hai hv hvy ho ho2 hm hfit hoj hpos hposj hna
 refine wp_value (w' := w') (v := goInt m) ?_ (hK' _ _ (h w0 im0 _ _ _ h0 hG (r2.put dst (.base (.v _)))))
 simp [execOp, resolve, invoke, Sem.run_bind, builtin, hrun]
theorem AWPL.sliceHiMu {dst : Option Tmp} {t ty : TypeId} {x hi : Operand} {pos : String} {after : Array Edge} {e : TypeId} {k id off len cap h' : Nat}
   (hu : E.P.underlying t = some (.slice e)) (hsz : tsz E.P e = some k) (hs : st.ev x = .mu id k off len cap) (hh : st.ev hi = i64 (h' : Int)) (h2 : h' ≤ cap) (h3 : 0 < cap)
   (h : AWPL E ops l Q (st.put dst (.mu id k off h' cap))) : AWPL E ops (⟨dst, .slice t x none (some hi) none, ty, pos, after, none⟩ :: l) Q st := by
 intro w0 im0 cx a w h0' hG r
 refine wpList_step (fun K' hK' => ?_)
 have hw : Region.wanted ⟨dst, .slice t x none (some hi) none, ty, pos, after, none⟩ (yielded ops a.tmps) = true := rfl
 rw [if_pos hw]
 have hv := r.ev x
 rw [hs] at hv
 have e2 : a.eval hi = .int .i64 (h' : Int) := by have := r.ev hi; rw [hh] at this; exact this.inv_v
 rcases hv.inv_mu with ⟨g, hb, hcap, hve⟩ | ⟨hz, hz2, _⟩
 rotate_left
 · omega
 have hrun : (Instr.sliceAt t (a.eval x) none (some (a.eval hi)) none).run E.P w = .ok (.slice (some ⟨g, off * k, none⟩) h' cap) w := by
   rw [e2, hve]
   have hbd : (Instr.sliceBounds true len cap none (some (.int .i64 (h' : Int))) none).run E.P w = .ok (0, h', cap) w := by
     have e1 : ∀ code, (Instr.sliceBound (.int .i64 (h' : Int)) cap code).run E.P w = .ok h' w := fun code => (bound_run (by omega) (by omega)).trans (by simp)
     simp [Instr.sliceBounds, Sem.run_bind, e1]
   simp only [Instr.sliceAt, Sem.run_bind, underlying_run hu, Result.andThen_ok, Instr.slice, hbd, tsz_run hsz, Sem.run_pure]
   have hne : ¬ cap = 0 := by omega
   simp [hne, Addr.add]
 refine wp_value (w' := w) (v := .slice (some ⟨g, off * k, none⟩) h' cap) ?_ (hK' _ _ (h w0 im0 _ _ _ h0' hG (r.put dst (.mu hb (by omega)))))
 simp only [execOp, Option.map_some, Option.map_none, Sem.run_bind, hrun, Result.andThen_ok, Sem.run_pure]
theorem AWPL.capMu {dst : Option Tmp} {t ty : TypeId} {x : Operand} {pos : String} {after : Array Edge} {e : TypeId} {k id off len cap : Nat}
   (hu : E.P.underlying t = some (.slice e)) (hs : st.ev x = .mu id k off len cap)
   (h : AWPL E ops l Q (st.put dst (i64 (cap : Int)))) : AWPL E ops (⟨dst, .call ⟨.builtin .cap, #[x], #[t]⟩, ty, pos, after, none⟩ :: l) Q st := by
 intro w0 im0 cx a w h0 hG r
 refine wpList_step (fun K' hK' => ?_)
 have hw : Region.wanted ⟨dst, .call ⟨.builtin .cap, #[x], #[t]⟩, ty, pos, after, none⟩ (yielded ops a.tmps) = true := rfl
 rw [if_pos hw]
 have hv := r.ev x
 rw [hs] at hv
 have hrun : (Builtin.cap_ #[t] ty #[a.eval x]).run E.P w = .ok (goInt cap) w := by
   rcases hv.inv_mu with ⟨g, _, _, hve⟩ | ⟨_, hz2, hve⟩
   · rw [hve]; simp [Builtin.cap_, underlying_run hu]
   · subst hz2; rw [hve]; simp [Builtin.cap_, underlying_run hu]
 refine wp_value (w' := w) (v := goInt cap) ?_ (hK' _ _ (h w0 im0 _ _ _ h0 hG (r.put dst (.base (.v _)))))
 simp [execOp, resolve, invoke, Sem.run_bind, builtin, hrun]
theorem AWPL.sliceLoMu {dst : Option Tmp} {t ty : TypeId} {x lo : Operand} {pos : String} {after : Array Edge} {e : TypeId} {k id off len cap l' : Nat}
   (hu : E.P.underlying t = some (.slice e)) (hsz : tsz E.P e = some k) (hs : st.ev x = .mu id k off len cap) (hl : st.ev lo = i64 (l' : Int)) (h1 : l' ≤ len)
   (h : AWPL E ops l Q (st.put dst .any)) : AWPL E ops (⟨dst, .slice t x (some lo) none none, ty, pos, after, none⟩ :: l) Q st := by
 intro w0 im0 cx a w h0' hG r
 refine wpList_step (fun K' hK' => ?_)
 have hw : Region.wanted ⟨dst, .slice t x (some lo) none none, ty, pos, after, none⟩ (yielded ops a.tmps) = true := rfl
 rw [if_pos hw]
 have hv := r.ev x
 rw [hs] at hv
 have e1 : a.eval lo = .int .i64 (l' : Int) := by have := r.ev lo; rw [hl] at this; exact this.inv_v
 have hval : ∃ u, (Instr.sliceAt t (a.eval x) (some (a.eval lo)) none none).run E.P w = .ok u w := by
   rw [e1]
   have key : ∀ (b : Option Addr) (len cap : Nat), l' ≤ len → ∃ u, (Instr.sliceAt t (.slice b len cap) (some (.int .i64 (l' : Int))) none none).run E.P w = .ok u w := by
     intro b len cap hm3
     refine ⟨.slice (if cap = l' then b else b.map (·.add (l' * k))) (len - l') (cap - l'), ?_⟩
     simp only [Instr.sliceAt, Sem.run_bind, underlying_run hu, Result.andThen_ok, Instr.slice, bounds1_run (P := E.P) (w := w) hm3, tsz_run hsz, Sem.run_pure]
   rcases hv.inv_mu with ⟨g, hb, hcap, hve⟩ | ⟨hz, hz2, hve⟩
   · rw [hve]; exact key _ _ _ h1
   · rw [hve]; exact key _ _ _ (by omega)
 obtain ⟨u, hrun⟩ := hval
 refine wp_value (w' := w) (v := u) ?_ (hK' _ _ (h w0 im0 _ _ _ h0' hG (r.put dst (.base (.any _)))))
 simp only [execOp, Option.map_some, Option.map_none, Sem.run_bind, hrun, Result.andThen_ok, Sem.run_pure]
theorem AWPL.overlapsNo {dst : Option Tmp} {t tR ty : TypeId} {x y : Operand} {tys : Array TypeId} {pos : String} {after : Array Edge} {g : FuncId} {e : TypeId} {t0 : Option Nat} {k id off len cap : Nat} {es xs : List AV}
   (hcf : ∀ (v u : Value) (w : World), (Extern.SlicesOverlaps.overlaps #[t, t] #[tR] #[v, u]).run E.P w = .ok (.bool false) w → (callFunc g #[v, u]).run E.P w = .ok (.value (.bool false)) w)
   (hu : E.P.underlying t = some (.slice e)) (hs : tsz E.P e = some k) (hk : 1 < k) (hx : st.ev x = .sl t0 k xs) (hy : st.ev y = .mu id k off len cap) (ho : st.own[id]? = some (some es)) (hx0 : xs ≠ []) (hlen : 0 < len) (hoff : off < es.length)
   (h : AWPL E ops l Q (st.put dst (.v (.bool false)))) : AWPL E ops (⟨dst, .call ⟨.value (.func g), #[x, y], tys⟩, ty, pos, after, none⟩ :: l) Q st := by
 intro w0 im0 cx a w h0 hG r
 refine wpList_step (fun K' hK' => ?_)
 have hw : Region.wanted ⟨dst, .call ⟨.value (.func g), #[x, y], tys⟩, ty, pos, after, none⟩ (yielded ops a.tmps) = true := rfl
 rw [if_pos hw]
 have hxv := r.ev x
 rw [hx] at hxv
 have hyv := r.ev y
 rw [hy] at hyv
 have hrun := overlaps_no (P := E.P) (tR := tR) r hu hs hk hxv hyv ho hx0 hlen hoff
 have hc := hcf _ _ w hrun
 refine wp_value (w' := w) (v := .bool false) ?_ (hK' _ _ (h w0 im0 _ _ _ h0 hG (r.put dst (.base (.v _)))))
 have he' : a.eval (.func g) = .func (.func g) #[] #[] := rfl
 have hargs : Array.map a.eval #[x, y] = #[a.eval x, a.eval y] := by simp
 simp only [execOp, resolve, he', Deferred.ofValue, Sem.run_bind, Sem.run_pure, Result.andThen_ok, invoke, Array.empty_append, Array.append_empty, hargs, hc]
end
end Go.Abs
end
section
namespace Go.Abs
open Go Go.RowKit
theorem oper_wp_mono2 {P : Program} {o : Oper} {a : Act} {w : World} {K K' : Act → World → Prop} {Q Q' : Exit → Act → World → Prop} (h : ∀ a w, K a w → K' a w) (hp : ∀ c a w, Q (.panic c) a w → Q' (.panic c) a w) (hl : LetsOut Q → LetsOut Q')
   (hh : o.wp P a w K Q) : o.wp P a w K' Q' := by
 unfold Oper.wp at *
 generalize (execOp a.eval o).run P w = r at *
 cases r with
 | ok n w' =>
   cases n <;> simp only [Oper.upon] at hh ⊢ <;>
     first
       | exact h _ _ hh
       | exact Calls.mono hh (fun e w'' he => by cases e <;> first | exact h _ _ he | exact hp _ _ _ he | exact hl he)
       | exact Rows.mono hh (fun _ _ he => h _ _ he)
 | halt x w' => cases x <;> simp only [Oper.upon] at hh ⊢ <;> first | exact hp _ _ _ hh | exact hh
def FOp (E : Env) (ops : Array Oper) (o : Oper) (s s' : St) : Prop := ∀ Q : Exit → St → Prop, Q .normal s' → AWPL E ops [o] Q s
theorem FOp.list {E : Env} {ops : Array Oper} {o : Oper} {s s' : St} (h : AList E ops [o] s fun z => z = s') : FOp E ops o s s' := fun Q hQ => by
 obtain ⟨q, hq, h1, h2⟩ := h
 refine AWPL.of ⟨q, hq, fun e => aop_mono (h1 e) fun z hz => ?_, fun e => ?_⟩
 · have hz : z = s' := hz
   subst hz; exact hQ
 · have hz : s.put o.dst (.v undef) = s' := h2 e
   show Q .normal _
   rw [hz]; exact hQ
theorem FOp.call {E : Env} {ops : Array Oper} {o : Oper} {s s' : St} (h : ∀ Q : Exit → St → Prop, AWPL E ops [] Q s' → AWPL E ops [o] Q s) : FOp E ops o s s' := fun Q hQ => h Q (AWPL.of hQ)
def lookI : List (Option Tmp) → Nat → Tmp → Option Nat
 | [], _, _ => none
 | d :: r, i, t => if d = some t then some i else lookI r (i + 1) t
def flowX (ds : List (Option Tmp)) (vals : List AV) (L : Nat → Bool) (t : Nat) (x : AV) : AV := match lookI ds 0 t with | some i => if L i then vals.getD i .any else x | none => x
def expF (ds : List (Option Tmp)) (vals : List AV) (anc : List (List Nat)) (i : Nat) (st : St) (t : Tmp) : AV := match lookI ds 0 t with | some j => if (anc.getD i []).contains j then vals.getD j .any else st.tmps.getD t .any | none => st.tmps.getD t .any
def updL (L : Nat → Bool) (i : Nat) : Nat → Bool := fun j => if j = i then true else L j
def flowS (ds : List (Option Tmp)) (vals : List AV) (cs : List Nat) (ow : Nat → List (Option (List AV))) (st : St) (L : Nat → Bool) : St := { st with tmps := st.tmps.mapIdx (flowX ds vals L), own := ow (cs.countP L) }
def dstsOf (ops : Array Oper) : List (Option Tmp) := ops.toList.map (·.dst)
def flowOK (ops : Array Oper) (anc : List (List Nat)) (cs : List Nat) : Bool :=
 listedOK ops anc && (List.range ops.size).all (fun i => match ops[i]? with
   | none => false
   | some o => o.dst.isSome && (match o.dst with | some d => lookI (dstsOf ops) 0 d == some i | none => true) && o.after.toList.all (fun e => !Region.binds .any e || decide (e.on < i)) &&
     (Oper.looksAt ops o).all (fun t => match lookI (dstsOf ops) 0 t with | some j => (anc.getD i []).contains j || (anc.getD j []).contains i | none => true)) &&
 (List.range cs.length).all (fun k => (List.range k).all fun j => (anc.getD (cs.getD k 0) []).contains (cs.getD j 0)) && decide cs.Nodup && cs.all (fun i => decide (i < ops.size))
section
variable {E : Env} {ops : Array Oper} {anc : List (List Nat)} {cs : List Nat} {ow : Nat → List (Option (List AV))} {vals : List AV} {st : St}
theorem flow_read {L : Nat → Bool} {t : Tmp} {i : Nat} (h : ∀ j, lookI (dstsOf ops) 0 t = some j → L j = (anc.getD i []).contains j) : (flowS (dstsOf ops) vals cs ow st L).tmps.getD t .any = if t < st.tmps.length then expF (dstsOf ops) vals anc i st t else .any := by
 simp only [flowS, List.getD_eq_getElem?_getD, List.getElem?_mapIdx]
 by_cases ht : t < st.tmps.length
 · rw [if_pos ht, List.getElem?_eq_getElem ht]
   simp only [Option.map_some, Option.getD_some, flowX, expF]
   cases hl : lookI (dstsOf ops) 0 t with
   | none => simp [List.getD_eq_getElem?_getD, List.getElem?_eq_getElem ht]
   | some j =>
     simp only [h j hl]
     split <;> simp_all [List.getD_eq_getElem?_getD, List.getElem?_eq_getElem ht]
 · rw [if_neg ht, List.getElem?_eq_none (Nat.le_of_not_lt ht)]
   rfl
theorem count_upd {L : Nat → Bool} {i : Nat} (h : i ∉ cs) : cs.countP (updL L i) = cs.countP L := by
 apply List.countP_congr
 intro j hj
 have : j ≠ i := fun e => h (e ▸ hj)
 simp [updL, this]
theorem flow_put {L : Nat → Bool} {i : Nat} {d : Tmp} (h : lookI (dstsOf ops) 0 d = some i) : (st.tmps.mapIdx (flowX (dstsOf ops) vals L)).set d (vals.getD i .any) = st.tmps.mapIdx (flowX (dstsOf ops) vals (updL L i)) ∨ ¬ (∀ t, lookI (dstsOf ops) 0 t = some i → t = d) := by
 by_cases hu : ∀ t, lookI (dstsOf ops) 0 t = some i → t = d
 · left
   apply List.ext_getElem?
   intro t
   rw [List.getElem?_set]
   simp only [List.getElem?_mapIdx, List.length_mapIdx]
   by_cases htd : d = t
   · subst htd
     rw [if_pos rfl]
     by_cases hd : d < st.tmps.length
     · simp [hd, flowX, h, updL]
     · simp [hd]
   · rw [if_neg htd]
     cases hx : st.tmps[t]? with
     | none => rfl
     | some x =>
       simp only [Option.map_some, Option.some.injEq, flowX]
       cases hl : lookI (dstsOf ops) 0 t with
       | none => rfl
       | some j =>
         have : j ≠ i := fun e => htd (hu t (e ▸ hl)).symm
         simp [updL, this]
 · exact .inr hu
theorem lookI_get : ∀ {ds : List (Option Tmp)} {k t i : Nat}, lookI ds k t = some i → ∃ j, i = k + j ∧ ds[j]? = some (some t)
 | [], _, _, _, h => by simp [lookI] at h
 | d :: r, k, t, i, h => by
   unfold lookI at h
   split at h
   · rename_i e
     simp only [Option.some.injEq] at h
     exact ⟨0, by omega, by simp [e]⟩
   · obtain ⟨j, e1, e2⟩ := lookI_get h
     exact ⟨j + 1, by omega, by simpa using e2⟩
theorem lookI_lt {ds : List (Option Tmp)} {t i : Nat} (h : lookI ds 0 t = some i) : i < ds.length := by
 obtain ⟨j, e1, e2⟩ := lookI_get h
 have := (List.getElem?_eq_some_iff.1 e2).1
 omega
theorem flow_all {L : Nat → Bool} (hl : (dstsOf ops).length = vals.length) {p : AV → Bool} (h1 : st.tmps.all p = true) (h2 : vals.all p = true) : (flowS (dstsOf ops) vals cs ow st L).tmps.all p = true := by
 rw [List.all_eq_true] at *
 intro x hx
 obtain ⟨t, ht⟩ := List.mem_iff_getElem?.1 hx
 simp only [flowS, List.getElem?_mapIdx] at ht
 cases hy : st.tmps[t]? with
 | none => rw [hy] at ht; simp at ht
 | some y =>
   rw [hy] at ht
   simp only [Option.map_some, Option.some.injEq] at ht
   have hy2 := h1 y (List.mem_of_getElem? hy)
   rw [← ht]
   unfold flowX
   cases hk : lookI (dstsOf ops) 0 t with
   | none => exact hy2
   | some i =>
     simp only []
     split
     · have hi : i < vals.length := by rw [← hl]; exact lookI_lt hk
       have : vals.getD i .any ∈ vals := List.mem_iff_getElem?.2 ⟨i, by simp [List.getD_eq_getElem?_getD, List.getElem?_eq_getElem hi]⟩
       exact h2 _ this
     · exact hy2
theorem flow_sound {w0 : World} {im0 : Base} (h0 : E.ok w0) (hG : GOB E im0) {Q : Exit → St → Prop} (hv : listedOK ops anc = true)
   (hlt : ∀ (i : Nat) (o : Oper), ops[i]? = some o → ∀ e ∈ o.after, Region.binds .any e = true → e.on < i)
   (hstep : ∀ (i : Nat) (o : Oper), ops[i]? = some o → ∀ L : Nat → Bool, L i = false → (∀ p ∈ anc.getD i [], L p = true) → (∀ m, L m = true → ∀ p ∈ anc.getD m [], L p = true) → FOp E ops o (flowS (dstsOf ops) vals cs ow st L) (flowS (dstsOf ops) vals cs ow st (updL L i)))
   (hQ : ∀ L : Nat → Bool, (∀ i, i < ops.size → L i = true) → Q .normal (flowS (dstsOf ops) vals cs ow st L)) :
   ∀ (n : Nat) (L : Array Bool) (c : Ctx) (a : Act) (w : World), L.size = ops.size → L.toList.count false = n → WfL anc L → Rel w0 im0 c (flowS (dstsOf ops) vals cs ow st fun j => L.getD j false) a w →
     wpAny E.P .any ops (fun e a w => Hands w0 im0 (Q e) a w) n L a w := by
 have hall : ∀ L : Array Bool, L.size = ops.size → Region.ready .any ops L = [] → ∀ i, i < ops.size → L.getD i false = true := by
   intro L hs hr i
   induction i using Nat.strongRecOn with
   | ind i ih =>
     intro hi
     cases hb : L.getD i false with
     | true => rfl
     | false =>
       exfalso
       have : i ∈ Region.ready .any ops L := by
         rw [mem_ready]
         refine ⟨?_, ops[i], by simp [hi], fun e he hbd => ?_⟩
         · have hi' : i < L.size := by omega
           simpa [Array.getD, hi'] using hb
         · have := hlt i ops[i] (by simp [hi]) e he hbd
           exact ih e.on this (by omega)
       rw [hr] at this; simp at this
 have hset : ∀ (L : Array Bool) (i : Nat), i < L.size → (fun j => (L.setIfInBounds i true).getD j false) = updL (fun j => L.getD j false) i := by
   intro L i hi
   funext j
   simp only [updL, Array.getD_eq_getD_getElem?, Array.getElem?_setIfInBounds]
   by_cases hj : j = i
   · subst hj; simp [hi]
   · rw [if_neg (fun e => hj e.symm), if_neg hj]
 intro n
 induction n with
 | zero =>
   intro L c a w hs hc hw r
   have hno : ∀ i, i < ops.size → L.getD i false = true := by
     intro i hi
     have hi' : i < L.size := by omega
     have := List.count_eq_zero.1 hc
     cases hb : L[i] with
     | true => simp [Array.getD, hi', hb]
     | false => exact absurd (List.mem_iff_getElem.2 ⟨i, by simpa using hi', by simpa using hb⟩) this
   refine ⟨?_, ⟨c, _, r, hQ _ hno⟩⟩
   cases hr : Region.ready .any ops L with
   | nil => rfl
   | cons i rest =>
     exfalso
     have hi : i ∈ Region.ready .any ops L := by rw [hr]; exact List.mem_cons_self ..
     obtain ⟨h1, o, ho, _⟩ := mem_ready.1 hi
     have hio : i < ops.size := (Array.getElem?_eq_some_iff.1 ho).1
     have := hno i hio
     have hi' : i < L.size := by omega
     simp only [Array.getD, hi', dite_true] at h1 this
     rw [h1] at this; simp at this
 | succ n ih =>
   intro L c a w hs hc hw r
   refine ⟨fun hr => ⟨c, _, r, hQ _ (hall L hs hr)⟩, fun i hi => ?_⟩
   obtain ⟨h1, o, ho, hedge⟩ := mem_ready.1 hi
   have hio : i < ops.size := (Array.getElem?_eq_some_iff.1 ho).1
   have hi' : i < L.size := by omega
   have hLi : L.getD i false = false := by simpa [Array.getD, hi'] using h1
   have hf := hstep i o ho (fun j => L.getD j false) hLi (anc_listed hv hw hi) hw
   have hL2 := hset L i hi'
   rw [← hL2] at hf
   have hcount : (L.setIfInBounds i true).toList.count false = n := by
     have hget : L.toList[i]'(by simpa using hi') = false := by
       have : L[i] = false := by simpa [Array.getD, hi'] using h1
       simpa using this
     rw [Array.toList_setIfInBounds, List.count_set (h := by simpa using hi'), hc, hget]
     simp
   unfold wpOp
   rw [ho]
   simp only []
   have hh := hf (fun e z => match e with | .normal => z = flowS (dstsOf ops) vals cs ow st (fun j => (L.setIfInBounds i true).getD j false) | e => Q e z) rfl w0 im0 c a w h0 hG r
   unfold wpList at hh
   have next : ∀ a' w', Hands w0 im0 (fun z => z = flowS (dstsOf ops) vals cs ow st (fun j => (L.setIfInBounds i true).getD j false)) a' w' → wpAny E.P .any ops (fun e a w => Hands w0 im0 (Q e) a w) n (L.setIfInBounds i true) a' w' := by
     rintro a' w' ⟨c', s, r', rfl⟩
     exact ih _ c' a' w' (by simpa using hs) hcount (hw.add hv hi) r'
   split at hh
   · rename_i hwant
     rw [if_pos hwant]
     rcases hh with hh | ⟨hh1, a', w', hh2⟩
     · refine .inl (oper_wp_mono2 (fun a' w' hz => next a' w' ?_) (fun _ _ _ h => h) (fun ⟨a', w', h⟩ => ⟨a', w', h⟩) hh)
       exact hz
     · exact .inr ⟨hh1, a', w', hh2⟩
   · rename_i hwant
     rw [if_neg hwant]
     exact next _ _ hh
def setAll : List (Option Tmp) → List AV → List AV → List AV
 | some d :: ds, v :: vs, ts => setAll ds vs (ts.set d v)
 | none :: ds, _ :: vs, ts => setAll ds vs ts
 | _, _, ts => ts
theorem lookI_shift : ∀ (ds : List (Option Tmp)) (k t : Nat), lookI ds (k + 1) t = (lookI ds k t).map (· + 1)
 | [], _, _ => rfl
 | d :: r, k, t => by
   unfold lookI
   split
   · rfl
   · exact lookI_shift r (k + 1) t
theorem lookI_mem : ∀ {ds : List (Option Tmp)} {k t : Nat}, some t ∉ ds → lookI ds k t = none
 | [], _, _, _ => rfl
 | d :: r, k, t, h => by
   simp only [List.mem_cons, not_or] at h
   unfold lookI
   rw [if_neg (fun e => h.1 e.symm)]
   exact lookI_mem h.2
theorem setAll_get : ∀ (ds : List (Option Tmp)) (vs ts : List AV) (t : Nat), ds.length = vs.length → (∀ d, some d ∈ ds → ds.count (some d) ≤ 1) → (setAll ds vs ts)[t]? = (ts[t]?).map fun x => flowX ds vs (fun _ => true) t x
 | [], vs, ts, t, hl, hn => by
   cases h : ts[t]? <;> simp [setAll, flowX, lookI, h]
 | d :: ds, [], ts, t, hl, hn => by simp at hl
 | none :: ds, v :: vs, ts, t, hl, hn => by
   have ih := setAll_get ds vs ts t (by simpa using hl) (fun d hd => by have := hn d (List.mem_cons_of_mem _ hd); simpa [List.count_cons] using this)
   show (setAll ds vs ts)[t]? = _
   rw [ih]
   congr 1
   funext x
   have e : lookI (none :: ds) 0 t = (lookI ds 0 t).map (· + 1) := by
     show (if none = some t then _ else lookI ds (0 + 1) t) = _
     rw [if_neg (by simp), lookI_shift]
   unfold flowX
   rw [e]
   cases lookI ds 0 t <;> simp
 | some d :: ds, v :: vs, ts, t, hl, hn => by
   have hnd : some d ∉ ds := by
     have := hn d (List.mem_cons_self ..)
     rw [List.count_cons_self] at this
     exact List.count_eq_zero.1 (by omega)
   have ih := setAll_get ds vs (ts.set d v) t (by simpa using hl) (fun d' hd => by
     have := hn d' (List.mem_cons_of_mem _ hd)
     rw [List.count_cons] at this; omega)
   show (setAll ds vs (ts.set d v))[t]? = _
   rw [ih, List.getElem?_set]
   by_cases htd : d = t
   · subst htd
     have e : lookI (some d :: ds) 0 d = some 0 := by
       show (if some d = some d then _ else _) = _
       rw [if_pos rfl]
     by_cases hd : d < ts.length
     · simp [hd, flowX, e, lookI_mem hnd]
     · simp [hd]
   · have e : lookI (some d :: ds) 0 t = (lookI ds 0 t).map (· + 1) := by
       show (if some d = some t then _ else lookI ds (0 + 1) t) = _
       rw [if_neg (by simpa using htd), lookI_shift]
     rw [if_neg htd]
     congr 1
     funext x
     unfold flowX
     rw [e]
     cases lookI ds 0 t <;> simp
theorem AWP.regionFlow {id : Nat} {Q : Exit → St → Prop} (anc : List (List Nat)) (vals : List AV) (cs : List Nat) (ow : Nat → List (Option (List AV))) (hm : E.P.follows .mixedOrders = true) (hk : flowOK ops anc cs = true) (hvl : (dstsOf ops).length = vals.length)
   (hown : st.own = ow 0) (hrsv : st.rsv = none)
   (hp : ∀ (i : Nat) (o : Oper), ops[i]? = some o → i ∉ cs → ∀ s : St, s.gl = st.gl → (∃ k, s.own = ow k) → s.tk = st.tk → s.rsv = none → (∀ t ∈ Oper.looksAt ops o, s.tmps.getD t .any = if t < st.tmps.length then expF (dstsOf ops) vals anc i st t else .any) → FOp E ops o s (s.put o.dst (vals.getD i .any)))
   (hc : ∀ (k i : Nat) (o : Oper), cs[k]? = some i → ops[i]? = some o → ∀ s : St, s.gl = st.gl → s.own = ow k → s.tk = st.tk → s.rsv = none → s.up = st.up → (∀ p : AV → Bool, st.tmps.all p = true → vals.all p = true → s.tmps.all p = true) → (∀ t ∈ Oper.looksAt ops o, s.tmps.getD t .any = if t < st.tmps.length then expF (dstsOf ops) vals anc i st t else .any) → FOp E ops o s (St.put { s with own := ow (k + 1) } o.dst (vals.getD i .any)))
   (h : Q .normal { st with tmps := setAll (dstsOf ops) vals st.tmps, own := ow cs.length }) : AWP E (.region id ops true) Q st := fun w0 im0 cx a w h0 hG r => by
 have r' : Rel w0 im0 cx st a w.drew := ⟨r.defers, r.size, r.tmps, r.below.drew, r.imle, r.imold, r.imok, r.ownlen, fun i g k es h1 h2 => let h3 := r.own i g k es h1 h2; ⟨h3.new, h3.im, h3.blk⟩, r.tklen, r.tail, fun t T b h1 h2 => let h3 := r.tok t T b h1 h2; ⟨h3.new, h3.room, h3.im, h3.blk⟩, r.apart, r.glob, r.up, r.hole⟩
 simp only [flowOK, Bool.and_eq_true, List.all_eq_true, List.mem_range, decide_eq_true_eq] at hk
 obtain ⟨⟨⟨⟨hv, hops⟩, hchain⟩, hnd⟩, hrange⟩ := hk
 have hop : ∀ (i : Nat) (o : Oper), ops[i]? = some o → ∃ d, o.dst = some d ∧ lookI (dstsOf ops) 0 d = some i ∧ (∀ e ∈ o.after, Region.binds .any e = true → e.on < i) ∧ ∀ t ∈ Oper.looksAt ops o, ∀ j, lookI (dstsOf ops) 0 t = some j → j ∈ anc.getD i [] ∨ i ∈ anc.getD j [] := by
   intro i o ho
   have hi : i < ops.size := (Array.getElem?_eq_some_iff.1 ho).1
   have hh := hops i hi
   rw [ho] at hh
   simp only [Bool.and_eq_true] at hh
   obtain ⟨⟨⟨h1, h2⟩, h3⟩, h4⟩ := hh
   obtain ⟨d, hd⟩ := Option.isSome_iff_exists.1 h1
   rw [hd] at h2
   refine ⟨d, hd, by simpa using h2, fun e he hb => ?_, fun t ht j hj => ?_⟩
   · have := List.all_eq_true.1 h3 e (by simpa using he)
     rw [hb] at this; simpa using this
   · have := List.all_eq_true.1 h4 t ht
     rw [hj] at this; simpa using this
 have hdst : ∀ (t i : Nat), lookI (dstsOf ops) 0 t = some i → ∃ o, ops[i]? = some o ∧ o.dst = some t := by
   intro t i hl
   obtain ⟨j, e1, e2⟩ := lookI_get hl
   have : i = j := by omega
   subst this
   unfold dstsOf at e2
   rw [List.getElem?_map] at e2
   cases ho : ops.toList[i]? with
   | none => rw [ho] at e2; simp at e2
   | some o =>
     rw [ho] at e2
     exact ⟨o, by simpa using ho, by simpa using e2⟩
 have huniq : ∀ (t d i : Nat) (o : Oper), ops[i]? = some o → o.dst = some d → lookI (dstsOf ops) 0 t = some i → t = d := by
   intro t d i o ho hd hl
   obtain ⟨o', ho', hd'⟩ := hdst t i hl
   rw [ho] at ho'
   have : o = o' := Option.some.inj ho'
   subst this
   rw [hd] at hd'
   exact (Option.some.inj hd').symm
 have hzero : flowS (dstsOf ops) vals cs ow st (fun j => (Array.replicate ops.size false).getD j false) = st := by
   have hf : (fun j => (Array.replicate ops.size false).getD j false) = fun _ => false := by
     funext j
     by_cases hj : j < ops.size <;> simp [Array.getD, hj]
   rw [hf]
   unfold flowS
   have e1 : st.tmps.mapIdx (flowX (dstsOf ops) vals fun _ => false) = st.tmps := by
     apply List.ext_getElem?
     intro t
     rw [List.getElem?_mapIdx]
     cases st.tmps[t]? with
     | none => rfl
     | some x =>
       simp only [Option.map_some, Option.some.injEq, flowX]
       cases lookI (dstsOf ops) 0 t <;> simp
   have e2 : cs.countP (fun _ => false) = 0 := by rw [List.countP_eq_zero]; simp
   rw [e1, e2, ← hown]
 refine wp_region_any hm (flow_sound (ops := ops) (anc := anc) (cs := cs) (ow := ow) (vals := vals) (st := st) h0 hG hv (fun i o ho e he hb => (hop i o ho).choose_spec.2.2.1 e he hb) ?_ ?_ ops.size _ cx a _ (by simp) (by simp) (by intro m hm; by_cases hj : m < ops.size <;> simp [Array.getD, hj] at hm) ?_)
 · intro i o ho L hLi hanc hcl
   obtain ⟨d, hd, hlk, _, hlooks⟩ := hop i o ho
   have hread : ∀ t ∈ Oper.looksAt ops o, (flowS (dstsOf ops) vals cs ow st L).tmps.getD t .any = if t < st.tmps.length then expF (dstsOf ops) vals anc i st t else .any := fun t ht => flow_read fun j hj => by
     by_cases hc : j ∈ anc.getD i []
     · rw [hanc j hc]; symm; simpa using hc
     · have h2 := (hlooks t ht j hj).resolve_left hc
       have h3 : L j = false := by
         cases hb : L j with
         | false => rfl
         | true => have := hcl j hb i h2; rw [hLi] at this; simp at this
       rw [h3]; symm; simpa using hc
   have hput := (flow_put (st := st) (vals := vals) (L := L) hlk).resolve_right (fun hn => hn fun t ht => huniq t d i o ho hd ht)
   by_cases hic : i ∈ cs
   · obtain ⟨k, hk⟩ := List.mem_iff_getElem?.1 hic
     have hklt := (List.getElem?_eq_some_iff.1 hk).1
     have hbefore : ∀ j, j < k → L (cs.getD j 0) = true := fun j hj => hanc _ (by
       have := hchain k hklt j hj
       rw [show cs.getD k 0 = i by simp [List.getD_eq_getElem?_getD, hk]] at this
       simpa using this)
     have hbehind : ∀ j, k < j → j < cs.length → L (cs.getD j 0) = false := fun j hj hj2 => by
       cases hb : L (cs.getD j 0) with
       | false => rfl
       | true =>
         have := hcl _ hb i (by
           have := hchain j hj2 k hj
           rw [show cs.getD k 0 = i by simp [List.getD_eq_getElem?_getD, hk]] at this
           simpa using this)
         rw [hLi] at this; simp at this
     have hcnt : ∀ M : Nat → Bool, (∀ j, j < k → M (cs.getD j 0) = true) → (∀ j, k < j → j < cs.length → M (cs.getD j 0) = false) → cs.countP M = k + (if M i then 1 else 0) := by
       intro M h1 h2
       have hsplit : cs = cs.take k ++ i :: cs.drop (k + 1) := by
         have hd := List.drop_eq_getElem_cons hklt
         rw [(List.getElem?_eq_some_iff.1 hk).2] at hd
         rw [← hd, List.take_append_drop]
       rw [hsplit, List.countP_append, List.countP_cons]
       have e1 : (cs.take k).countP M = k := by
         have : (cs.take k).countP M = (cs.take k).length := List.countP_eq_length.2 fun x hx => by
           obtain ⟨j, hj⟩ := List.mem_iff_getElem?.1 hx
           rw [List.getElem?_take] at hj
           split at hj
           · rename_i hjk
             have := h1 j hjk
             rwa [show cs.getD j 0 = x by simp [List.getD_eq_getElem?_getD, hj]] at this
           · simp at hj
         rw [this, List.length_take]; omega
       have e2 : (cs.drop (k + 1)).countP M = 0 := List.countP_eq_zero.2 fun x hx => by
         obtain ⟨j, hj⟩ := List.mem_iff_getElem?.1 hx
         rw [List.getElem?_drop] at hj
         have hj2 : k + 1 + j < cs.length := (List.getElem?_eq_some_iff.1 hj).1
         have := h2 (k + 1 + j) (by omega) hj2
         rw [show cs.getD (k + 1 + j) 0 = x by simp [List.getD_eq_getElem?_getD, hj]] at this
         simp [this]
       rw [e1, e2]; simp
     have c1 : cs.countP L = k := by rw [hcnt L hbefore hbehind, hLi]; simp
     have hne : ∀ j, j ≠ k → j < cs.length → cs.getD j 0 ≠ i := fun j hj hj2 e => hj (by
       have h3 : cs[j]? = cs[k]? := by
         rw [hk, ← e, List.getElem?_eq_getElem hj2]; simp [List.getD_eq_getElem?_getD, List.getElem?_eq_getElem hj2]
       exact ((List.getElem?_inj hj2 hnd).1 h3))
     have c2 : cs.countP (updL L i) = k + 1 := by
       rw [hcnt (updL L i) (fun j hj => by show (if _ then true else _) = true; rw [hbefore j hj]; simp) (fun j hj hj2 => by show (if _ then true else _) = false; rw [if_neg (hne j (by omega) hj2), hbehind j hj hj2])]
       simp [updL]
     have := hc k i o hk ho (flowS (dstsOf ops) vals cs ow st L) rfl (by simp [flowS, c1]) rfl hrsv rfl (fun p h1 h2 => flow_all hvl h1 h2) hread
     rw [hd] at this
     have e : St.put { flowS (dstsOf ops) vals cs ow st L with own := ow (k + 1) } (some d) (vals.getD i .any) = flowS (dstsOf ops) vals cs ow st (updL L i) := by
       simp only [St.put, flowS]
       rw [hput, c2]
     rw [← e]
     exact this
   · have := hp i o ho hic (flowS (dstsOf ops) vals cs ow st L) rfl ⟨_, rfl⟩ rfl hrsv hread
     rw [hd] at this
     have e : St.put (flowS (dstsOf ops) vals cs ow st L) (some d) (vals.getD i .any) = flowS (dstsOf ops) vals cs ow st (updL L i) := by
       simp only [St.put, flowS]
       rw [hput, count_upd hic]
     rw [← e]
     exact this
 · intro L hL
   have e : flowS (dstsOf ops) vals cs ow st L = { st with tmps := setAll (dstsOf ops) vals st.tmps, own := ow cs.length } := by
     unfold flowS
     have e1 : st.tmps.mapIdx (flowX (dstsOf ops) vals L) = setAll (dstsOf ops) vals st.tmps := by
       apply List.ext_getElem?
       intro t
       rw [setAll_get _ _ _ _ hvl, List.getElem?_mapIdx]
       · congr 1
         funext x
         unfold flowX
         cases hl : lookI (dstsOf ops) 0 t with
         | none => rfl
         | some i =>
           obtain ⟨o, ho, _⟩ := hdst t i hl
           simp [hL i (Array.getElem?_eq_some_iff.1 ho).1]
       · intro d hd
         rcases Nat.lt_or_ge 1 ((dstsOf ops).count (some d)) with hcc | hcc
         · exfalso
           have hidx : ∀ i o, ops[i]? = some o → o.dst = some d → lookI (dstsOf ops) 0 d = some i := fun i o ho hd' => by
             obtain ⟨d2, e2, e3, _⟩ := hop i o ho
             rw [hd'] at e2
             rw [Option.some.inj e2]; exact e3
           have hdup : ∃ i j : Nat, i < j ∧ (dstsOf ops)[i]? = some (some d) ∧ (dstsOf ops)[j]? = some (some d) := by
             have key : ∀ l : List (Option Tmp), 1 < l.count (some d) → ∃ i j : Nat, i < j ∧ l[i]? = some (some d) ∧ l[j]? = some (some d) := by
               intro l
               induction l with
               | nil => intro h; simp at h
               | cons y l ih =>
                 intro h
                 rw [List.count_cons] at h
                 by_cases hy : y = some d
                 · subst hy
                   simp only [beq_self_eq_true, if_true] at h
                   have hm : some d ∈ l := List.count_pos_iff.1 (by omega)
                   obtain ⟨j, hj⟩ := List.mem_iff_getElem?.1 hm
                   exact ⟨0, j + 1, by omega, rfl, by simpa using hj⟩
                 · have : l.count (some d) > 1 := by
                     have hb : (y == some d) = false := by simpa using hy
                     rw [hb] at h; simpa using h
                   obtain ⟨i, j, hij, h1, h2⟩ := ih this
                   exact ⟨i + 1, j + 1, by omega, by simpa using h1, by simpa using h2⟩
             exact key _ hcc
           obtain ⟨i, j, hij, h1, h2⟩ := hdup
           have get : ∀ k : Nat, (dstsOf ops)[k]? = some (some d) → lookI (dstsOf ops) 0 d = some k := fun k hk => by
             unfold dstsOf at hk
             rw [List.getElem?_map] at hk
             cases ho : ops.toList[k]? with
             | none => rw [ho] at hk; simp at hk
             | some o =>
               rw [ho] at hk
               exact hidx k o (by simpa using ho) (by simpa using hk)
           have e1 := get i h1
           have e2 := get j h2
           rw [e1] at e2
           have := Option.some.inj e2
           omega
         · exact hcc
     have e2 : cs.countP L = cs.length := List.countP_eq_length.2 fun x hx => by
       obtain ⟨k, hk⟩ := List.mem_iff_getElem?.1 hx
       exact hL x (hrange x hx)
     rw [e1, e2]
   rw [e]; exact h
 · rw [hzero]; exact r'
end
section
variable {E : Env} {Q : Exit → St → Prop} {st : St} {ops : Array Oper} {l : List Oper}
end
end Go.Abs
end
section
namespace Go.Abs
open Go Go.RowKit
theorem AV.bel1_mono {no nt no' nt' : Nat} (h1 : no ≤ no') (h2 : nt ≤ nt') {x : AV} (h : x.bel1 no nt = true) : x.bel1 no' nt' = true := by
 cases x with
 | sl t k es => cases t with
   | none => rfl
   | some t => simp only [AV.bel1, decide_eq_true_eq] at *; omega
 | mu => simp only [AV.bel1, decide_eq_true_eq] at *; omega
 | ptr => simp only [AV.bel1, decide_eq_true_eq] at *; omega
 | fn f cs => cases cs <;> simp_all [AV.bel1]
 | _ => simp_all [AV.bel1]
theorem AV.bel2_mono {no nt no' nt' : Nat} (h1 : no ≤ no') (h2 : nt ≤ nt') {x : AV} (h : x.bel2 no nt = true) : x.bel2 no' nt' = true := by
 cases x with
 | agg cs => simp only [AV.bel2, List.all_eq_true] at *; exact fun y hy => AV.bel1_mono h1 h2 (h y hy)
 | fn f cs => simp only [AV.bel2, List.all_eq_true] at *; exact fun y hy => AV.bel1_mono h1 h2 (h y hy)
 | _ => simp only [AV.bel2] at *; first | exact AV.bel1_mono h1 h2 h | rfl
theorem AV.bel_mono {no nt no' nt' : Nat} (h1 : no ≤ no') (h2 : nt ≤ nt') {x : AV} (h : x.bel no nt = true) : x.bel no' nt' = true := by
 cases x with
 | tup cs => simp only [AV.bel, List.all_eq_true] at *; exact fun y hy => AV.bel2_mono h1 h2 (h y hy)
 | _ => simp only [AV.bel] at *; exact AV.bel2_mono h1 h2 h
def OwnBel (own : List (Option (List AV))) (no nt : Nat) : Prop := ∀ es, some es ∈ own → ∀ e ∈ es, ∀ z ∈ e.leaves, z.bel no nt = true
theorem OwnBel.mono {own : List (Option (List AV))} {no nt no' nt' : Nat} (h : OwnBel own no nt) (h1 : no ≤ no') (h2 : nt ≤ nt') : OwnBel own no' nt' := fun es hes e he z hz => AV.bel_mono h1 h2 (h es hes e he z hz)
theorem OwnBel.app {own l : List (Option (List AV))} {no nt : Nat} (h : OwnBel own no nt) (h2 : OwnBel l no nt) : OwnBel (own ++ l) no nt := fun es hes => (List.mem_append.1 hes).elim (h es) (h2 es)
theorem OwnBel.set {own : List (Option (List AV))} {no nt id : Nat} {x : List AV} (h : OwnBel own no nt) (h2 : ∀ e ∈ x, ∀ z ∈ e.leaves, z.bel no nt = true) : OwnBel (own.set id (some x)) no nt := fun es hes => by
 rcases List.mem_or_eq_of_mem_set hes with hes | hes
 · exact h es hes
 · simp only [Option.some.injEq] at hes; subst hes; exact h2
theorem OwnBel.nil {no nt : Nat} : OwnBel [] no nt := fun es hes => by simp at hes
theorem OwnBel.cons {own : List (Option (List AV))} {no nt : Nat} {x : Option (List AV)} (h : ∀ es, x = some es → ∀ e ∈ es, ∀ z ∈ e.leaves, z.bel no nt = true) (h2 : OwnBel own no nt) : OwnBel (x :: own) no nt := fun es hes => by
 rcases List.mem_cons.1 hes with hes | hes
 · exact h es hes.symm
 · exact h2 es hes
theorem wkO_app : ∀ {a b : List (Option (List AV))} {no nt : Nat}, OwnBel a no nt → WkO no nt (a ++ b) a
 | [], b, _, _, _ => by cases b <;> trivial
 | x :: xs, b, _, _, hh => ⟨.inr ⟨rfl, fun es e => hh es (by rw [e]; exact List.mem_cons_self ..)⟩, wkO_app fun es hes => hh es (List.mem_cons_of_mem _ hes)⟩
section
variable {α : Type} {own : List α} {a b c x : α}
end
end Go.Abs
end
section
namespace Go.Abs
open Go Go.RowKit
theorem AWPL.appMuG {E : Env} {Q : Exit → St → Prop} {st : St} {ops : Array Oper} {l : List Oper} {dst : Option Tmp} {t tx ty : TypeId} {x y : Operand} {pos : String} {after : Array Edge} {e : TypeId} {k n id m0 : Nat} {es xs : List AV}
   (hx : srcTy E.P tx = true) (hai : appInfo E.P t = some (e, k, n)) (hs : st.ev x = .mu id k 0 es.length (es.length + m0)) (hsrc : ASrc (st.ev y) k = some xs) (ho : st.own[id]? = some (some (es ++ spare k m0))) (h62 : es.length + xs.length ≤ 4611686018427387904) (hbt : (es.length + xs.length) * n ≤ 140737488355328)
   (h : ∀ m, AWPL E ops l Q (St.put { st with own := st.own.set id none ++ [some (es ++ xs ++ spare k m)] } dst (.mu st.own.length k 0 (es.length + xs.length) (es.length + xs.length + m)))) : AWPL E ops (⟨dst, .call ⟨.builtin .append, #[x, y], #[t, tx]⟩, ty, pos, after, none⟩ :: l) Q st := by
 intro w0 im0 cx a w h0 hG r
 refine wpList_step (fun K' hK' => ?_)
 have hw : Region.wanted ⟨dst, .call ⟨.builtin .append, #[x, y], #[t, tx]⟩, ty, pos, after, none⟩ (yielded ops a.tmps) = true := rfl
 rw [if_pos hw]
 have hv := r.ev x
 rw [hs] at hv
 have fin : ∀ (v' : Value) (w' : World) (c' : Ctx) (m : Nat), (Builtin.append_ #[t, tx] ty #[a.eval x, a.eval y]).run E.P w = .ok v' w' → Rel w0 im0 c' { st with own := st.own.set id none ++ [some (es ++ xs ++ spare k m)] } a w' → VR c' (.mu st.own.length k 0 (es.length + xs.length) (es.length + xs.length + m)) v' →
     Oper.wp E.P ⟨dst, .call ⟨.builtin .append, #[x, y], #[t, tx]⟩, ty, pos, after, none⟩ a w K' (fun e a' w' => Hands w0 im0 (Q e) a' w') := fun v' w' c' m h1 h2 h3 => by
   refine wp_value (w' := w') (v := v') ?_ (hK' _ _ (h m w0 im0 _ _ _ h0 hG (h2.put dst h3)))
   simp only [execOp, resolve, Sem.run_bind, Sem.run_pure, Result.andThen_ok, invoke, builtin, List.map_toArray, List.map_cons, List.map_nil, h1]
 by_cases hne : xs = []
 · subst hne
   obtain ⟨hu, hss, hk0, i, zv, hi, hz, hsize, hbytes, hzs⟩ := appInfo_ok hai
   obtain ⟨news, hnl, hnc, hlen, hone, hfirst⟩ := src_ok (P := E.P) r (r.ev y) hk0 hsrc
   have hnews : news = [] := List.eq_nil_of_length_eq_zero (by simpa using hnl)
   subst hnews
   have hrun : ∀ base (N C : Nat), N ≤ C → a.eval x = .slice base N C → (Builtin.append_ #[t, tx] ty #[a.eval x, a.eval y]).run E.P w = .ok (a.eval x) w := fun base N C hNC hb => by
     rw [hb]
     have := run_append_place (P := E.P) (w := w) (ty := ty) (base := base) (n := N) (cap := C) hu hss hx (hlen w) (hfirst w (fun _ _ => rfl)) (by simpa using hNC)
     rw [this]
     cases base <;> simp [storeCells]
   rcases hv.inv_mu with ⟨g, hb, hcap, he⟩ | ⟨hz1, hz2, he⟩
   · obtain ⟨hle, r2⟩ := r.moveOwn hb ho
     refine fin _ w _ m0 (hrun _ _ _ (by omega) he) (by simpa using r2) ?_
     rw [he]
     exact .mu (by show (cx.β ++ [_])[_]? = _; rw [← r.ownlen]; simp) (by simp)
   · have hes : es = [] := List.eq_nil_of_length_eq_zero hz1
     have hm0 : m0 = 0 := by omega
     subst hes; subst hm0
     obtain ⟨hle, r2⟩ := (r.dropOwn id).addNil
     exact fin _ w _ 0 (hrun _ _ _ (Nat.le_refl _) he) (by simpa [spare] using r2) (by rw [he]; exact .muN)
 · obtain ⟨v', w', c', m, hr, hR, hV⟩ := append_mu (P := E.P) (ty := ty) r hx hai (r.ev y) hsrc hne (es := es) (sp := spare k m0) (by rw [spare_len]; exact hv) ho h62 hbt
   exact fin v' w' c' m hr (by simpa using hR) (by simpa using hV)
end Go.Abs
end
