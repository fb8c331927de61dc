/- Texts of one chain, put together (Lv, Lr, Lt, G12, G13, Lw, Ls, G14, G15). -/
import Derived.Test.YtajeeghgiilhiaaGreatKsL
import Derived.Test.YtajeeghgiilhiaaGreatKsK
section
/- Parts of an own row: sliced in the midst, appended to its own beginning. -/
set_option linter.unusedVariables false
set_option linter.unusedSimpArgs false
namespace Go.Abs
open Go Go.RowKit
theorem OCells.drop {c : Ctx} {k : Nat} {es : List AV} {cs : List Value} (h : OCells c k es cs) (d : Nat) : OCells c k (es.drop d) (cs.drop (d * k)) := by
  refine ⟨fun i e he => h.1 (d + i) e (by rwa [List.getElem?_drop] at he), fun i e j x he hx => ?_⟩
  rw [List.getElem?_drop] at he
  obtain ⟨v, h1, h2⟩ := h.2 (d + i) e j x he hx
  refine ⟨v, ?_, h2⟩
  rw [List.getElem?_drop, ← h1]
  congr 1
  rw [Nat.add_mul]; omega
theorem OCells.takeN {c : Ctx} {k : Nat} {es : List AV} {cs : List Value} (h : OCells c k es cs) (d : Nat) (hd : d ≤ es.length) : OCells c k (es.take d) (cs.take (d * k)) := by
  have h2 : OCells c k (es.take d ++ es.drop d) cs := by rw [List.take_append_drop]; exact h
  have := h2.take
  rwa [List.length_take, Nat.min_eq_left hd] at this
section
variable {P : Program} {w0 : World} {im0 : Base} {c : Ctx} {st : St} {a : Act} {w : World}
theorem append_self (r : Rel w0 im0 c st a w) {t tx ty e : TypeId} {k n' : Nat} (hx : srcTy P tx = true) (hai : appInfo P t = some (e, k, n')) {id i j o cy : Nat} {es : List AV} {v xv : Value}
    (hv : VR c (.mu id k 0 i es.length) v) (hxv : VR c (.mu id k o j cy) xv) (ho : st.own[id]? = some (some es)) (hpos : 0 < es.length) (hij : i + j ≤ es.length) (hoj : o + j ≤ es.length) (hna : ∀ e ∈ (es.drop o).take j, ∀ x ∈ e.leaves, x ≠ .any) :
    ∃ v' w', (Builtin.append_ #[t, tx] ty #[v, xv]).run P w = .ok v' w' ∧ Rel w0 im0 c { st with own := st.own.set id (some (es.take i ++ ((es.drop o).take j ++ es.drop (i + j)))) } a w' ∧ VR c (.mu id k 0 (i + j) es.length) v' := by
  obtain ⟨hu, hs, hk0, ii, zv, hi, hz, hsize, hbytes, hzs⟩ := appInfo_ok hai
  rcases hv.inv_mu with ⟨g, hb, hcap, hve⟩ | ⟨_, hz2, _⟩
  rotate_left
  · omega
  have hown := r.own id g k _ hb ho
  obtain ⟨cs, ty', lo, hi', hblk, hfr, hsz, hlv, hcell⟩ := hown.blk
  rw [Nat.zero_mul] at hve
  have hoc : OCells c k es cs.toList := ⟨hlv, fun i e j x he hx => by obtain ⟨u, h1, h2⟩ := hcell i e j x he hx; exact ⟨u, by simpa using h1, h2⟩⟩
  have hq : cs.toList.length = cs.size := Array.length_toList
  have hmul : (o + j) * k ≤ es.length * k := Nat.mul_le_mul_right _ hoj
  have hmul2 : (i + j) * k ≤ es.length * k := Nat.mul_le_mul_right _ hij
  rw [Nat.add_mul] at hmul hmul2
  obtain ⟨news, hnews⟩ : ∃ news, news = (cs.toList.drop (o * k)).take (j * k) := ⟨_, rfl⟩
  have hnl : news.length = j * k := by rw [hnews, List.length_take, List.length_drop, hq]; omega
  have hone : ∀ u ∈ news, u.oneCell' = true := by
    intro u hu'
    obtain ⟨q, hq'⟩ := List.mem_iff_getElem?.1 hu'
    rw [hnews, List.getElem?_take] at hq'
    split at hq'
    · rename_i hqlt
      rw [List.getElem?_drop] at hq'
      have hdm := Nat.div_add_mod q k
      have hmod := Nat.mod_lt q hk0
      have hdiv : q / k < j := Nat.div_lt_of_lt_mul (by rw [Nat.mul_comm]; exact hqlt)
      have hel : es[o + q / k]? = some (es[o + q / k]'(by omega)) := List.getElem?_eq_getElem (by omega)
      have hlen := hlv _ _ hel
      have hlf : (es[o + q / k]'(by omega)).leaves[q % k]? = some ((es[o + q / k]'(by omega)).leaves[q % k]'(by omega)) := List.getElem?_eq_getElem (by omega)
      obtain ⟨v2, e1, e2, e3⟩ := hcell _ _ _ _ hel hlf
      have hidx : (o + q / k) * k + q % k = o * k + q := by
        rw [Nat.add_mul, Nat.mul_comm (q / k) k]; omega
      rw [hidx] at e1
      have : u = v2 := by
        have h1 : cs.toList[o * k + q]? = some v2 := by simpa using e1
        rw [h1] at hq'; exact (Option.some.inj hq').symm
      subst this
      refine e3.resolve_left (hna _ ?_ _ (List.mem_of_getElem? hlf))
      refine List.mem_iff_getElem?.2 ⟨q / k, ?_⟩
      rw [List.getElem?_take, if_pos hdiv, List.getElem?_drop]; exact hel
    · simp at hq'
  have hlen : (Builtin.lenOf xv).run P w = .ok j w ∧ (Builtin.firstCells k j xv).run P w = .ok news.toArray w := by
    rcases hxv.inv_mu with ⟨g2, hb2, hcap2, hxe⟩ | ⟨hj0, _, hxe⟩
    · have hg : g2 = g := by rw [hb] at hb2; simp only [Option.some.injEq, Prod.mk.injEq] at hb2; exact hb2.1.symm
      subst hg
      rw [hxe]
      refine ⟨by simp [Builtin.lenOf], ?_⟩
      exact run_firstCells_some w k j ⟨g2, o * k, none⟩ j _ _ hnl (fun p u hp => by
        rw [add_none]
        rw [hnews, List.getElem?_take] at hp
        split at hp
        · rw [List.getElem?_drop] at hp
          simp only [World.cell?, hblk, Option.isSome_none, Bool.false_eq_true, if_false]; simpa using hp
        · simp at hp)
    · subst hj0
      rw [hxe]
      have : news = [] := List.eq_nil_of_length_eq_zero (by rw [hnl]; simp)
      rw [this]
      exact ⟨by simp [Builtin.lenOf], run_firstCells_none w k 0 0 0⟩
  have hfro : ∀ o, o < cs.toList.length → ¬ (lo ≤ o ∧ o < hi') := fun o h1 h2 => by
    have h1 : o < cs.size := by simpa using h1
    rcases hfr with h | h <;> omega
  have hcs : cs = cs.toList.toArray := by simp
  have hfit2 : i * k + 0 + news.length ≤ cs.toList.length := by rw [hnl, hq]; omega
  have hst := run_storePut (P := P) g (i * k) ty' lo hi' news 0 cs.toList w (by rw [← hcs]; exact hblk) hfro hfit2 hone
  rw [Nat.add_zero] at hst
  have hrun := run_append_place (P := P) (w := w) (ty := ty) (base := some ⟨g, 0, none⟩) (n := i) (cap := es.length) hu hs hx hlen.1 hlen.2 hij
  simp only [add_none, Nat.zero_add, hst, Result.andThen_ok] at hrun
  have hcs'len : (putV cs.toList (i * k) news).length = cs.size := by rw [putV_length]; simp
  have hOC : OCells c k (es.take i ++ ((es.drop o).take j ++ es.drop (i + j))) (putV cs.toList (i * k) news) := by
    have e1 : putV cs.toList (i * k) news = cs.toList.take (i * k) ++ (news ++ cs.toList.drop ((i + j) * k)) := by
      apply List.ext_getElem?
      intro p
      have htl : (cs.toList.take (i * k)).length = i * k := by rw [List.length_take, hq]; omega
      rw [putV_get _ _ _ _ (by simpa using hfit2)]
      by_cases hp : p < i * k
      · rw [if_neg (by omega), List.getElem?_append_left (by rw [htl]; exact hp), List.getElem?_take, if_pos hp]
      · rw [List.getElem?_append_right (by rw [htl]; omega), htl]
        by_cases hp2 : p < i * k + news.length
        · rw [if_pos ⟨by omega, hp2⟩, List.getElem?_append_left (by omega)]
        · rw [if_neg (by omega), List.getElem?_append_right (by omega), List.getElem?_drop, hnl, Nat.add_mul]
          congr 1; rw [hnl] at hp2; omega
    rw [e1]
    refine (hoc.takeN i (by omega)).append (by rw [List.length_take, List.length_take, hq, Nat.min_eq_left (show i ≤ es.length by omega)]; omega) ?_
    rw [hnews]
    refine ((hoc.drop o).takeN j (by rw [List.length_drop]; omega)).append (by rw [← hnews, hnl, List.length_take, List.length_drop, Nat.min_eq_left (by omega)]) (hoc.drop (i + j))
  have hnewlen : (es.take i ++ ((es.drop o).take j ++ es.drop (i + j))).length = es.length := by simp only [List.length_append, List.length_take, List.length_drop]; omega
  have hset := r.setOwn (w' := w.setRow g (putV cs.toList (i * k) news).toArray) (es' := es.take i ++ ((es.drop o).take j ++ es.drop (i + j))) hb ho (fun b hne => setRow_other w g b _ hne) (below_setRow r.below hown.new _)
    ⟨(putV cs.toList (i * k) news).toArray, ty', lo, hi', setRow_heap w g cs _ ty' (lo, hi') hblk, by
      rcases hfr with h | h
      · exact .inl h
      · exact .inr (by simpa [putV_length] using h), by
      rw [hnewlen]; simp only [List.size_toArray, hcs'len]; exact hsz, hOC.1, fun i e j x he hx => by
      obtain ⟨u, h1, h2⟩ := hOC.2 i e j x he hx
      exact ⟨u, by simpa using h1, h2⟩⟩
  refine ⟨_, _, by rw [hve]; exact hrun, hset, ?_⟩
  have := VR.mu (c := c) (id := id) (off := 0) (len := i + j) (g := g) (k := k) (cap := es.length) hb hij
  rw [Nat.zero_mul] at this
  exact this
end
section
variable {E : Env} {Q : Exit → St → Prop} {st : St} {ops : Array Oper} {l : List Oper}
theorem AWPL.appSelf {dst : Option Tmp} {t tx ty : TypeId} {x y : Operand} {pos : String} {after : Array Edge} {e : TypeId} {k n' id i j o cy : Nat} {es : List AV}
    (hx : srcTy E.P tx = true) (hai : appInfo E.P t = some (e, k, n')) (hs : st.ev x = .mu id k 0 i es.length) (hsy : st.ev y = .mu id k o j cy) (ho : st.own[id]? = some (some es)) (hpos : 0 < es.length) (hij : i + j ≤ es.length) (hoj : o + j ≤ es.length) (hna : ∀ e ∈ (es.drop o).take j, ∀ x ∈ e.leaves, x ≠ .any)
    (h : AWPL E ops l Q (St.put { st with own := st.own.set id (some (es.take i ++ ((es.drop o).take j ++ es.drop (i + j)))) } dst (.mu id k 0 (i + j) es.length))) : AWPL E ops (⟨dst, .call ⟨.builtin .append, #[x, y], #[t, tx]⟩, ty, pos, after, none⟩ :: l) Q st := by
  intro w0 im0 cx a w h0 hG r
  refine wpList_step (fun K' hK' => ?_)
  have hw : Region.wanted ⟨dst, .call ⟨.builtin .append, #[x, y], #[t, tx]⟩, ty, pos, after, none⟩ (yielded ops a.tmps) = true := rfl
  rw [if_pos hw]
  have hv := r.ev x
  have hvy := r.ev y
  rw [hs] at hv; rw [hsy] at hvy
  obtain ⟨v', w', h1, h2, h3⟩ := append_self (P := E.P) (ty := ty) r hx hai hv hvy ho hpos hij hoj hna
  refine wp_value (w' := w') (v := v') ?_ (hK' _ _ (h w0 im0 _ _ _ h0 hG (h2.put dst h3)))
  simp only [execOp, resolve, Sem.run_bind, Sem.run_pure, Result.andThen_ok, invoke, builtin, List.map_toArray, List.map_cons, List.map_nil, h1]
theorem bounds3_run {P : Program} {w : World} {len cap l h m : Nat} (h1 : l ≤ h) (h2 : h ≤ m) (h3 : m ≤ cap) : (Instr.sliceBounds true len cap (some (.int .i64 (l : Int))) (some (.int .i64 (h : Int))) (some (.int .i64 (m : Int)))).run P w = .ok (l, h, m) w := by
  have e1 : ∀ code, (Instr.sliceBound (.int .i64 (m : Int)) cap code).run P w = .ok m w := fun code => (bound_run (by omega) (by omega)).trans (by simp)
  have e2 : ∀ code, (Instr.sliceBound (.int .i64 (h : Int)) m code).run P w = .ok h w := fun code => (bound_run (by omega) (by omega)).trans (by simp)
  have e3 : ∀ code, (Instr.sliceBound (.int .i64 (l : Int)) h code).run P w = .ok l w := fun code => (bound_run (by omega) (by omega)).trans (by simp)
  simp [Instr.sliceBounds, Sem.run_bind, e1, e2, e3]
theorem bounds2_run {P : Program} {w : World} {len cap l h : Nat} (h1 : l ≤ h) (h2 : h ≤ cap) : (Instr.sliceBounds true len cap (some (.int .i64 (l : Int))) (some (.int .i64 (h : Int))) none).run P w = .ok (l, h, cap) w := by
  have e2 : ∀ code, (Instr.sliceBound (.int .i64 (h : Int)) cap code).run P w = .ok h w := fun code => (bound_run (by omega) (by omega)).trans (by simp)
  have e3 : ∀ code, (Instr.sliceBound (.int .i64 (l : Int)) h code).run P w = .ok l w := fun code => (bound_run (by omega) (by omega)).trans (by simp)
  simp [Instr.sliceBounds, Sem.run_bind, e2, e3]
theorem bounds1_run {P : Program} {w : World} {len cap l : Nat} (h1 : l ≤ len) : (Instr.sliceBounds true len cap (some (.int .i64 (l : Int))) none none).run P w = .ok (l, len, cap) w := by
  have e3 : ∀ code, (Instr.sliceBound (.int .i64 (l : Int)) len code).run P w = .ok l w := fun code => (bound_run (by omega) (by omega)).trans (by simp)
  simp [Instr.sliceBounds, Sem.run_bind, e3]
/-- s[l:h:m] of an own row, of which nothing is told. -/
theorem AWPL.slice3Mu {dst : Option Tmp} {t ty : TypeId} {x lo hi mx : Operand} {pos : String} {after : Array Edge} {e : TypeId} {k id off len cap l' h' m' : Nat}
    (hu : E.P.underlying t = some (.slice e)) (hsz : tsz E.P e = some k) (hs : st.ev x = .mu id k off len cap) (hl : st.ev lo = i64 (l' : Int)) (hh : st.ev hi = i64 (h' : Int)) (hm : st.ev mx = i64 (m' : Int)) (h1 : l' ≤ h') (h2 : h' ≤ m') (h3 : m' ≤ cap)
    (h : AWPL E ops l Q (st.put dst .any)) : AWPL E ops (⟨dst, .slice t x (some lo) (some hi) (some mx), ty, pos, after, none⟩ :: l) Q st := by
  intro w0 im0 cx a w h0' hG r
  refine wpList_step (fun K' hK' => ?_)
  have hw : Region.wanted ⟨dst, .slice t x (some lo) (some hi) (some mx), ty, pos, after, none⟩ (yielded ops a.tmps) = true := rfl
  rw [if_pos hw]
  have hv := r.ev x
  rw [hs] at hv
  have e1 : a.eval lo = .int .i64 (l' : Int) := by have := r.ev lo; rw [hl] at this; exact this.inv_v
  have e2 : a.eval hi = .int .i64 (h' : Int) := by have := r.ev hi; rw [hh] at this; exact this.inv_v
  have e3 : a.eval mx = .int .i64 (m' : Int) := by have := r.ev mx; rw [hm] at this; exact this.inv_v
  have hval : ∃ u, (Instr.sliceAt t (a.eval x) (some (a.eval lo)) (some (a.eval hi)) (some (a.eval mx))).run E.P w = .ok u w := by
    rw [e1, e2, e3]
    have key : ∀ (b : Option Addr) (len cap : Nat), m' ≤ cap → (Instr.sliceAt t (.slice b len cap) (some (.int .i64 (l' : Int))) (some (.int .i64 (h' : Int))) (some (.int .i64 (m' : Int)))).run E.P w = .ok (.slice (if m' = l' then b else b.map (·.add (l' * k))) (h' - l') (m' - l')) w := by
      intro b len cap hm3
      simp only [Instr.sliceAt, Sem.run_bind, underlying_run hu, Result.andThen_ok, Instr.slice, bounds3_run (P := E.P) (w := w) h1 h2 hm3, tsz_run hsz, Sem.run_pure]
    rcases hv.inv_mu with ⟨g, hb, hcap, hve⟩ | ⟨hz, hz2, hve⟩
    · rw [hve]; exact ⟨_, key _ _ _ h3⟩
    · rw [hve]; exact ⟨_, key _ _ _ (by omega)⟩
  obtain ⟨u, hrun⟩ := hval
  refine wp_value (w' := w) (v := u) ?_ (hK' _ _ (h w0 im0 _ _ _ h0' hG (r.put dst (.base (.any _)))))
  simp only [execOp, Option.map_some, Sem.run_bind, hrun, Result.andThen_ok, Sem.run_pure]
/-- s[l:h] of an own row, where some room is left behind l. -/
theorem AWPL.slice2Mu {dst : Option Tmp} {t ty : TypeId} {x lo hi : Operand} {pos : String} {after : Array Edge} {e : TypeId} {k id off len cap l' h' : Nat}
    (hu : E.P.underlying t = some (.slice e)) (hsz : tsz E.P e = some k) (hs : st.ev x = .mu id k off len cap) (hl : st.ev lo = i64 (l' : Int)) (hh : st.ev hi = i64 (h' : Int)) (h1 : l' ≤ h') (h2 : h' ≤ cap) (h3 : l' < cap)
    (h : AWPL E ops l Q (st.put dst (.mu id k (off + l') (h' - l') (cap - l')))) : AWPL E ops (⟨dst, .slice t x (some lo) (some hi) none, ty, pos, after, none⟩ :: l) Q st := by
  intro w0 im0 cx a w h0' hG r
  refine wpList_step (fun K' hK' => ?_)
  have hw : Region.wanted ⟨dst, .slice t x (some lo) (some hi) none, ty, pos, after, none⟩ (yielded ops a.tmps) = true := rfl
  rw [if_pos hw]
  have hv := r.ev x
  rw [hs] at hv
  have e1 : a.eval lo = .int .i64 (l' : Int) := by have := r.ev lo; rw [hl] at this; exact this.inv_v
  have e2 : a.eval hi = .int .i64 (h' : Int) := by have := r.ev hi; rw [hh] at this; exact this.inv_v
  rcases hv.inv_mu with ⟨g, hb, hcap, hve⟩ | ⟨hz, hz2, _⟩
  rotate_left
  · omega
  have hrun : (Instr.sliceAt t (a.eval x) (some (a.eval lo)) (some (a.eval hi)) none).run E.P w = .ok (.slice (some ⟨g, (off + l') * k, none⟩) (h' - l') (cap - l')) w := by
    rw [e1, e2, hve]
    simp only [Instr.sliceAt, Sem.run_bind, underlying_run hu, Result.andThen_ok, Instr.slice, bounds2_run (P := E.P) (w := w) h1 h2, tsz_run hsz, Sem.run_pure]
    have hne : ¬ cap = l' := by omega
    simp [hne, Addr.add, Nat.add_mul]
  refine wp_value (w' := w) (v := .slice (some ⟨g, (off + l') * k, none⟩) (h' - l') (cap - l')) ?_ (hK' _ _ (h w0 im0 _ _ _ h0' hG (r.put dst (.mu hb (by omega)))))
  simp only [execOp, Option.map_some, Option.map_none, Sem.run_bind, hrun, Result.andThen_ok, Sem.run_pure]
/-- s[l:] of an own row, at its very end. -/
theorem AWPL.sliceMuEnd {dst : Option Tmp} {t ty : TypeId} {x lo : Operand} {pos : String} {after : Array Edge} {e : TypeId} {k id off cap : Nat}
    (hu : E.P.underlying t = some (.slice e)) (hsz : tsz E.P e = some k) (hs : st.ev x = .mu id k off cap cap) (hl : st.ev lo = i64 (cap : Int)) (hc : 0 < cap)
    (h : AWPL E ops l Q (st.put dst (.mu id k off 0 0))) : AWPL E ops (⟨dst, .slice t x (some lo) none none, ty, pos, after, none⟩ :: l) Q st := by
  intro w0 im0 cx a w h0' hG r
  refine wpList_step (fun K' hK' => ?_)
  have hw : Region.wanted ⟨dst, .slice t x (some lo) none none, ty, pos, after, none⟩ (yielded ops a.tmps) = true := rfl
  rw [if_pos hw]
  have hv := r.ev x
  rw [hs] at hv
  have e1 : a.eval lo = .int .i64 (cap : Int) := by have := r.ev lo; rw [hl] at this; exact this.inv_v
  rcases hv.inv_mu with ⟨g, hb, hcap, hve⟩ | ⟨hz, hz2, _⟩
  rotate_left
  · omega
  have hrun : (Instr.sliceAt t (a.eval x) (some (a.eval lo)) none none).run E.P w = .ok (.slice (some ⟨g, off * k, none⟩) 0 0) w := by
    rw [e1, hve]
    simp only [Instr.sliceAt, Sem.run_bind, underlying_run hu, Result.andThen_ok, Instr.slice, bounds1_run (P := E.P) (w := w) (Nat.le_refl _), tsz_run hsz, Sem.run_pure]
    simp
  refine wp_value (w' := w) (v := .slice (some ⟨g, off * k, none⟩) 0 0) ?_ (hK' _ _ (h w0 im0 _ _ _ h0' hG (r.put dst (.mu hb (Nat.le_refl _)))))
  simp only [execOp, Option.map_some, Option.map_none, Sem.run_bind, hrun, Result.andThen_ok, Sem.run_pure]
end
end Go.Abs
end
section
/- A region that draws its order: what each operation yields is told once, for all orders; calls by reference may stand in it. -/
set_option linter.unusedVariables false
set_option linter.unusedSimpArgs false
namespace Go.Abs
open Go Go.RowKit

theorem oper_wp_mono2 {P : Program} {o : Oper} {a : Act} {w : World} {K K' : Act → World → Prop} {Q Q' : Exit → Act → World → Prop} (h : ∀ a w, K a w → K' a w) (hp : ∀ c a w, Q (.panic c) a w → Q' (.panic c) a w) (hl : LetsOut Q → LetsOut Q')
    (hh : o.wp P a w K Q) : o.wp P a w K' Q' := by
  unfold Oper.wp at *
  generalize (execOp a.eval o).run P w = r at *
  cases r with
  | ok n w' =>
    cases n <;> simp only [Oper.upon] at hh ⊢ <;>
      first
        | exact h _ _ hh
        | exact Calls.mono hh (fun e w'' he => by cases e <;> first | exact h _ _ he | exact hp _ _ _ he | exact hl he)
        | exact Rows.mono hh (fun _ _ he => h _ _ he)
  | halt x w' => cases x <;> simp only [Oper.upon] at hh ⊢ <;> first | exact hp _ _ _ hh | exact hh

/-- What one operation does to a state, whatever comes behind it. -/
def FOp (E : Env) (ops : Array Oper) (o : Oper) (s s' : St) : Prop := ∀ Q : Exit → St → Prop, Q .normal s' → AWPL E ops [o] Q s

theorem FOp.list {E : Env} {ops : Array Oper} {o : Oper} {s s' : St} (h : AList E ops [o] s fun z => z = s') : FOp E ops o s s' := fun Q hQ => by
  obtain ⟨q, hq, h1, h2⟩ := h
  refine AWPL.of ⟨q, hq, fun e => aop_mono (h1 e) fun z hz => ?_, fun e => ?_⟩
  · have hz : z = s' := hz
    subst hz; exact hQ
  · have hz : s.put o.dst (.v undef) = s' := h2 e
    show Q .normal _
    rw [hz]; exact hQ
theorem FOp.call {E : Env} {ops : Array Oper} {o : Oper} {s s' : St} (h : ∀ Q : Exit → St → Prop, AWPL E ops [] Q s' → AWPL E ops [o] Q s) : FOp E ops o s s' := fun Q hQ => h Q (AWPL.of hQ)

def lookI : List (Option Tmp) → Nat → Tmp → Option Nat
  | [], _, _ => none
  | d :: r, i, t => if d = some t then some i else lookI r (i + 1) t
def flowX (ds : List (Option Tmp)) (vals : List AV) (L : Nat → Bool) (t : Nat) (x : AV) : AV := match lookI ds 0 t with | some i => if L i then vals.getD i .any else x | none => x
/-- What a slot holds for an operation that looks at it. -/
def expF (ds : List (Option Tmp)) (vals : List AV) (anc : List (List Nat)) (i : Nat) (st : St) (t : Tmp) : AV := match lookI ds 0 t with | some j => if (anc.getD i []).contains j then vals.getD j .any else st.tmps.getD t .any | none => st.tmps.getD t .any
def updL (L : Nat → Bool) (i : Nat) : Nat → Bool := fun j => if j = i then true else L j
def flowS (ds : List (Option Tmp)) (vals : List AV) (cs : List Nat) (ow : Nat → List (Option (List AV))) (st : St) (L : Nat → Bool) : St := { st with tmps := st.tmps.mapIdx (flowX ds vals L), own := ow (cs.countP L) }
def dstsOf (ops : Array Oper) : List (Option Tmp) := ops.toList.map (·.dst)
/-- What is to be looked at in the code alone. -/
def flowOK (ops : Array Oper) (anc : List (List Nat)) (cs : List Nat) : Bool :=
  listedOK ops anc && (List.range ops.size).all (fun i => match ops[i]? with
    | none => false
    | some o => o.dst.isSome && (match o.dst with | some d => lookI (dstsOf ops) 0 d == some i | none => true) && o.after.toList.all (fun e => !Region.binds .any e || decide (e.on < i)) &&
      (Oper.looksAt ops o).all (fun t => match lookI (dstsOf ops) 0 t with | some j => (anc.getD i []).contains j || (anc.getD j []).contains i | none => true)) &&
  (List.range cs.length).all (fun k => (List.range k).all fun j => (anc.getD (cs.getD k 0) []).contains (cs.getD j 0)) && decide cs.Nodup && cs.all (fun i => decide (i < ops.size))

section
variable {E : Env} {ops : Array Oper} {anc : List (List Nat)} {cs : List Nat} {ow : Nat → List (Option (List AV))} {vals : List AV} {st : St}

theorem flow_read {L : Nat → Bool} {t : Tmp} {i : Nat} (h : ∀ j, lookI (dstsOf ops) 0 t = some j → L j = (anc.getD i []).contains j) : (flowS (dstsOf ops) vals cs ow st L).tmps.getD t .any = if t < st.tmps.length then expF (dstsOf ops) vals anc i st t else .any := by
  simp only [flowS, List.getD_eq_getElem?_getD, List.getElem?_mapIdx]
  by_cases ht : t < st.tmps.length
  · rw [if_pos ht, List.getElem?_eq_getElem ht]
    simp only [Option.map_some, Option.getD_some, flowX, expF]
    cases hl : lookI (dstsOf ops) 0 t with
    | none => simp [List.getD_eq_getElem?_getD, List.getElem?_eq_getElem ht]
    | some j =>
      simp only [h j hl]
      split <;> simp_all [List.getD_eq_getElem?_getD, List.getElem?_eq_getElem ht]
  · rw [if_neg ht, List.getElem?_eq_none (Nat.le_of_not_lt ht)]
    rfl
theorem count_upd {L : Nat → Bool} {i : Nat} (h : i ∉ cs) : cs.countP (updL L i) = cs.countP L := by
  apply List.countP_congr
  intro j hj
  have : j ≠ i := fun e => h (e ▸ hj)
  simp [updL, this]
theorem flow_put {L : Nat → Bool} {i : Nat} {d : Tmp} (h : lookI (dstsOf ops) 0 d = some i) : (st.tmps.mapIdx (flowX (dstsOf ops) vals L)).set d (vals.getD i .any) = st.tmps.mapIdx (flowX (dstsOf ops) vals (updL L i)) ∨ ¬ (∀ t, lookI (dstsOf ops) 0 t = some i → t = d) := by
  by_cases hu : ∀ t, lookI (dstsOf ops) 0 t = some i → t = d
  · left
    apply List.ext_getElem?
    intro t
    rw [List.getElem?_set]
    simp only [List.getElem?_mapIdx, List.length_mapIdx]
    by_cases htd : d = t
    · subst htd
      rw [if_pos rfl]
      by_cases hd : d < st.tmps.length
      · simp [hd, flowX, h, updL]
      · simp [hd]
    · rw [if_neg htd]
      cases hx : st.tmps[t]? with
      | none => rfl
      | some x =>
        simp only [Option.map_some, Option.some.injEq, flowX]
        cases hl : lookI (dstsOf ops) 0 t with
        | none => rfl
        | some j =>
          have : j ≠ i := fun e => htd (hu t (e ▸ hl)).symm
          simp [updL, this]
  · exact .inr hu
theorem lookI_get : ∀ {ds : List (Option Tmp)} {k t i : Nat}, lookI ds k t = some i → ∃ j, i = k + j ∧ ds[j]? = some (some t)
  | [], _, _, _, h => by simp [lookI] at h
  | d :: r, k, t, i, h => by
    unfold lookI at h
    split at h
    · rename_i e
      simp only [Option.some.injEq] at h
      exact ⟨0, by omega, by simp [e]⟩
    · obtain ⟨j, e1, e2⟩ := lookI_get h
      exact ⟨j + 1, by omega, by simpa using e2⟩

theorem lookI_lt {ds : List (Option Tmp)} {t i : Nat} (h : lookI ds 0 t = some i) : i < ds.length := by
  obtain ⟨j, e1, e2⟩ := lookI_get h
  have := (List.getElem?_eq_some_iff.1 e2).1
  omega
theorem flow_all {L : Nat → Bool} (hl : (dstsOf ops).length = vals.length) {p : AV → Bool} (h1 : st.tmps.all p = true) (h2 : vals.all p = true) : (flowS (dstsOf ops) vals cs ow st L).tmps.all p = true := by
  rw [List.all_eq_true] at *
  intro x hx
  obtain ⟨t, ht⟩ := List.mem_iff_getElem?.1 hx
  simp only [flowS, List.getElem?_mapIdx] at ht
  cases hy : st.tmps[t]? with
  | none => rw [hy] at ht; simp at ht
  | some y =>
    rw [hy] at ht
    simp only [Option.map_some, Option.some.injEq] at ht
    have hy2 := h1 y (List.mem_of_getElem? hy)
    rw [← ht]
    unfold flowX
    cases hk : lookI (dstsOf ops) 0 t with
    | none => exact hy2
    | some i =>
      simp only []
      split
      · have hi : i < vals.length := by rw [← hl]; exact lookI_lt hk
        have : vals.getD i .any ∈ vals := List.mem_iff_getElem?.2 ⟨i, by simp [List.getD_eq_getElem?_getD, List.getElem?_eq_getElem hi]⟩
        exact h2 _ this
      · exact hy2

theorem flow_sound {w0 : World} {im0 : Base} (h0 : E.ok w0) (hG : GOB E im0) {Q : Exit → St → Prop} (hv : listedOK ops anc = true)
    (hlt : ∀ (i : Nat) (o : Oper), ops[i]? = some o → ∀ e ∈ o.after, Region.binds .any e = true → e.on < i)
    (hstep : ∀ (i : Nat) (o : Oper), ops[i]? = some o → ∀ L : Nat → Bool, L i = false → (∀ p ∈ anc.getD i [], L p = true) → (∀ m, L m = true → ∀ p ∈ anc.getD m [], L p = true) → FOp E ops o (flowS (dstsOf ops) vals cs ow st L) (flowS (dstsOf ops) vals cs ow st (updL L i)))
    (hQ : ∀ L : Nat → Bool, (∀ i, i < ops.size → L i = true) → Q .normal (flowS (dstsOf ops) vals cs ow st L)) :
    ∀ (n : Nat) (L : Array Bool) (c : Ctx) (a : Act) (w : World), L.size = ops.size → L.toList.count false = n → WfL anc L → Rel w0 im0 c (flowS (dstsOf ops) vals cs ow st fun j => L.getD j false) a w →
      wpAny E.P .any ops (fun e a w => Hands w0 im0 (Q e) a w) n L a w := by
  have hall : ∀ L : Array Bool, L.size = ops.size → Region.ready .any ops L = [] → ∀ i, i < ops.size → L.getD i false = true := by
    intro L hs hr i
    induction i using Nat.strongRecOn with
    | ind i ih =>
      intro hi
      cases hb : L.getD i false with
      | true => rfl
      | false =>
        exfalso
        have : i ∈ Region.ready .any ops L := by
          rw [mem_ready]
          refine ⟨?_, ops[i], by simp [hi], fun e he hbd => ?_⟩
          · have hi' : i < L.size := by omega
            simpa [Array.getD, hi'] using hb
          · have := hlt i ops[i] (by simp [hi]) e he hbd
            exact ih e.on this (by omega)
        rw [hr] at this; simp at this
  have hset : ∀ (L : Array Bool) (i : Nat), i < L.size → (fun j => (L.setIfInBounds i true).getD j false) = updL (fun j => L.getD j false) i := by
    intro L i hi
    funext j
    simp only [updL, Array.getD_eq_getD_getElem?, Array.getElem?_setIfInBounds]
    by_cases hj : j = i
    · subst hj; simp [hi]
    · rw [if_neg (fun e => hj e.symm), if_neg hj]
  intro n
  induction n with
  | zero =>
    intro L c a w hs hc hw r
    have hno : ∀ i, i < ops.size → L.getD i false = true := by
      intro i hi
      have hi' : i < L.size := by omega
      have := List.count_eq_zero.1 hc
      cases hb : L[i] with
      | true => simp [Array.getD, hi', hb]
      | false => exact absurd (List.mem_iff_getElem.2 ⟨i, by simpa using hi', by simpa using hb⟩) this
    refine ⟨?_, ⟨c, _, r, hQ _ hno⟩⟩
    cases hr : Region.ready .any ops L with
    | nil => rfl
    | cons i rest =>
      exfalso
      have hi : i ∈ Region.ready .any ops L := by rw [hr]; exact List.mem_cons_self ..
      obtain ⟨h1, o, ho, _⟩ := mem_ready.1 hi
      have hio : i < ops.size := (Array.getElem?_eq_some_iff.1 ho).1
      have := hno i hio
      have hi' : i < L.size := by omega
      simp only [Array.getD, hi', dite_true] at h1 this
      rw [h1] at this; simp at this
  | succ n ih =>
    intro L c a w hs hc hw r
    refine ⟨fun hr => ⟨c, _, r, hQ _ (hall L hs hr)⟩, fun i hi => ?_⟩
    obtain ⟨h1, o, ho, hedge⟩ := mem_ready.1 hi
    have hio : i < ops.size := (Array.getElem?_eq_some_iff.1 ho).1
    have hi' : i < L.size := by omega
    have hLi : L.getD i false = false := by simpa [Array.getD, hi'] using h1
    have hf := hstep i o ho (fun j => L.getD j false) hLi (anc_listed hv hw hi) hw
    have hL2 := hset L i hi'
    rw [← hL2] at hf
    have hcount : (L.setIfInBounds i true).toList.count false = n := by
      have hget : L.toList[i]'(by simpa using hi') = false := by
        have : L[i] = false := by simpa [Array.getD, hi'] using h1
        simpa using this
      rw [Array.toList_setIfInBounds, List.count_set (h := by simpa using hi'), hc, hget]
      simp
    unfold wpOp
    rw [ho]
    simp only []
    have hh := hf (fun e z => match e with | .normal => z = flowS (dstsOf ops) vals cs ow st (fun j => (L.setIfInBounds i true).getD j false) | e => Q e z) rfl w0 im0 c a w h0 hG r
    unfold wpList at hh
    have next : ∀ a' w', Hands w0 im0 (fun z => z = flowS (dstsOf ops) vals cs ow st (fun j => (L.setIfInBounds i true).getD j false)) a' w' → wpAny E.P .any ops (fun e a w => Hands w0 im0 (Q e) a w) n (L.setIfInBounds i true) a' w' := by
      rintro a' w' ⟨c', s, r', rfl⟩
      exact ih _ c' a' w' (by simpa using hs) hcount (hw.add hv hi) r'
    split at hh
    · rename_i hwant
      rw [if_pos hwant]
      rcases hh with hh | ⟨hh1, a', w', hh2⟩
      · refine .inl (oper_wp_mono2 (fun a' w' hz => next a' w' ?_) (fun _ _ _ h => h) (fun ⟨a', w', h⟩ => ⟨a', w', h⟩) hh)
        exact hz
      · exact .inr ⟨hh1, a', w', hh2⟩
    · rename_i hwant
      rw [if_neg hwant]
      exact next _ _ hh

def setAll : List (Option Tmp) → List AV → List AV → List AV
  | some d :: ds, v :: vs, ts => setAll ds vs (ts.set d v)
  | none :: ds, _ :: vs, ts => setAll ds vs ts
  | _, _, ts => ts
theorem lookI_shift : ∀ (ds : List (Option Tmp)) (k t : Nat), lookI ds (k + 1) t = (lookI ds k t).map (· + 1)
  | [], _, _ => rfl
  | d :: r, k, t => by
    unfold lookI
    split
    · rfl
    · exact lookI_shift r (k + 1) t
theorem lookI_mem : ∀ {ds : List (Option Tmp)} {k t : Nat}, some t ∉ ds → lookI ds k t = none
  | [], _, _, _ => rfl
  | d :: r, k, t, h => by
    simp only [List.mem_cons, not_or] at h
    unfold lookI
    rw [if_neg (fun e => h.1 e.symm)]
    exact lookI_mem h.2
theorem setAll_get : ∀ (ds : List (Option Tmp)) (vs ts : List AV) (t : Nat), ds.length = vs.length → (∀ d, some d ∈ ds → ds.count (some d) ≤ 1) → (setAll ds vs ts)[t]? = (ts[t]?).map fun x => flowX ds vs (fun _ => true) t x
  | [], vs, ts, t, hl, hn => by
    cases h : ts[t]? <;> simp [setAll, flowX, lookI, h]
  | d :: ds, [], ts, t, hl, hn => by simp at hl
  | none :: ds, v :: vs, ts, t, hl, hn => by
    have ih := setAll_get ds vs ts t (by simpa using hl) (fun d hd => by have := hn d (List.mem_cons_of_mem _ hd); simpa [List.count_cons] using this)
    show (setAll ds vs ts)[t]? = _
    rw [ih]
    congr 1
    funext x
    have e : lookI (none :: ds) 0 t = (lookI ds 0 t).map (· + 1) := by
      show (if none = some t then _ else lookI ds (0 + 1) t) = _
      rw [if_neg (by simp), lookI_shift]
    unfold flowX
    rw [e]
    cases lookI ds 0 t <;> simp
  | some d :: ds, v :: vs, ts, t, hl, hn => by
    have hnd : some d ∉ ds := by
      have := hn d (List.mem_cons_self ..)
      rw [List.count_cons_self] at this
      exact List.count_eq_zero.1 (by omega)
    have ih := setAll_get ds vs (ts.set d v) t (by simpa using hl) (fun d' hd => by
      have := hn d' (List.mem_cons_of_mem _ hd)
      rw [List.count_cons] at this; omega)
    show (setAll ds vs (ts.set d v))[t]? = _
    rw [ih, List.getElem?_set]
    by_cases htd : d = t
    · subst htd
      have e : lookI (some d :: ds) 0 d = some 0 := by
        show (if some d = some d then _ else _) = _
        rw [if_pos rfl]
      by_cases hd : d < ts.length
      · simp [hd, flowX, e, lookI_mem hnd]
      · simp [hd]
    · have e : lookI (some d :: ds) 0 t = (lookI ds 0 t).map (· + 1) := by
        show (if some d = some t then _ else lookI ds (0 + 1) t) = _
        rw [if_neg (by simpa using htd), lookI_shift]
      rw [if_neg htd]
      congr 1
      funext x
      unfold flowX
      rw [e]
      cases lookI ds 0 t <;> simp

/-- A region that draws its order: each operation yields what 'vals' tells; the calls 'cs' come one behind the other, and turn the own blocks. -/
theorem AWP.regionFlow {id : Nat} {Q : Exit → St → Prop} (anc : List (List Nat)) (vals : List AV) (cs : List Nat) (ow : Nat → List (Option (List AV))) (hm : E.P.follows .mixedOrders = true) (hk : flowOK ops anc cs = true) (hvl : (dstsOf ops).length = vals.length)
    (hown : st.own = ow 0) (hrsv : st.rsv = none)
    (hp : ∀ (i : Nat) (o : Oper), ops[i]? = some o → i ∉ cs → ∀ s : St, s.gl = st.gl → (∃ k, s.own = ow k) → s.tk = st.tk → s.rsv = none → (∀ t ∈ Oper.looksAt ops o, s.tmps.getD t .any = if t < st.tmps.length then expF (dstsOf ops) vals anc i st t else .any) → FOp E ops o s (s.put o.dst (vals.getD i .any)))
    (hc : ∀ (k i : Nat) (o : Oper), cs[k]? = some i → ops[i]? = some o → ∀ s : St, s.gl = st.gl → s.own = ow k → s.tk = st.tk → s.rsv = none → s.up = st.up → (∀ p : AV → Bool, st.tmps.all p = true → vals.all p = true → s.tmps.all p = true) → (∀ t ∈ Oper.looksAt ops o, s.tmps.getD t .any = if t < st.tmps.length then expF (dstsOf ops) vals anc i st t else .any) → FOp E ops o s (St.put { s with own := ow (k + 1) } o.dst (vals.getD i .any)))
    (h : Q .normal { st with tmps := setAll (dstsOf ops) vals st.tmps, own := ow cs.length }) : AWP E (.region id ops true) Q st := fun w0 im0 cx a w h0 hG r => by
  have r' : Rel w0 im0 cx st a w.drew := ⟨r.defers, r.size, r.tmps, r.below.drew, r.imle, r.imold, r.imok, r.ownlen, fun i g k es h1 h2 => let h3 := r.own i g k es h1 h2; ⟨h3.new, h3.im, h3.blk⟩, r.tklen, r.tail, fun t T b h1 h2 => let h3 := r.tok t T b h1 h2; ⟨h3.new, h3.room, h3.im, h3.blk⟩, r.apart, r.glob, r.up, r.hole⟩
  simp only [flowOK, Bool.and_eq_true, List.all_eq_true, List.mem_range, decide_eq_true_eq] at hk
  obtain ⟨⟨⟨⟨hv, hops⟩, hchain⟩, hnd⟩, hrange⟩ := hk
  have hop : ∀ (i : Nat) (o : Oper), ops[i]? = some o → ∃ d, o.dst = some d ∧ lookI (dstsOf ops) 0 d = some i ∧ (∀ e ∈ o.after, Region.binds .any e = true → e.on < i) ∧ ∀ t ∈ Oper.looksAt ops o, ∀ j, lookI (dstsOf ops) 0 t = some j → j ∈ anc.getD i [] ∨ i ∈ anc.getD j [] := by
    intro i o ho
    have hi : i < ops.size := (Array.getElem?_eq_some_iff.1 ho).1
    have hh := hops i hi
    rw [ho] at hh
    simp only [Bool.and_eq_true] at hh
    obtain ⟨⟨⟨h1, h2⟩, h3⟩, h4⟩ := hh
    obtain ⟨d, hd⟩ := Option.isSome_iff_exists.1 h1
    rw [hd] at h2
    refine ⟨d, hd, by simpa using h2, fun e he hb => ?_, fun t ht j hj => ?_⟩
    · have := List.all_eq_true.1 h3 e (by simpa using he)
      rw [hb] at this; simpa using this
    · have := List.all_eq_true.1 h4 t ht
      rw [hj] at this; simpa using this
  have hdst : ∀ (t i : Nat), lookI (dstsOf ops) 0 t = some i → ∃ o, ops[i]? = some o ∧ o.dst = some t := by
    intro t i hl
    obtain ⟨j, e1, e2⟩ := lookI_get hl
    have : i = j := by omega
    subst this
    unfold dstsOf at e2
    rw [List.getElem?_map] at e2
    cases ho : ops.toList[i]? with
    | none => rw [ho] at e2; simp at e2
    | some o =>
      rw [ho] at e2
      exact ⟨o, by simpa using ho, by simpa using e2⟩
  have huniq : ∀ (t d i : Nat) (o : Oper), ops[i]? = some o → o.dst = some d → lookI (dstsOf ops) 0 t = some i → t = d := by
    intro t d i o ho hd hl
    obtain ⟨o', ho', hd'⟩ := hdst t i hl
    rw [ho] at ho'
    have : o = o' := Option.some.inj ho'
    subst this
    rw [hd] at hd'
    exact (Option.some.inj hd').symm
  have hzero : flowS (dstsOf ops) vals cs ow st (fun j => (Array.replicate ops.size false).getD j false) = st := by
    have hf : (fun j => (Array.replicate ops.size false).getD j false) = fun _ => false := by
      funext j
      by_cases hj : j < ops.size <;> simp [Array.getD, hj]
    rw [hf]
    unfold flowS
    have e1 : st.tmps.mapIdx (flowX (dstsOf ops) vals fun _ => false) = st.tmps := by
      apply List.ext_getElem?
      intro t
      rw [List.getElem?_mapIdx]
      cases st.tmps[t]? with
      | none => rfl
      | some x =>
        simp only [Option.map_some, Option.some.injEq, flowX]
        cases lookI (dstsOf ops) 0 t <;> simp
    have e2 : cs.countP (fun _ => false) = 0 := by rw [List.countP_eq_zero]; simp
    rw [e1, e2, ← hown]
  refine wp_region_any hm (flow_sound (ops := ops) (anc := anc) (cs := cs) (ow := ow) (vals := vals) (st := st) h0 hG hv (fun i o ho e he hb => (hop i o ho).choose_spec.2.2.1 e he hb) ?_ ?_ ops.size _ cx a _ (by simp) (by simp) (by intro m hm; by_cases hj : m < ops.size <;> simp [Array.getD, hj] at hm) ?_)
  · intro i o ho L hLi hanc hcl
    obtain ⟨d, hd, hlk, _, hlooks⟩ := hop i o ho
    have hread : ∀ t ∈ Oper.looksAt ops o, (flowS (dstsOf ops) vals cs ow st L).tmps.getD t .any = if t < st.tmps.length then expF (dstsOf ops) vals anc i st t else .any := fun t ht => flow_read fun j hj => by
      by_cases hc : j ∈ anc.getD i []
      · rw [hanc j hc]; symm; simpa using hc
      · have h2 := (hlooks t ht j hj).resolve_left hc
        have h3 : L j = false := by
          cases hb : L j with
          | false => rfl
          | true => have := hcl j hb i h2; rw [hLi] at this; simp at this
        rw [h3]; symm; simpa using hc
    have hput := (flow_put (st := st) (vals := vals) (L := L) hlk).resolve_right (fun hn => hn fun t ht => huniq t d i o ho hd ht)
    by_cases hic : i ∈ cs
    · obtain ⟨k, hk⟩ := List.mem_iff_getElem?.1 hic
      have hklt := (List.getElem?_eq_some_iff.1 hk).1
      have hbefore : ∀ j, j < k → L (cs.getD j 0) = true := fun j hj => hanc _ (by
        have := hchain k hklt j hj
        rw [show cs.getD k 0 = i by simp [List.getD_eq_getElem?_getD, hk]] at this
        simpa using this)
      have hbehind : ∀ j, k < j → j < cs.length → L (cs.getD j 0) = false := fun j hj hj2 => by
        cases hb : L (cs.getD j 0) with
        | false => rfl
        | true =>
          have := hcl _ hb i (by
            have := hchain j hj2 k hj
            rw [show cs.getD k 0 = i by simp [List.getD_eq_getElem?_getD, hk]] at this
            simpa using this)
          rw [hLi] at this; simp at this
      have hcnt : ∀ M : Nat → Bool, (∀ j, j < k → M (cs.getD j 0) = true) → (∀ j, k < j → j < cs.length → M (cs.getD j 0) = false) → cs.countP M = k + (if M i then 1 else 0) := by
        intro M h1 h2
        have hsplit : cs = cs.take k ++ i :: cs.drop (k + 1) := by
          have hd := List.drop_eq_getElem_cons hklt
          rw [(List.getElem?_eq_some_iff.1 hk).2] at hd
          rw [← hd, List.take_append_drop]
        rw [hsplit, List.countP_append, List.countP_cons]
        have e1 : (cs.take k).countP M = k := by
          have : (cs.take k).countP M = (cs.take k).length := List.countP_eq_length.2 fun x hx => by
            obtain ⟨j, hj⟩ := List.mem_iff_getElem?.1 hx
            rw [List.getElem?_take] at hj
            split at hj
            · rename_i hjk
              have := h1 j hjk
              rwa [show cs.getD j 0 = x by simp [List.getD_eq_getElem?_getD, hj]] at this
            · simp at hj
          rw [this, List.length_take]; omega
        have e2 : (cs.drop (k + 1)).countP M = 0 := List.countP_eq_zero.2 fun x hx => by
          obtain ⟨j, hj⟩ := List.mem_iff_getElem?.1 hx
          rw [List.getElem?_drop] at hj
          have hj2 : k + 1 + j < cs.length := (List.getElem?_eq_some_iff.1 hj).1
          have := h2 (k + 1 + j) (by omega) hj2
          rw [show cs.getD (k + 1 + j) 0 = x by simp [List.getD_eq_getElem?_getD, hj]] at this
          simp [this]
        rw [e1, e2]; simp
      have c1 : cs.countP L = k := by rw [hcnt L hbefore hbehind, hLi]; simp
      have hne : ∀ j, j ≠ k → j < cs.length → cs.getD j 0 ≠ i := fun j hj hj2 e => hj (by
        have h3 : cs[j]? = cs[k]? := by
          rw [hk, ← e, List.getElem?_eq_getElem hj2]; simp [List.getD_eq_getElem?_getD, List.getElem?_eq_getElem hj2]
        exact ((List.getElem?_inj hj2 hnd).1 h3))
      have c2 : cs.countP (updL L i) = k + 1 := by
        rw [hcnt (updL L i) (fun j hj => by show (if _ then true else _) = true; rw [hbefore j hj]; simp) (fun j hj hj2 => by show (if _ then true else _) = false; rw [if_neg (hne j (by omega) hj2), hbehind j hj hj2])]
        simp [updL]
      have := hc k i o hk ho (flowS (dstsOf ops) vals cs ow st L) rfl (by simp [flowS, c1]) rfl hrsv rfl (fun p h1 h2 => flow_all hvl h1 h2) hread
      rw [hd] at this
      have e : St.put { flowS (dstsOf ops) vals cs ow st L with own := ow (k + 1) } (some d) (vals.getD i .any) = flowS (dstsOf ops) vals cs ow st (updL L i) := by
        simp only [St.put, flowS]
        rw [hput, c2]
      rw [← e]
      exact this
    · have := hp i o ho hic (flowS (dstsOf ops) vals cs ow st L) rfl ⟨_, rfl⟩ rfl hrsv hread
      rw [hd] at this
      have e : St.put (flowS (dstsOf ops) vals cs ow st L) (some d) (vals.getD i .any) = flowS (dstsOf ops) vals cs ow st (updL L i) := by
        simp only [St.put, flowS]
        rw [hput, count_upd hic]
      rw [← e]
      exact this
  · intro L hL
    have e : flowS (dstsOf ops) vals cs ow st L = { st with tmps := setAll (dstsOf ops) vals st.tmps, own := ow cs.length } := by
      unfold flowS
      have e1 : st.tmps.mapIdx (flowX (dstsOf ops) vals L) = setAll (dstsOf ops) vals st.tmps := by
        apply List.ext_getElem?
        intro t
        rw [setAll_get _ _ _ _ hvl, List.getElem?_mapIdx]
        · congr 1
          funext x
          unfold flowX
          cases hl : lookI (dstsOf ops) 0 t with
          | none => rfl
          | some i =>
            obtain ⟨o, ho, _⟩ := hdst t i hl
            simp [hL i (Array.getElem?_eq_some_iff.1 ho).1]
        · intro d hd
          rcases Nat.lt_or_ge 1 ((dstsOf ops).count (some d)) with hcc | hcc
          · exfalso
            have hidx : ∀ i o, ops[i]? = some o → o.dst = some d → lookI (dstsOf ops) 0 d = some i := fun i o ho hd' => by
              obtain ⟨d2, e2, e3, _⟩ := hop i o ho
              rw [hd'] at e2
              rw [Option.some.inj e2]; exact e3
            have hdup : ∃ i j : Nat, i < j ∧ (dstsOf ops)[i]? = some (some d) ∧ (dstsOf ops)[j]? = some (some d) := by
              have key : ∀ l : List (Option Tmp), 1 < l.count (some d) → ∃ i j : Nat, i < j ∧ l[i]? = some (some d) ∧ l[j]? = some (some d) := by
                intro l
                induction l with
                | nil => intro h; simp at h
                | cons y l ih =>
                  intro h
                  rw [List.count_cons] at h
                  by_cases hy : y = some d
                  · subst hy
                    simp only [beq_self_eq_true, if_true] at h
                    have hm : some d ∈ l := List.count_pos_iff.1 (by omega)
                    obtain ⟨j, hj⟩ := List.mem_iff_getElem?.1 hm
                    exact ⟨0, j + 1, by omega, rfl, by simpa using hj⟩
                  · have : l.count (some d) > 1 := by
                      have hb : (y == some d) = false := by simpa using hy
                      rw [hb] at h; simpa using h
                    obtain ⟨i, j, hij, h1, h2⟩ := ih this
                    exact ⟨i + 1, j + 1, by omega, by simpa using h1, by simpa using h2⟩
              exact key _ hcc
            obtain ⟨i, j, hij, h1, h2⟩ := hdup
            have get : ∀ k : Nat, (dstsOf ops)[k]? = some (some d) → lookI (dstsOf ops) 0 d = some k := fun k hk => by
              unfold dstsOf at hk
              rw [List.getElem?_map] at hk
              cases ho : ops.toList[k]? with
              | none => rw [ho] at hk; simp at hk
              | some o =>
                rw [ho] at hk
                exact hidx k o (by simpa using ho) (by simpa using hk)
            have e1 := get i h1
            have e2 := get j h2
            rw [e1] at e2
            have := Option.some.inj e2
            omega
          · exact hcc
      have e2 : cs.countP L = cs.length := List.countP_eq_length.2 fun x hx => by
        obtain ⟨k, hk⟩ := List.mem_iff_getElem?.1 hx
        exact hL x (hrange x hx)
      rw [e1, e2]
    rw [e]; exact h
  · rw [hzero]; exact r'
end

section
variable {E : Env} {Q : Exit → St → Prop} {st : St} {ops : Array Oper} {l : List Oper}
end
end Go.Abs
end
section
/- Own blocks behind those of a caller; a leaf's token is forgotten. -/
set_option linter.unusedVariables false
set_option linter.unusedSimpArgs false
namespace Go.Abs
open Go Go.RowKit
theorem AV.bel1_mono {no nt no' nt' : Nat} (h1 : no ≤ no') (h2 : nt ≤ nt') {x : AV} (h : x.bel1 no nt = true) : x.bel1 no' nt' = true := by
  cases x with
  | sl t k es => cases t with
    | none => rfl
    | some t => simp only [AV.bel1, decide_eq_true_eq] at *; omega
  | mu => simp only [AV.bel1, decide_eq_true_eq] at *; omega
  | ptr => simp only [AV.bel1, decide_eq_true_eq] at *; omega
  | fn f cs => cases cs <;> simp_all [AV.bel1]
  | _ => simp_all [AV.bel1]
theorem AV.bel2_mono {no nt no' nt' : Nat} (h1 : no ≤ no') (h2 : nt ≤ nt') {x : AV} (h : x.bel2 no nt = true) : x.bel2 no' nt' = true := by
  cases x with
  | agg cs => simp only [AV.bel2, List.all_eq_true] at *; exact fun y hy => AV.bel1_mono h1 h2 (h y hy)
  | fn f cs => simp only [AV.bel2, List.all_eq_true] at *; exact fun y hy => AV.bel1_mono h1 h2 (h y hy)
  | _ => simp only [AV.bel2] at *; first | exact AV.bel1_mono h1 h2 h | rfl
theorem AV.bel_mono {no nt no' nt' : Nat} (h1 : no ≤ no') (h2 : nt ≤ nt') {x : AV} (h : x.bel no nt = true) : x.bel no' nt' = true := by
  cases x with
  | tup cs => simp only [AV.bel, List.all_eq_true] at *; exact fun y hy => AV.bel2_mono h1 h2 (h y hy)
  | _ => simp only [AV.bel] at *; exact AV.bel2_mono h1 h2 h
/-- Own blocks that name nothing further on. -/
def OwnBel (own : List (Option (List AV))) (no nt : Nat) : Prop := ∀ es, some es ∈ own → ∀ e ∈ es, ∀ z ∈ e.leaves, z.bel no nt = true
theorem OwnBel.mono {own : List (Option (List AV))} {no nt no' nt' : Nat} (h : OwnBel own no nt) (h1 : no ≤ no') (h2 : nt ≤ nt') : OwnBel own no' nt' := fun es hes e he z hz => AV.bel_mono h1 h2 (h es hes e he z hz)
theorem OwnBel.app {own l : List (Option (List AV))} {no nt : Nat} (h : OwnBel own no nt) (h2 : OwnBel l no nt) : OwnBel (own ++ l) no nt := fun es hes => (List.mem_append.1 hes).elim (h es) (h2 es)
theorem OwnBel.set {own : List (Option (List AV))} {no nt id : Nat} {x : List AV} (h : OwnBel own no nt) (h2 : ∀ e ∈ x, ∀ z ∈ e.leaves, z.bel no nt = true) : OwnBel (own.set id (some x)) no nt := fun es hes => by
  rcases List.mem_or_eq_of_mem_set hes with hes | hes
  · exact h es hes
  · simp only [Option.some.injEq] at hes; subst hes; exact h2
theorem OwnBel.nil {no nt : Nat} : OwnBel [] no nt := fun es hes => by simp at hes
theorem OwnBel.cons {own : List (Option (List AV))} {no nt : Nat} {x : Option (List AV)} (h : ∀ es, x = some es → ∀ e ∈ es, ∀ z ∈ e.leaves, z.bel no nt = true) (h2 : OwnBel own no nt) : OwnBel (x :: own) no nt := fun es hes => by
  rcases List.mem_cons.1 hes with hes | hes
  · exact h es hes.symm
  · exact h2 es hes
theorem wkO_app : ∀ {a b : List (Option (List AV))} {no nt : Nat}, OwnBel a no nt → WkO no nt (a ++ b) a
  | [], b, _, _, _ => by cases b <;> trivial
  | x :: xs, b, _, _, hh => ⟨.inr ⟨rfl, fun es e => hh es (by rw [e]; exact List.mem_cons_self ..)⟩, wkO_app fun es hes => hh es (List.mem_cons_of_mem _ hes)⟩
section
variable {α : Type} {own : List α} {a b c x : α}
end
end Go.Abs
end
section
set_option linter.unusedVariables false
set_option linter.unusedSimpArgs false
namespace Go.Proofs.YtajeeghgiilhiaaGreat
open Go Go.Abs Go.RowKit Go.Bk
theorem row_len (l : List Od) (m : Nat) : (l.map odV ++ spare 8 m).length = l.length + m := by simp [spare_len]
theorem erase_eq {l : List Od} {p : Nat} (hp : p < l.length) : l.eraseIdx p = l.take p ++ l.drop (p + 1) := List.eraseIdx_eq_take_drop_succ ..
theorem del_row {l : List Od} {p : Nat} (hp : p < l.length) (m : Nat) : (l.map odV ++ spare 8 m).take p ++ (((l.map odV ++ spare 8 m).drop (p + 1)).take (l.length - (p + 1)) ++ (l.map odV ++ spare 8 m).drop (p + (l.length - (p + 1)))) = (l.eraseIdx p).map odV ++ (l.map odV ++ spare 8 m).drop (l.length - 1) := by
  rw [show p + (l.length - (p + 1)) = l.length - 1 by omega, ← List.append_assoc]
  congr 1
  rw [List.take_append_of_le_length (by simp; omega), List.drop_append_of_le_length (by simp; omega), List.take_left' (by simp), erase_eq hp, List.map_append, List.map_take, List.map_drop]
theorem del_end {l : List Od} {p : Nat} (hp : p < l.length) (m : Nat) (h : l.length - (p + 1) = 0) : (l.map odV ++ spare 8 m).take p ++ (((l.map odV ++ spare 8 m).drop 0).take (l.length - (p + 1)) ++ (l.map odV ++ spare 8 m).drop (p + (l.length - (p + 1)))) = (l.eraseIdx p).map odV ++ (l.map odV ++ spare 8 m).drop (l.length - 1) := by
  rw [← del_row hp m, h]; simp
theorem del_any {l : List Od} {p : Nat} (hp : p < l.length) (m : Nat) : ∀ e ∈ ((l.map odV ++ spare 8 m).drop (p + 1)).take (l.length - (p + 1)), ∀ x ∈ e.leaves, x ≠ .any := by
  intro e he x hx
  rw [List.drop_append_of_le_length (by simp; omega), List.take_left' (by simp)] at he
  obtain ⟨o, _, rfl⟩ := List.mem_map.1 (List.mem_of_mem_drop he)
  simp only [AV.leaves, List.mem_cons, List.not_mem_nil, or_false] at hx
  rcases hx with rfl | rfl | rfl | rfl | rfl | rfl | rfl | rfl <;> simp
theorem del_spare {l : List Od} {p : Nat} (hp : p < l.length) (m : Nat) : spare 8 ((l.map odV ++ spare 8 m).drop (l.length - 1)).length = spare 8 (m + 1) := by
  congr 1; rw [List.length_drop, row_len]; omega
theorem clr_ev {l : List Od} {p id cap : Nat} (hp : p < l.length) {x : AV} (h : x = .mu id 8 (l.length - 1) (l.length - (l.length - 1)) cap) : x = .mu id 8 ((l.eraseIdx p).map odV).length (0 + 1) cap := by
  rw [h]; congr 1
  · rw [List.length_map, List.length_eraseIdx_of_lt hp]
  · omega

set_option maxRecDepth 100000 in
set_option maxHeartbeats 8000000 in
theorem del_call {ops : Array Oper} {l0 : List Oper} {Q : Exit → St → Prop} {tmps up : List AV} {gl : Nat → Option (List AV)} {own : List (Option (List AV))} {tk : List Nat} {dst : Option Tmp} {x0 x1 x2 : Operand} {tys : Array TypeId} {ty : TypeId} {pos : String} {after : Array Edge} {id p m : Nat} {l : List Od}
    (hx0 : St.ev ⟨tmps, own, tk, gl, none, up⟩ x0 = .mu id 8 0 l.length (l.length + m)) (hx1 : St.ev ⟨tmps, own, tk, gl, none, up⟩ x1 = i64 (p : Int)) (hx2 : St.ev ⟨tmps, own, tk, gl, none, up⟩ x2 = i64 ((p + 1 : Nat) : Int)) (ho : own[id]? = some (some (l.map odV ++ spare 8 m))) (hp : p < l.length) (hl : l.length ≤ 1000000)
    (h : AWPL E ops l0 Q (St.put ⟨tmps, own.set id (some ((l.eraseIdx p).map odV ++ spare 8 (m + 1))), tk, gl, none, up⟩ dst (.mu id 8 0 (l.length - 1) (l.length + m)))) :
    AWPL E ops (⟨dst, .call ⟨.value (.func 83), #[x0, x1, x2], tys⟩, ty, pos, after, none⟩ :: l0) Q ⟨tmps, own, tk, gl, none, up⟩ := by
  refine AWPL.call (caps := []) (rs := [.tmp 6]) Tryz.func83 rfl Tryz.ntmps83 rfl (by kernel_rfl) rfl rfl ?_
  show AWP E _ _ ⟨([St.ev _ x0, St.ev _ x1, St.ev _ x2] ++ []) ++ List.replicate (33 - 3) (.v undef), own, tk, gl, none, tmps ++ up⟩
  rw [hx0, hx1, hx2]
  have hB0 : ∀ (tm : List AV), tm[6]? = some (.mu id 8 0 (l.length - 1) (l.length + m)) → AInPost E.P [.tmp 6] ⟨tmps, own, tk, gl, none, up⟩ (fun s z => AWPL E ops l0 Q (s.put dst z)) .ret ⟨tm, own.set id (some ((l.eraseIdx p).map odV ++ spare 8 (m + 1))), tk, gl, none, tmps ++ up⟩ := by
    intro tm hu
    refine ⟨rfl, ?_⟩
    have gu : ∀ ow, St.ev ⟨tm, ow, tk, gl, none, tmps ++ up⟩ (.tmp 6) = .mu id 8 0 (l.length - 1) (l.length + m) := fun ow => by simp [St.ev, List.getD_eq_getElem?_getD, hu]
    show AWPL E ops l0 Q (St.put _ dst (tupOf [St.ev _ (.tmp 6)]))
    rw [gu]
    exact h
  generalize AInPost E.P [.tmp 6] ⟨tmps, own, tk, gl, none, up⟩ (fun s z => AWPL E ops l0 Q (s.put dst z)) = Q' at hB0 ⊢
  generalize tmps ++ up = up' at hB0 ⊢
  clear h hx0 hx1 hx2
  have hset : ∀ x, (own.set id x)[id]? = some x := fun x => List.getElem?_set_self (lt_of_get ho)
  have hrl := row_len l m
  have hnp : decide ((p : Int) = ((p + 1 : Nat) : Int)) = false := decide_eq_false (by omega)
  have hE := del_row hp m
  repeat' (first
    | refine AWP.seqk fun K hK => ?_
    | (
        refine AWP.here 1 8 6 rfl ?_
        refine AWP.regionL ?_
        refine AWPL.at 6 5 rfl ?_
        simp only [go_sem, hnp, hset]
        (repeat (refine ⟨⟨_, rfl⟩, ?_⟩))
        refine AWPL.slice3Mu (e := 65) (l' := p) (h' := p + 1) (m' := l.length) (k := 8) (by kernel_rfl) (by kernel_rfl) (by rfl) (by rfl) (by rfl) (by rfl) (by omega) (by omega) (by omega) ?_
        refine AWPL.of ?_
        (try simp only [go_sem, hnp, hset]))
    | (
        refine AWP.here 5 20 8 rfl ?_
        rcases Nat.lt_or_ge (p + 1) (l.length + m) with hlt | hlt
        refine AWP.regionFlow [[], [], [0, 1], [], [], [3, 4], [0, 1, 2, 3, 4, 5], [0, 1, 2, 3, 4, 5, 6]] [.mu id 8 0 l.length (l.length + m), i64 (p : Int), .mu id 8 0 p (l.length + m), .mu id 8 0 l.length (l.length + m), i64 ((p + 1 : Nat) : Int), .mu id 8 (p + 1) (l.length - (p + 1)) (l.length + m - (p + 1)), .mu id 8 0 (l.length - 1) (l.length + m), .mu id 8 0 (l.length - 1) (l.length + m)] [6] (fun k => [own, own.set id (some ((l.eraseIdx p).map odV ++ ((l.map odV ++ spare 8 m).drop (l.length - 1))))].getD k []) (by kernel_rfl) (by kernel_rfl) rfl rfl rfl ?_ ?_ ?_
        · intro i o ho hi s hg how htk hrs hr
          rcases i with _ | i
          · simp only [List.getElem?_toArray, List.getElem?_cons_zero, List.getElem?_cons_succ, Option.some.injEq] at ho; subst ho
            have e0 := (hr 0 (by decide)).trans (rfl : _ = (.mu id 8 0 l.length (l.length + m) : AV))
            refine FOp.list ?_
            simp only [go_sem, e0]
            first | done | rfl | exact ⟨_, rfl⟩ | skip
          rcases i with _ | i
          · simp only [List.getElem?_toArray, List.getElem?_cons_zero, List.getElem?_cons_succ, Option.some.injEq] at ho; subst ho
            have e1 := (hr 1 (by decide)).trans (rfl : _ = (i64 (p : Int) : AV))
            refine FOp.list ?_
            simp only [go_sem, e1]
            first | done | rfl | exact ⟨_, rfl⟩ | skip
          rcases i with _ | i
          · simp only [List.getElem?_toArray, List.getElem?_cons_zero, List.getElem?_cons_succ, Option.some.injEq] at ho; subst ho
            have e20 := (hr 20 (by decide)).trans (rfl : _ = (.mu id 8 0 l.length (l.length + m) : AV))
            have e21 := (hr 21 (by decide)).trans (rfl : _ = (i64 (p : Int) : AV))
            refine FOp.list ?_
            simp only [go_sem, e20, e21]
            omega
          rcases i with _ | i
          · simp only [List.getElem?_toArray, List.getElem?_cons_zero, List.getElem?_cons_succ, Option.some.injEq] at ho; subst ho
            have e0 := (hr 0 (by decide)).trans (rfl : _ = (.mu id 8 0 l.length (l.length + m) : AV))
            refine FOp.list ?_
            simp only [go_sem, e0]
            first | done | rfl | exact ⟨_, rfl⟩ | skip
          rcases i with _ | i
          · simp only [List.getElem?_toArray, List.getElem?_cons_zero, List.getElem?_cons_succ, Option.some.injEq] at ho; subst ho
            have e2 := (hr 2 (by decide)).trans (rfl : _ = (i64 ((p + 1 : Nat) : Int) : AV))
            refine FOp.list ?_
            simp only [go_sem, e2]
            first | done | rfl | exact ⟨_, rfl⟩ | skip
          rcases i with _ | i
          · simp only [List.getElem?_toArray, List.getElem?_cons_zero, List.getElem?_cons_succ, Option.some.injEq] at ho; subst ho
            have e23 := (hr 23 (by decide)).trans (rfl : _ = (.mu id 8 0 l.length (l.length + m) : AV))
            have e24 := (hr 24 (by decide)).trans (rfl : _ = (i64 ((p + 1 : Nat) : Int) : AV))
            refine FOp.call fun Q hQ => ?_
            refine AWPL.sliceMu (e := 65) (l := p + 1) (k := 8) (off := 0) (len := l.length) (cap := l.length + m) (by kernel_rfl) (by kernel_rfl) e23 e24 (by omega) hlt (by omega) ?_
            rw [Nat.zero_add]
            exact hQ
          rcases i with _ | i
          · exact absurd (by decide) hi
          rcases i with _ | i
          · simp only [List.getElem?_toArray, List.getElem?_cons_zero, List.getElem?_cons_succ, Option.some.injEq] at ho; subst ho
            have e26 := (hr 26 (by decide)).trans (rfl : _ = (.mu id 8 0 (l.length - 1) (l.length + m) : AV))
            refine FOp.list ?_
            simp only [go_sem, e26]
            first | done | rfl | exact ⟨_, rfl⟩ | skip
          · exact absurd ho (by simp)
        · intro k i o hk ho s hg how htk hrs hup hpp hr
          rcases k with _ | k
          · obtain rfl := Option.some.inj hk
            simp only [List.getElem?_toArray, List.getElem?_cons_zero, List.getElem?_cons_succ, Option.some.injEq] at ho; subst ho
            have e22 := (hr 22 (by decide)).trans (rfl : _ = (.mu id 8 0 p (l.length + m) : AV))
            have e25 := (hr 25 (by decide)).trans (rfl : _ = (.mu id 8 (p + 1) (l.length - (p + 1)) (l.length + m - (p + 1)) : AV))
            clear hr
            obtain ⟨tm, ow0, tk0, gl0, rsv0, up0⟩ := s
            simp only [] at hg how htk hrs hup hpp; subst hg; subst how; subst htk; subst hrs; subst hup
            refine FOp.call fun Q hQ => ?_
            have hE2 := hE
            refine AWPL.appSelf (es := (l.map odV ++ spare 8 m)) (i := p) (o := (p + 1)) (j := l.length - (p + 1)) sr22 ap22 (by rw [hrl]; exact e22) (by exact e25) ho (by rw [hrl]; omega) (by rw [hrl]; omega) (by rw [hrl]; omega) (del_any hp m) ?_
            rw [hE2, show p + (l.length - (p + 1)) = l.length - 1 by omega]
            (try rw [hrl])
            exact hQ
          · exact absurd hk (by simp)
        simp only [go_sem, Go.Abs.setAll, Go.Abs.dstsOf, List.map_cons, List.map_nil]
        rotate_left
        refine AWP.regionFlow [[], [], [0, 1], [], [], [3, 4], [0, 1, 2, 3, 4, 5], [0, 1, 2, 3, 4, 5, 6]] [.mu id 8 0 l.length (l.length + m), i64 (p : Int), .mu id 8 0 p (l.length + m), .mu id 8 0 l.length (l.length + m), i64 ((p + 1 : Nat) : Int), .mu id 8 0 (l.length - (p + 1)) 0, .mu id 8 0 (l.length - 1) (l.length + m), .mu id 8 0 (l.length - 1) (l.length + m)] [6] (fun k => [own, own.set id (some ((l.eraseIdx p).map odV ++ ((l.map odV ++ spare 8 m).drop (l.length - 1))))].getD k []) (by kernel_rfl) (by kernel_rfl) rfl rfl rfl ?_ ?_ ?_
        · intro i o ho hi s hg how htk hrs hr
          rcases i with _ | i
          · simp only [List.getElem?_toArray, List.getElem?_cons_zero, List.getElem?_cons_succ, Option.some.injEq] at ho; subst ho
            have e0 := (hr 0 (by decide)).trans (rfl : _ = (.mu id 8 0 l.length (l.length + m) : AV))
            refine FOp.list ?_
            simp only [go_sem, e0]
            first | done | rfl | exact ⟨_, rfl⟩ | skip
          rcases i with _ | i
          · simp only [List.getElem?_toArray, List.getElem?_cons_zero, List.getElem?_cons_succ, Option.some.injEq] at ho; subst ho
            have e1 := (hr 1 (by decide)).trans (rfl : _ = (i64 (p : Int) : AV))
            refine FOp.list ?_
            simp only [go_sem, e1]
            first | done | rfl | exact ⟨_, rfl⟩ | skip
          rcases i with _ | i
          · simp only [List.getElem?_toArray, List.getElem?_cons_zero, List.getElem?_cons_succ, Option.some.injEq] at ho; subst ho
            have e20 := (hr 20 (by decide)).trans (rfl : _ = (.mu id 8 0 l.length (l.length + m) : AV))
            have e21 := (hr 21 (by decide)).trans (rfl : _ = (i64 (p : Int) : AV))
            refine FOp.list ?_
            simp only [go_sem, e20, e21]
            omega
          rcases i with _ | i
          · simp only [List.getElem?_toArray, List.getElem?_cons_zero, List.getElem?_cons_succ, Option.some.injEq] at ho; subst ho
            have e0 := (hr 0 (by decide)).trans (rfl : _ = (.mu id 8 0 l.length (l.length + m) : AV))
            refine FOp.list ?_
            simp only [go_sem, e0]
            first | done | rfl | exact ⟨_, rfl⟩ | skip
          rcases i with _ | i
          · simp only [List.getElem?_toArray, List.getElem?_cons_zero, List.getElem?_cons_succ, Option.some.injEq] at ho; subst ho
            have e2 := (hr 2 (by decide)).trans (rfl : _ = (i64 ((p + 1 : Nat) : Int) : AV))
            refine FOp.list ?_
            simp only [go_sem, e2]
            first | done | rfl | exact ⟨_, rfl⟩ | skip
          rcases i with _ | i
          · simp only [List.getElem?_toArray, List.getElem?_cons_zero, List.getElem?_cons_succ, Option.some.injEq] at ho; subst ho
            have e23 := (hr 23 (by decide)).trans (rfl : _ = (.mu id 8 0 l.length (l.length + m) : AV))
            have e24 := (hr 24 (by decide)).trans (rfl : _ = (i64 ((p + 1 : Nat) : Int) : AV))
            refine FOp.call fun Q hQ => ?_
            refine AWPL.sliceMuEnd (e := 65) (k := 8) (off := 0) (cap := l.length + m) (by kernel_rfl) (by kernel_rfl) (by rw [show l.length + m = l.length by omega] at e23; rw [show l.length + m = l.length by omega]; exact e23) (by rw [show l.length + m = p + 1 by omega]; exact e24) (by omega) ?_
            rw [show l.length - (p + 1) = 0 by omega] at hQ
            exact hQ
          rcases i with _ | i
          · exact absurd (by decide) hi
          rcases i with _ | i
          · simp only [List.getElem?_toArray, List.getElem?_cons_zero, List.getElem?_cons_succ, Option.some.injEq] at ho; subst ho
            have e26 := (hr 26 (by decide)).trans (rfl : _ = (.mu id 8 0 (l.length - 1) (l.length + m) : AV))
            refine FOp.list ?_
            simp only [go_sem, e26]
            first | done | rfl | exact ⟨_, rfl⟩ | skip
          · exact absurd ho (by simp)
        · intro k i o hk ho s hg how htk hrs hup hpp hr
          rcases k with _ | k
          · obtain rfl := Option.some.inj hk
            simp only [List.getElem?_toArray, List.getElem?_cons_zero, List.getElem?_cons_succ, Option.some.injEq] at ho; subst ho
            have e22 := (hr 22 (by decide)).trans (rfl : _ = (.mu id 8 0 p (l.length + m) : AV))
            have e25 := (hr 25 (by decide)).trans (rfl : _ = (.mu id 8 0 (l.length - (p + 1)) 0 : AV))
            clear hr
            obtain ⟨tm, ow0, tk0, gl0, rsv0, up0⟩ := s
            simp only [] at hg how htk hrs hup hpp; subst hg; subst how; subst htk; subst hrs; subst hup
            refine FOp.call fun Q hQ => ?_
            have hE2 := hE
            refine AWPL.appSelf (es := (l.map odV ++ spare 8 m)) (i := p) (o := 0) (j := l.length - (p + 1)) sr22 ap22 (by rw [hrl]; exact e22) (by exact e25) ho (by rw [hrl]; omega) (by rw [hrl]; omega) (by rw [hrl]; omega) (by rw [show l.length - (p + 1) = 0 by omega]; intro e he; simp at he) ?_
            rw [del_end hp m (by omega), show p + (l.length - (p + 1)) = l.length - 1 by omega]
            (try rw [hrl])
            exact hQ
          · exact absurd hk (by simp)
        simp only [go_sem, Go.Abs.setAll, Go.Abs.dstsOf, List.map_cons, List.map_nil])
    | (
        refine AWP.here 6 27 6 rfl ?_
        refine AWP.regionL ?_
        refine AWPL.at 6 4 rfl ?_
        simp only [go_sem, hnp, hset]
        (repeat (refine ⟨⟨_, rfl⟩, ?_⟩))
        refine AWPL.slice2Mu (e := 65) (l' := l.length - 1) (h' := l.length) (k := 8) (off := 0) (by kernel_rfl) (by kernel_rfl) (by rfl) (by rfl) (by rfl) (by omega) (by omega) (by omega) ?_
        simp only [go_sem, hnp, hset]
        refine AWPL.clearMu (e := 65) (k := 8) (n := 88) (len := 0) (A := (l.eraseIdx p).map odV) (B := (l.map odV ++ spare 8 m).drop (l.length - 1)) ap22 (by kernel_rfl) (clr_ev hp (by rfl)) (hset _) (by rw [List.length_drop, hrl]; omega) ?_
        rw [del_spare hp m]
        refine AWPL.of ?_
        (try simp only [go_sem, hnp, hset]))
    | (refine AWP.region ?_; simp only [go_sem, hnp, hset])
    | (refine AWP.here 5 20 8 rfl ?_; refine AWP.regionAnyT (.take 0 (.take 1 (.take 2 (.take 3 (.take 4 (.take 5 (.take 6 (.take 7 .done)))))))) [[], [], [0, 1], [], [], [3, 4], [0, 1, 2, 3, 4, 5], [0, 1, 2, 3, 4, 5, 6]] [] (by kernel_rfl) (by kernel_rfl) ?_; simp only [go_sem, hnp, hset])
    | (refine hK _ ?_; clear hK K)
    | refine AWP.block ?_
    | refine AWP.cond rfl (fun c => ?_) (fun c => ?_) <;> first | exact Bool.noConfusion c | (try simp only [dD] at c)
    | refine AWP.skip ?_
    | (refine AWP.exit ?_; simp only [go_sem, hnp, hset])
    | (refine AGet.haveM (by assumption) ?_; (try simp only [go_sem, hnp, hset]))
    | (refine AGet.have' (by assumption) ?_; (try simp only [go_sem, hnp, hset]))
    | ((first | refine AGet.nth ?_ (fun b hb => ?_) | refine AGet.nth1 ?_ (fun b hb => ?_) | with_reducible refine And.intro ?_ ?_); (focus (first | omega | assumption | exact List.length_pos_iff.2 (by assumption) | (simp only [List.length_append, List.length_cons, List.length_nil, List.length_map, List.length_take, List.length_drop] at *; omega) | (rw [wrap64_id (by omega) (by omega)]; omega) | (simp; done) | (simp [spare_len]; done) | (exact ⟨by omega, by omega⟩))); (try simp only [hb, go_sem, hnp, hset]))
    | exact rfl
    | refine And.intro (a := ACall _ _ _ _ _ _ _ _) ?_ ?_
    | refine And.intro (a := AGet _ _) ?_ ?_
    | refine And.intro (a := AGuard _ _ _ _ _ _ _) ?_ ?_
    | (
        refine AWP.ret ?_
        (try simp only [inb_ret, athen_ret])
        (try rw [List.set_set])
        exact hB0 _ rfl)
    | refine AWP.fin (by assumption) ?_
    | fail)


end Go.Proofs.YtajeeghgiilhiaaGreat
end
section
set_option linter.unusedVariables false
set_option linter.unusedSimpArgs false
namespace Go.Proofs.YtajeeghgiilhiaaGreat
open Go Go.Abs Go.RowKit Go.Bk
theorem cl_exv (x : Ex) : ∀ z ∈ (exV x).leaves, z.clean1 = some z := by
  intro z hz
  simp only [AV.leaves, List.mem_cons, List.not_mem_nil, or_false] at hz
  rcases hz with rfl | rfl | rfl | rfl | rfl | rfl | rfl | rfl | rfl | rfl <;> rfl

set_option maxHeartbeats 4000000 in
set_option maxRecDepth 8000 in
theorem sent1_c (o : Od) (x : Ex) : ACalls E 155 [odV o, .rptr [str x.id, str x.ref, str x.ord, str x.acc, str x.sym, i64 x.kind, bl x.buy, i64 x.qty, i64 x.price, i64 x.time]] (fun r t => r = bl (fitsO x o) ∧ t = []) := by -- checkroll/gate.sent$1
  refine ACalls.of_awp (n := 54) (rs := [.tmp 3]) Tryz.func155 rfl Tryz.ntmps155 rfl ?_
  repeat' (first
    | refine AWP.seqk fun K hK => ?_
    | (refine AWP.region ?_; simp only [go_sem])
    | (refine hK _ ?_; clear hK K)
    | refine AWP.block ?_
    | refine AWP.cond rfl (fun c => ?_) (fun c => ?_) <;> first | exact Bool.noConfusion c | (try simp only [dD] at c)
    | refine AWP.skip ?_
    | (refine AWP.exit ?_; simp only [go_sem])
    | (refine AGuard.splitN (fun h => ?_) (fun h => ?_) <;> simp only [h, go_sem] <;> (try simp only [dD] at h))
    | (refine AGuard.split (fun h => ?_) (fun h => ?_) <;> simp only [h, go_sem] <;> (try simp only [dD] at h))
    | (refine AGet.haveM (by assumption) ?_; (try simp only [go_sem]))
    | (refine AGet.have' (by assumption) ?_; (try simp only [go_sem]))
    | ((first | refine AGet.nth ?_ (fun b hb => ?_) | refine AGet.nth1 ?_ (fun b hb => ?_) | with_reducible refine And.intro ?_ ?_); (focus (first | omega | assumption | exact List.length_pos_iff.2 (by assumption) | (simp only [List.length_append, List.length_cons, List.length_nil, List.length_map, List.length_take, List.length_drop] at *; omega) | (rw [wrap64_id (by omega) (by omega)]; omega) | (simp; done) | (simp [spare_len]; done) | (exact ⟨by omega, by omega⟩))); (try simp only [hb, go_sem]))
    | (
        refine AWP.ret ?_
        refine AEnd.is ?_; simp only [go_sem, out_v, out_s, out_n, v_int, v_bool, v_str] <;> (simp [fitsO, *]; done))
    | refine AWP.fin (by assumption) ?_
    | fail)

set_option maxHeartbeats 4000000 in
set_option maxRecDepth 8000 in
theorem oidxs_c (l : List Od) (x : Ex) (hl : l.length ≤ 9223372036854775807) : ACalls E 154 [odsV l, .fn 155 [.rptr [str x.id, str x.ref, str x.ord, str x.acc, str x.sym, i64 x.kind, bl x.buy, i64 x.qty, i64 x.price, i64 x.time]]] (fun r t => r = i64 (idxP (fun o : Od => fitsO x o) l) ∧ t = []) := by -- #oidxs
  refine ACalls.of_awp (n := 19) (rs := [.tmp 4]) Tryz.func154 rfl Tryz.ntmps154 rfl ?_
  repeat' (first
    | refine AWP.seqk fun K hK => ?_
    | (refine AWP.region ?_; simp only [go_sem])
    | (refine hK _ ?_; clear hK K)
    | refine AWP.block ?_
    | refine AWP.cond rfl (fun c => ?_) (fun c => ?_) <;> first | exact Bool.noConfusion c | (try simp only [dD] at c)
    | refine AWP.skip ?_
    | (refine AWP.exit ?_; simp only [go_sem])
    | (refine ACall.one (sent1_c _ _) (by kernel_rfl) rfl ?_; simp only [go_sem])
    | (refine AGet.haveM (by assumption) ?_; (try simp only [go_sem]))
    | (refine AGet.have' (by assumption) ?_; (try simp only [go_sem]))
    | ((first | refine AGet.nth ?_ (fun b hb => ?_) | refine AGet.nth1 ?_ (fun b hb => ?_) | with_reducible refine And.intro ?_ ?_); (focus (first | omega | assumption | exact List.length_pos_iff.2 (by assumption) | (simp only [List.length_append, List.length_cons, List.length_nil, List.length_map, List.length_take, List.length_drop] at *; omega) | (rw [wrap64_id (by omega) (by omega)]; omega) | (simp; done) | (simp [spare_len]; done) | (exact ⟨by omega, by omega⟩))); (try simp only [hb, go_sem]))
    | (
        refine AWP.here 2 9 1 rfl ?_
        refine AWP.loopN (ι := Nat) [4, 5, 9, 10, 11, 12, 13, 14, 15, 16, 17, 18] (fun (i : Nat) => [(8, i64 i)]) (fun (i : Nat) => i ≤ l.length ∧ (l.take i).all (fun o : Od => !(fitsO x o)) = true) (fun (i : Nat) => l.length - i) (0) ?_ ?_ ?_
        · (try simp only [go_sem]); (repeat' (first | refine And.intro ?_ ?_ | exact .inl rfl | exact .inr rfl | exact .inr ⟨rfl, rfl⟩ | trivial | exact .inr (oblA rfl) | exact .inr ⟨rfl, oblA rfl⟩ | exact .inr bel_strs | exact .inr ⟨rfl, bel_strs⟩ | exact .inr ⟨by simp, bel_strs⟩ | (simp; done) | exact .inr ⟨rfl, by simp⟩ | exact .inr ⟨by simp, by simp⟩)); done
        · exact ⟨by omega, by simp⟩
        rintro i ⟨h1, h2⟩
        simp only [go_sem])
    | (
        refine ⟨i + 1, ?_, ?_, ?_⟩
        · (try simp only [go_sem]); (try rw [wrap64_id (by omega) (by omega)]); (repeat' (first | refine And.intro ?_ ?_ | exact .inl rfl | exact .inr rfl | exact .inr ⟨rfl, rfl⟩ | trivial | exact .inr (oblA rfl) | exact .inr ⟨rfl, oblA rfl⟩ | exact .inr bel_strs | exact .inr ⟨rfl, bel_strs⟩ | exact .inr ⟨by simp, bel_strs⟩ | (simp; done) | exact .inr ⟨rfl, by simp⟩ | exact .inr ⟨by simp, by simp⟩)); done
        · exact ⟨by omega, all_next hb h2 (by simp_all)⟩
        · (try simp only []); omega)
    | (
        refine AWP.ret ?_
        refine AEnd.is ?_; simp only [go_sem, out_v, out_s, out_n, v_int, v_bool, v_str] <;> (first | (rw [idxP_of hb (by simp_all) h2]; done) | (rw [idxP_none (by omega) h2]; done) | skip))
    | refine AWP.fin (by assumption) ?_
    | fail)

set_option maxHeartbeats 4000000 in
set_option maxRecDepth 8000 in
theorem gsent_c (l : List Od) (x : Ex) (hl : l.length ≤ 9223372036854775807) : ACalls E 82 [odsV l, exV x] (fun r t => r = i64 (idxP (fun o : Od => fitsO x o) l) ∧ t = []) := by -- checkroll/gate.sent
  refine ACalls.of_awp (n := 8) (rs := [.tmp 4]) Tryz.func82 rfl Tryz.ntmps82 rfl ?_
  repeat' (first
    | refine AWP.seqk fun K hK => ?_
    | (refine AWP.region ?_; simp only [go_sem])
    | (refine hK _ ?_; clear hK K)
    | refine AWP.block ?_
    | refine AWP.cond rfl (fun c => ?_) (fun c => ?_) <;> first | exact Bool.noConfusion c | (try simp only [dD] at c)
    | refine AWP.skip ?_
    | (refine AWP.exit ?_; simp only [go_sem])
    | (refine ACall.snapOne (oidxs_c l x hl) (by kernel_rfl) rfl (.cons (.one (.clean rfl)) (.cons (.fn (.cons (.ptr (e := exV x) rfl (cl_exv x)) .nil)) .nil)) ?_; simp only [go_sem])
    | (refine AGet.haveM (by assumption) ?_; (try simp only [go_sem]))
    | (refine AGet.have' (by assumption) ?_; (try simp only [go_sem]))
    | ((first | refine AGet.nth ?_ (fun b hb => ?_) | refine AGet.nth1 ?_ (fun b hb => ?_) | with_reducible refine And.intro ?_ ?_); (focus (first | omega | assumption | exact List.length_pos_iff.2 (by assumption) | (simp only [List.length_append, List.length_cons, List.length_nil, List.length_map, List.length_take, List.length_drop] at *; omega) | (rw [wrap64_id (by omega) (by omega)]; omega) | (simp; done) | (simp [spare_len]; done) | (exact ⟨by omega, by omega⟩))); (try simp only [hb, go_sem]))
    | (
        refine AWP.ret ?_
        refine AEnd.is ?_; simp only [go_sem, out_v, out_s, out_n, v_int, v_bool, v_str] <;> rfl)
    | refine AWP.fin (by assumption) ?_
    | fail)


end Go.Proofs.YtajeeghgiilhiaaGreat
end
section
/- A row of one's own that an element of another own row names is written no more. -/
set_option linter.unusedVariables false
set_option linter.unusedSimpArgs false
namespace Go.Abs
open Go Go.RowKit
theorem AWP.publishAt {E : Env} {c : Code} {Q : Exit → St → Prop} {s : St} (id idx j : Nat) {jd k n cap : Nat} {rs cs : List AV} (es : List AV) (hne : jd ≠ id) (ho : s.own[id]? = some (some rs)) (he : rs[idx]? = some (.agg cs)) (hx : cs[j]? = some (.mu jd k 0 n cap)) (ho2 : s.own[jd]? = some (some es)) (hn : n ≤ es.length) (hc : ∀ e ∈ es.take n, ∀ x ∈ e.leaves, x.clean1 = some x)
    (hw : AWP E c Q { s with own := (s.own.set jd none).set id (some (rs.set idx (.agg (cs.set j (.sl none k (es.take n)))))) }) : AWP E c Q s := by
  intro w0 im0 cx a w h0 hG r
  have hlen : (es.take n).length = n := by rw [List.length_take]; omega
  have key : ∃ c', cx.le c' ∧ Rel w0 im0 c' { s with own := s.own.set jd none } a w ∧ ∀ v, VR c' (.mu jd k 0 n cap) v → VR c' (.sl none k (es.take n)) v := by
    cases hb : cx.β[jd]? with
    | none => exact ⟨cx, .refl _, r.dropOwn jd, fun v hv => by
        rcases hv.inv_mu with ⟨g, hb', _, _⟩ | ⟨rfl, rfl, rfl⟩
        · rw [hb] at hb'; simp at hb'
        · rw [List.take_zero]; exact .base (.sl0 k none 0)⟩
    | some p =>
      cases p with
      | none => exact ⟨cx, .refl _, r.dropOwn jd, fun v hv => by
          rcases hv.inv_mu with ⟨g, hb', _, _⟩ | ⟨rfl, rfl, rfl⟩
          · rw [hb] at hb'; simp at hb'
          · rw [List.take_zero]; exact .base (.sl0 k none 0)⟩
      | some p =>
        obtain ⟨g, k'⟩ := p
        obtain ⟨c', hle, hβ, _, _, r', cv, hl, hm, h1, hvr⟩ := r.publish (n := n) hb ho2 rfl hc
        refine ⟨c', hle, r', fun v hv => ?_⟩
        rcases hv.inv_mu with ⟨g', hb', hcap, rfl⟩ | ⟨rfl, rfl, rfl⟩
        · rw [hβ, hb] at hb'
          simp only [Option.some.injEq, Prod.mk.injEq] at hb'
          obtain ⟨rfl, rfl⟩ := hb'
          have := VR0.sl (im := c'.im) k' (es.take n) g 0 cap cv (by omega) hl (fun i e j x he hj => by rw [Nat.zero_add]; exact hm i e j x he hj) h1 hvr
          rw [hlen] at this
          rw [Nat.zero_mul]; exact .base this
        · rw [List.take_zero]; exact .base (.sl0 k none 0)
  obtain ⟨c', hle, r', hv⟩ := key
  -- the leaf's value was told in the old context
  have hown : (s.own.set jd none)[id]? = some (some rs) := by rw [List.getElem?_set_ne hne]; exact ho
  have r2 := r'.setLeafAt (y := .sl none k (es.take n)) hown he hx (by simp) hv
  exact hw w0 im0 c' a w h0 hG r2
end Go.Abs
end
section
/- A region that draws its order and holds calls by reference and stores. -/
set_option linter.unusedVariables false
set_option linter.unusedSimpArgs false
namespace Go.Abs
open Go Go.RowKit
section
variable {E : Env} {ops : Array Oper} {anc : List (List Nat)} {cs : List Nat} {ow : Nat → List (Option (List AV))} {vals : List AV} {st : St}
end
end Go.Abs
end
section
set_option linter.unusedVariables false
set_option linter.unusedSimpArgs false
namespace Go.Proofs.YtajeeghgiilhiaaGreat
open Go Go.Abs Go.RowKit Go.Bk
theorem told_same {g : Gt} {k : Nat} {x : Ex} {v : Vn} {nb : Bk} {kk : Int} (h : isAtB g (k : Int) = true) (hx : g.venues[k]? = some v) (hc : comeF v.book x = (nb, kk)) (hk : kk = 2 ∨ kk = 4) : toldG g (k : Int) x = (g, kk, 0) := by
  rw [told_at h hx, hc, if_pos hk]
theorem told_arg {g : Gt} {k : Nat} {x : Ex} {v : Vn} {nb : Bk} {kk : Int} (h : isAtB g (k : Int) = true) (hx : g.venues[k]? = some v) (hc : comeF v.book x = (nb, kk)) (hk : ¬ (kk = 2 ∨ kk = 4) ∧ ¬ (kk = 1 ∨ kk = 3)) : toldG g (k : Int) x = (g, 0, 1) := by
  rw [told_at h hx, hc, if_neg hk.1, if_neg hk.2]
abbrev vnI (v : Vn) : AV := .agg [odsV v.book.orders, dnsV v.book.fills, .sl (some 0) 1 (v.book.ids.map str), i64 v.book.clock, i64 v.book.bad, odsV v.sent, i64 v.last, bl v.gap]
theorem bel_vni {no nt m k : Nat} {l : List Vn} {v : Vn} (h : 0 < nt) : ∀ es, some ((l.map vnV ++ spare 8 m).set k (vnI v)) = some es → ∀ e ∈ es, ∀ z ∈ e.leaves, z.bel no nt = true := by
  intro es he e hm z hz
  simp only [Option.some.injEq] at he
  subst he
  rcases List.mem_or_eq_of_mem_set hm with hm | rfl
  · exact bel_vns (no := no) (nt := nt) (m := m) (l := l) _ rfl e hm z hz
  · simp only [AV.leaves, List.mem_cons, List.not_mem_nil, or_false] at hz
    rcases hz with rfl | rfl | rfl | rfl | rfl | rfl | rfl | rfl <;> first | rfl | exact decide_eq_true h
theorem idx_sn {l : List Od} {x : Ex} (h : sentF l x = none) : idxP (fitsO x) l = -1 := by
  unfold sentF at h; unfold idxP; rw [h]
theorem idx_sp {l : List Od} {x : Ex} {p : Nat} (h : sentF l x = some p) : idxP (fitsO x) l = (p : Int) := by
  unfold sentF at h; unfold idxP; rw [h]
theorem opens_t {x : Ex} (h : x.kind = 1 ∨ x.kind = 4) : opensX x = true := by unfold opensX; rcases h with h | h <;> rw [h] <;> rfl
theorem told_bad {g : Gt} {k : Nat} {x : Ex} {v : Vn} {nb : Bk} {kk : Int} (h : isAtB g (k : Int) = true) (hx : g.venues[k]? = some v) (hc : comeF v.book x = (nb, kk)) (hk : kk = 1 ∨ kk = 3) (ho : x.kind = 1 ∨ x.kind = 4) (hs : sentF v.sent x = none) : toldG g (k : Int) x = (withG g k (badV v x), 3, 0) := by
  rw [told_at h hx, hc, if_neg (by simp only; omega), if_pos hk]
  simp only [toldV, opens_t ho, if_true, hs]
theorem row_bad {l : List Vn} {k m : Nat} {w : Vn} {x : Ex} {a b c : AV} (h : k < l.length) : (((((l.map vnV ++ spare 8 m).set k a).set k b).set k c).set k (.agg [odsV w.book.orders, dnsV w.book.fills, .sl none 1 (w.book.ids.map str ++ [str x.id]), i64 w.book.clock, i64 2, odsV w.sent, i64 w.last, bl w.gap])) = (l.set k (badV w x)).map vnV ++ spare 8 m := by
  rw [List.set_set, List.set_set, List.set_set, ← row_put (v := badV w x) h]
  congr 1
  simp [badV]
theorem idx_spo {l : List Od} {x : Ex} {p : Nat} (h : (x.kind = 1 ∨ x.kind = 4) → sentF l x = some p) : (x.kind = 1 ∨ x.kind = 4) → idxP (fitsO x) l = (p : Int) := fun q => idx_sp (h q)
theorem told_c3 {g : Gt} {k : Nat} {x : Ex} {v : Vn} {nb : Bk} {p : Nat} (h : isAtB g (k : Int) = true) (hx : g.venues[k]? = some v) (hc : comeF v.book x = (nb, 3)) (hs : (x.kind = 1 ∨ x.kind = 4) → sentF v.sent x = some p) : toldG g (k : Int) x = (withG g k ⟨nb, v.sent, v.last, v.gap⟩, 3, 0) := by
  rw [told_at h hx, hc, if_neg (by simp), if_pos (by simp)]
  simp only [toldV]
  by_cases ho : x.kind = 1 ∨ x.kind = 4
  · simp only [opens_t ho, if_true, hs ho]; rfl
  · have : opensX x = false := by unfold opensX; simp only [not_or] at ho; simp [ho]
    simp only [this]; rfl
theorem told_c1 {g : Gt} {k : Nat} {x : Ex} {v : Vn} {nb : Bk} (h : isAtB g (k : Int) = true) (hx : g.venues[k]? = some v) (hc : comeF v.book x = (nb, 1)) (ho : ¬ (x.kind = 1 ∨ x.kind = 4)) : toldG g (k : Int) x = (withG g k ⟨nb, v.sent, g.now, v.gap⟩, 1, 0) := by
  rw [told_at h hx, hc, if_neg (by simp), if_pos (by simp)]
  have : opensX x = false := by unfold opensX; simp only [not_or] at ho; simp [ho]
  simp only [toldV, this]; rfl
abbrev vnU (v : Vn) (m2 : Nat) : AV := .agg [odsV v.book.orders, dnsV v.book.fills, .sl none 1 (v.book.ids.map str), i64 v.book.clock, i64 v.book.bad, .mu 6 8 0 v.sent.length (v.sent.length + m2), i64 v.last, bl v.gap]
theorem bel_vnu {no nt m m2 k : Nat} {l : List Vn} {v : Vn} (h2 : 6 < no) : ∀ es, some ((l.map vnV ++ spare 8 m).set k (vnU v m2)) = some es → ∀ e ∈ es, ∀ z ∈ e.leaves, z.bel no nt = true := by
  intro es he e hm z hz
  simp only [Option.some.injEq] at he
  subst he
  rcases List.mem_or_eq_of_mem_set hm with hm | rfl
  · exact bel_vns (no := no) (nt := nt) (m := m) (l := l) _ rfl e hm z hz
  · simp only [AV.leaves, List.mem_cons, List.not_mem_nil, or_false] at hz
    rcases hz with rfl | rfl | rfl | rfl | rfl | rfl | rfl | rfl <;> first | rfl | exact decide_eq_true h2
theorem bel_odr {no nt m : Nat} {l : List Od} : ∀ es, some (l.map odV ++ spare 8 m) = some es → ∀ e ∈ es, ∀ z ∈ e.leaves, z.bel no nt = true := bel_row fun x z hz => by
  simp only [AV.leaves, List.mem_cons, List.not_mem_nil, or_false] at hz
  rcases hz with rfl | rfl | rfl | rfl | rfl | rfl | rfl | rfl <;> rfl
theorem od_takeD {l : List Od} {p m : Nat} (h : p < l.length) : ((l.eraseIdx p).map odV ++ spare 8 m).take (l.length - 1) = (l.eraseIdx p).map odV := List.take_left' (by rw [List.length_map, List.length_eraseIdx_of_lt h])
theorem sn_lt {l : List Od} {x : Ex} {p : Nat} (h : sentF l x = some p) : p < l.length := by
  unfold sentF at h
  obtain ⟨h1, _⟩ := List.findIdx?_eq_some_iff_findIdx_eq.1 h
  exact h1
theorem told_d {g : Gt} {k : Nat} {x : Ex} {v : Vn} {nb : Bk} {p : Nat} (h : isAtB g (k : Int) = true) (hx : g.venues[k]? = some v) (hc : comeF v.book x = (nb, 1)) (ho : x.kind = 1 ∨ x.kind = 4) (hs : sentF v.sent x = some p) : toldG g (k : Int) x = (withG g k ⟨nb, v.sent.eraseIdx p, g.now, v.gap⟩, 1, 0) := by
  rw [told_at h hx, hc, if_neg (by simp), if_pos (by simp)]
  simp only [toldV, opens_t ho, if_true, hs]
theorem row_told {l : List Vn} {k m p : Nat} {w : Vn} {nb : Bk} {now : Int} {a b c d : AV} (h : k < l.length) : ((((((l.map vnV ++ spare 8 m).set k a).set k b).set k c).set k d).set k (.agg [odsV nb.orders, dnsV nb.fills, .sl none 1 (nb.ids.map str), i64 nb.clock, i64 nb.bad, .sl none 8 ((w.sent.eraseIdx p).map odV), i64 now, bl w.gap])) = (l.set k ⟨nb, w.sent.eraseIdx p, now, w.gap⟩).map vnV ++ spare 8 m := by
  rw [List.set_set, List.set_set, List.set_set, List.set_set, ← row_put (v := ⟨nb, w.sent.eraseIdx p, now, w.gap⟩) h]

set_option maxHeartbeats 4000000 in
set_option maxRecDepth 8000 in
theorem gtold_n (g : Gt) (n : Int) (x : Ex) (hg : GtSm g) (ha : isAtB g n = false) : ACalls E 30 [gtV g, i64 n, exV x] (fun r t => r = .tup [gtV g, i64 0, i64 1] ∧ t = []) := by -- #toldn
  have hgi := hg.fit
  refine ACalls.of_awp (n := 104) (rs := [.cell 6 58, .tmp 7, .tmp 8]) Tryz.func30 rfl Tryz.ntmps30 rfl ?_
  repeat' (first
    | refine AWP.seqk fun K hK => ?_
    | (refine AWP.region ?_; simp only [go_sem, ha])
    | (refine AWP.here 5 26 12 rfl ?_; refine AWP.regionO [0, 1, 2, 3, 4, 9, 5, 6, 7, 8, 10, 11] [11] (by kernel_rfl) (by kernel_rfl) rfl ?_; simp only [go_sem, ha])
    | (refine AWP.here 15 52 7 rfl ?_; refine AWP.regionO [0, 1, 2, 3, 4, 5, 6] [] (by kernel_rfl) (by kernel_rfl) rfl ?_; simp only [go_sem, ha])
    | (refine AWP.here 17 60 14 rfl ?_; refine AWP.regionAnyT (.take 0 (.take 1 (.take 2 (.take 3 (.take 4 (.take 5 (.take 6 (.take 7 (.take 8 (.take 9 (.take 10 (.take 11 (.take 12 (.take 13 .done)))))))))))))) [[], [], [1], [1, 2], [1, 2, 3], [1, 2, 3, 4], [], [6], [6, 7], [1, 2, 3, 4, 5, 6, 7, 8], [0, 1, 2, 3, 4, 5, 6, 7, 8, 9], [0, 1, 2, 3, 4, 5, 6, 7, 8, 9, 10], [0, 1, 2, 3, 4, 5, 6, 7, 8, 9, 10, 11], [0, 1, 2, 3, 4, 5, 6, 7, 8, 9, 10, 11, 12]] [] (by kernel_rfl) (by kernel_rfl) ?_; simp only [go_sem, ha])
    | (refine hK _ ?_; clear hK K)
    | refine AWP.block ?_
    | refine AWP.cond rfl (fun c => ?_) (fun c => ?_) <;> first | exact Bool.noConfusion c | (try simp only [dD] at c)
    | refine AWP.skip ?_
    | (refine AWP.exit ?_; simp only [go_sem, ha])
    | (refine ACall.one (gclone_p g hg) (by kernel_rfl) rfl ?_; simp only [go_sem, ha])
    | (refine ACall.one (gisat_c g n hgi) (by kernel_rfl) rfl ?_; simp only [go_sem, ha])
    | (refine ACall.one (gsent_c _ _ (by first | assumption | omega | (simp only [List.length_take]; omega))) (by kernel_rfl) rfl ?_; simp only [go_sem, ha])
    | (refine ACall.one (del_call ) (by kernel_rfl) rfl ?_; simp only [go_sem, ha])
    | (refine AGuard.splitN (fun h => ?_) (fun h => ?_) <;> simp only [h, go_sem, ha] <;> (try simp only [dD] at h))
    | (refine AGuard.split (fun h => ?_) (fun h => ?_) <;> simp only [h, go_sem, ha] <;> (try simp only [dD] at h))
    | (refine AGet.haveM (by assumption) ?_; (try simp only [go_sem, ha]))
    | (refine AGet.have' (by assumption) ?_; (try simp only [go_sem, ha]))
    | ((first | refine AGet.nth ?_ (fun b hb => ?_) | refine AGet.nth1 ?_ (fun b hb => ?_) | with_reducible refine And.intro ?_ ?_); (focus (first | omega | assumption | exact List.length_pos_iff.2 (by assumption) | (simp only [List.length_append, List.length_cons, List.length_nil, List.length_map, List.length_take, List.length_drop] at *; omega) | (rw [wrap64_id (by omega) (by omega)]; omega) | (simp; done) | (simp [spare_len]; done) | (exact ⟨by omega, by omega⟩))); (try simp only [hb, go_sem, ha]))
    | exact rfl
    | refine And.intro (a := ACall _ _ _ _ _ _ _ _) ?_ ?_
    | refine And.intro (a := AGet _ _) ?_ ?_
    | refine And.intro (a := AGuard _ _ _ _ _ _ _) ?_ ?_
    | (
        refine AWP.ret ?_
        refine AEnd.is ?_; simp only [go_sem, out_v, out_s, out_n, v_int, v_bool, v_str] <;> (first | (simp; done) | skip))
    | (exfalso; simp_all; done)
    | refine AWP.fin (by assumption) ?_
    | fail)

set_option maxHeartbeats 4000000 in
set_option maxRecDepth 8000 in
theorem gtold_0 (g : Gt) (k : Nat) (w : Vn) (x : Ex) (hg : GtSm g) (hx0 : g.venues[k]? = some w) (ha : isAtB g (k : Int) = true) (nb : Bk) (kk : Int) (hcf : comeF w.book x = (nb, kk)) (hkk : ¬ kk = 1 ∧ ¬ kk = 3) : ACalls E 30 [gtV g, i64 (k : Int), exV x] (fun r t => r = .tup [gtV (toldG g (k : Int) x).1, i64 (toldG g (k : Int) x).2.1, i64 (toldG g (k : Int) x).2.2] ∧ t = []) := by -- #told0
  have hgi := hg.fit
  have hg1 := hg.1
  have hg2 := hg.2.1
  have hkn := get_lt hx0
  have hw0 := hg.2.2 w (List.mem_of_getElem? hx0)
  have hil := hw0.2.2.1
  have hgk : (g.venues.map vnV)[k]? = some (vnV w) := by rw [List.getElem?_map, hx0]; rfl
  refine ACalls.of_awp (n := 104) (rs := [.cell 6 58, .tmp 7, .tmp 8]) Tryz.func30 rfl Tryz.ntmps30 rfl ?_
  repeat' (first
    | refine AWP.seqk fun K hK => ?_
    | (refine AWP.region ?_; simp only [go_sem, ha, hgk])
    | (refine AWP.here 5 26 12 rfl ?_; refine AWP.regionO [0, 1, 2, 3, 4, 9, 5, 6, 7, 8, 10, 11] [11] (by kernel_rfl) (by kernel_rfl) rfl ?_; simp only [go_sem, ha, hgk])
    | (refine AWP.here 15 52 7 rfl ?_; refine AWP.regionO [0, 1, 2, 3, 4, 5, 6] [] (by kernel_rfl) (by kernel_rfl) rfl ?_; simp only [go_sem, ha, hgk])
    | (refine AWP.here 17 60 14 rfl ?_; refine AWP.regionAnyT (.take 0 (.take 1 (.take 2 (.take 3 (.take 4 (.take 5 (.take 6 (.take 7 (.take 8 (.take 9 (.take 10 (.take 11 (.take 12 (.take 13 .done)))))))))))))) [[], [], [1], [1, 2], [1, 2, 3], [1, 2, 3, 4], [], [6], [6, 7], [1, 2, 3, 4, 5, 6, 7, 8], [0, 1, 2, 3, 4, 5, 6, 7, 8, 9], [0, 1, 2, 3, 4, 5, 6, 7, 8, 9, 10], [0, 1, 2, 3, 4, 5, 6, 7, 8, 9, 10, 11], [0, 1, 2, 3, 4, 5, 6, 7, 8, 9, 10, 11, 12]] [] (by kernel_rfl) (by kernel_rfl) ?_; simp only [go_sem, ha, hgk])
    | (refine hK _ ?_; clear hK K)
    | refine AWP.block ?_
    | refine AWP.cond rfl (fun c => ?_) (fun c => ?_) <;> first | exact Bool.noConfusion c | (try simp only [dD] at c)
    | refine AWP.skip ?_
    | (refine AWP.exit ?_; simp only [go_sem, ha, hgk])
    | (refine ACall.one (gclone_p g hg) (by kernel_rfl) rfl ?_; simp only [go_sem, ha, hgk])
    | (refine ACall.one (gisat_c g (k : Int) hgi) (by kernel_rfl) rfl ?_; simp only [go_sem, ha, hgk])
    | (refine ACall.one (come_c w.book x hw0.1 hw0.2.1 hw0.2.2.1) (by kernel_rfl) rfl ?_; simp only [hcf]; simp only [go_sem, ha, hgk])
    | (refine ACall.one (gsent_c _ _ (by first | assumption | omega | (simp only [List.length_take]; omega))) (by kernel_rfl) rfl ?_; simp only [go_sem, ha, hgk])
    | (refine ACall.one (del_call ) (by kernel_rfl) rfl ?_; simp only [go_sem, ha, hgk])
    | (refine AGuard.splitN (fun h => ?_) (fun h => ?_) <;> simp only [h, go_sem, ha, hgk] <;> (try simp only [dD] at h))
    | (refine AGuard.split (fun h => ?_) (fun h => ?_) <;> simp only [h, go_sem, ha, hgk] <;> (try simp only [dD] at h))
    | (refine AGet.haveM (by assumption) ?_; (try simp only [go_sem, ha, hgk]))
    | (refine AGet.have' (by assumption) ?_; (try simp only [go_sem, ha, hgk]))
    | ((first | refine AGet.nth ?_ (fun b hb => ?_) | refine AGet.nth1 ?_ (fun b hb => ?_) | with_reducible refine And.intro ?_ ?_); (focus (first | omega | assumption | exact List.length_pos_iff.2 (by assumption) | (simp only [List.length_append, List.length_cons, List.length_nil, List.length_map, List.length_take, List.length_drop] at *; omega) | (rw [wrap64_id (by omega) (by omega)]; omega) | (simp; done) | (simp [spare_len]; done) | (exact ⟨by omega, by omega⟩))); (try simp only [hb, go_sem, ha, hgk]))
    | exact rfl
    | refine And.intro (a := ACall _ _ _ _ _ _ _ _) ?_ ?_
    | refine And.intro (a := AGet _ _) ?_ ?_
    | refine And.intro (a := AGuard _ _ _ _ _ _ _) ?_ ?_
    | (
        refine AWP.ret ?_
        refine AEnd.is ?_; simp only [go_sem, out_v, out_s, out_n, v_int, v_bool, v_str] <;> (first | (rw [told_same ha hx0 hcf (by omega)]; simp; done) | (rw [told_arg ha hx0 hcf (by omega)]; simp; done) | skip))
    | (exfalso; omega)
    | refine AWP.fin (by assumption) ?_
    | fail)


end Go.Proofs.YtajeeghgiilhiaaGreat
end
section
set_option linter.unusedVariables false
set_option linter.unusedSimpArgs false
namespace Go.Proofs.YtajeeghgiilhiaaGreat
open Go Go.Abs Go.RowKit Go.Bk

set_option maxHeartbeats 16000000 in
set_option maxRecDepth 8000 in
theorem gtold_b (g : Gt) (k : Nat) (w : Vn) (x : Ex) (hg : GtSm g) (hx0 : g.venues[k]? = some w) (ha : isAtB g (k : Int) = true) (nb : Bk) (kk : Int) (hcf : comeF w.book x = (nb, kk)) (hkk : kk = 1 ∨ kk = 3) (hop : x.kind = 1 ∨ x.kind = 4) (hsn : sentF w.sent x = none) : ACalls E 30 [gtV g, i64 (k : Int), exV x] (fun r t => r = .tup [gtV (toldG g (k : Int) x).1, i64 (toldG g (k : Int) x).2.1, i64 (toldG g (k : Int) x).2.2] ∧ t = []) := by -- #toldb
  have hgi := hg.fit
  have hg1 := hg.1
  have hg2 := hg.2.1
  have hkn := get_lt hx0
  have hw0 := hg.2.2 w (List.mem_of_getElem? hx0)
  have hil := hw0.2.2.1
  have hix := idx_sn hsn
  refine ACalls.of_awp (n := 104) (rs := [.cell 6 58, .tmp 7, .tmp 8]) Tryz.func30 rfl Tryz.ntmps30 rfl ?_
  repeat' (first
    | (
        refine AWP.cutTo hc1 ?_
        first
        | (refine AWP.renum [0, 1, 2, 3, 4, 6] (by decide) rfl rfl ?_; simp only [go_sem, vn_ren, List.length_map]; refine AWP.weaken ?_ (hc1 m); (try simp only [go_sem]); (repeat' (first | refine And.intro ?_ ?_ | exact .inl rfl | exact .inr rfl | exact .inr ⟨rfl, rfl⟩ | trivial | exact .inr (oblA rfl) | exact .inr ⟨rfl, oblA rfl⟩ | exact .inr bel_strs | exact .inr bel_vns | exact .inr ⟨rfl, bel_vns⟩ | exact .inr ⟨by simp, bel_vns⟩ | exact .inr ⟨rfl, bel_strs⟩ | exact .inr ⟨by simp, bel_strs⟩ | (simp; done) | exact .inr ⟨rfl, by simp⟩ | exact .inr ⟨by simp, by simp⟩)); done)
        | (have he : g.venues = [] := Classical.byContradiction fun hne => by
             have := hbb (by simpa using hne)
             simp_all
           refine AWP.nilOwn 3 0 8 _ rfl rfl ?_
           simp only [go_sem]
           refine AWP.weaken ?_ (hc1 0); (try simp only [go_sem, he, List.length_nil, List.map_nil, spare_zero]); (repeat' (first | refine And.intro ?_ ?_ | exact .inl rfl | exact .inr rfl | exact .inr ⟨rfl, rfl⟩ | trivial | exact .inr (oblA rfl) | exact .inr ⟨rfl, oblA rfl⟩ | exact .inr bel_strs | exact .inr bel_vns | exact .inr ⟨rfl, bel_vns⟩ | exact .inr ⟨by simp, bel_vns⟩ | exact .inr ⟨rfl, bel_strs⟩ | exact .inr ⟨by simp, bel_strs⟩ | (simp; done) | exact .inr ⟨rfl, by simp⟩ | exact .inr ⟨by simp, by simp⟩)); done))
    | refine AWP.seqk fun K hK => ?_
    | (
        refine AWP.here 1 5 5 rfl ?_
        first
        | (have h0 := hc1; clear h0; refine AWP.regionL ?_; refine AWPL.at 5 2 rfl ?_; simp only [go_sem])
        | ((fail_if_success (have h0 := hc1)); refine AWP.cutAt (ι := Nat) [5, 6, 7, 8] (fun (m : Nat) => []) (fun (m : Nat) => [some [.agg [vnsV g.venues, lmsV g.limits, bl g.kill, i64 g.now, i64 g.pat]], some [exV x], some [.agg [.nilS, .nilS, bl false, i64 0, i64 0]], some [.agg [.mu 5 8 0 g.venues.length (g.venues.length + m), lmsV g.limits, bl g.kill, i64 g.now, i64 g.pat]], some [.agg [.nilS, .nilS, bl false, i64 0, i64 0]], some (g.venues.map vnV ++ spare 8 m)]) (fun (m : Nat) => []) hK (fun m => ?_) (fun hc1 => ?_)))
    | (refine Cut.mk ?_; simp only [go_sem])
    | (
        refine AWP.here 4 21 5 rfl ?_
        have hxk : ((g.venues.map vnV ++ spare 8 m).set k (vnI w))[k]? = some (vnI w) := List.getElem?_set_self (by simp; omega)
        have hxk2 : ∀ z, (((g.venues.map vnV ++ spare 8 m).set k (vnI w)).set k z)[k]? = some z := fun z => List.getElem?_set_self (by simp; omega)
        refine AWP.region ?_; simp only [go_sem, ha])
    | (
        refine AWP.here 5 26 12 rfl ?_
        refine AWP.regionO [0, 1, 2, 3, 4, 9, 5, 6, 7, 8, 10, 11] [11] (by kernel_rfl) (by kernel_rfl) rfl ?_; simp only [go_sem, ha, hxk])
    | (
        refine AWP.here 15 52 7 rfl ?_
        refine AWP.regionO [0, 1, 2, 3, 4, 5, 6] [] (by kernel_rfl) (by kernel_rfl) rfl ?_; simp only [go_sem, ha, hxk])
    | (
        refine AWP.here 17 60 14 rfl ?_
        refine AWP.regionAnyT (.take 0 (.take 1 (.take 2 (.take 3 (.take 4 (.take 5 (.take 6 (.take 7 (.take 8 (.take 9 (.take 10 (.take 11 (.take 12 (.take 13 .done)))))))))))))) [[], [], [1], [1, 2], [1, 2, 3], [1, 2, 3, 4], [], [6], [6, 7], [1, 2, 3, 4, 5, 6, 7, 8], [0, 1, 2, 3, 4, 5, 6, 7, 8, 9], [0, 1, 2, 3, 4, 5, 6, 7, 8, 9, 10], [0, 1, 2, 3, 4, 5, 6, 7, 8, 9, 10, 11], [0, 1, 2, 3, 4, 5, 6, 7, 8, 9, 10, 11, 12]] [] (by kernel_rfl) (by kernel_rfl) ?_; simp only [go_sem, ha, hxk])
    | (
        refine AWP.here 18 73 5 rfl ?_
        refine AWP.region ?_; simp only [go_sem, ha, hxk2])
    | (
        refine AWP.here 19 77 4 rfl ?_
        refine AWP.forgetAt 5 k 2 rfl (List.getElem?_set_self (by simp; omega)) rfl ?_
        simp only [go_sem, ha]
        rw [row_bad hkn]
        refine AWP.publishLeaf 6 0 (jd := 5) (k := 8) (n := g.venues.length) (cap := g.venues.length + m) _ ((g.venues.set k (badV w x)).map vnV ++ spare 8 m) (by decide) rfl rfl rfl (by simp [spare_len]) (by rw [vn_takeS]; exact cl_vn _) ?_
        rw [vn_takeS]
        simp only [go_sem, ha]
        refine AWP.region ?_; simp only [go_sem, ha])
    | (
        refine AWP.here 5 15 5 rfl ?_
        obtain ⟨v, hx⟩ : ∃ v, g.venues[i]? = some v := ⟨_, List.getElem?_eq_getElem (by omega)⟩
        have hv := hg.2.2 v (List.mem_of_getElem? hx)
        have hx2 : (g.venues.map vnV ++ spare 8 m)[i]? = some (vnV v) := by rw [List.getElem?_append_left (by simpa using get_lt hx), List.getElem?_map, hx]; rfl
        have hvw : i = k → v = w := fun e => by subst e; rw [hx] at hx0; exact Option.some.inj hx0
        (first | have hki := dec_f hbk | (have hki := dec_t hbk; have hx3 : ((g.venues.map vnV ++ spare 8 m).set k (vnI w))[i]? = some (vnV v) := (List.getElem?_set_ne (by omega)).trans hx2))
        refine AWP.region ?_; simp only [go_sem])
    | (
        refine AWP.here 7 29 11 rfl ?_
        (first | rw [row_same hx] | rw [row_same3 (by omega) hx] | skip)
        refine AWP.region ?_; simp only [go_sem])
    | (
        refine AWP.here 10 57 2 rfl ?_
        (first | rw [row_same hx] | rw [row_same3 (by omega) hx] | skip)
        (try rw [List.set_set])
        (try (obtain rfl := hvw hik1; subst hik1))
        refine AWP.region ?_; simp only [go_sem])
    | (
        refine AWP.here 8 39 11 rfl ?_
        (first | rw [row_same hx] | rw [row_same3 (by omega) hx] | skip)
        rcases Nat.decEq i k with hik0 | hik1 <;> (first | (exfalso; omega) | (refine AWP.region ?_; simp only [go_sem])))
    | (
        refine AWP.here 9 49 9 rfl ?_
        first
        | (have h0 := hik1; clear h0
           have hx9 : ((g.venues.map vnV ++ spare 8 m).set i (.agg [odsV v.book.orders, dnsV v.book.fills, .sl (some 0) 1 (v.book.ids.map str), i64 v.book.clock, i64 v.book.bad, odsV v.sent, i64 v.last, bl v.gap]))[i]? = some (.agg [odsV v.book.orders, dnsV v.book.fills, .sl (some 0) 1 (v.book.ids.map str), i64 v.book.clock, i64 v.book.bad, odsV v.sent, i64 v.last, bl v.gap]) := List.getElem?_set_self (by simp; omega)
           refine AWP.region ?_; simp only [go_sem])
        | ((first | rw [row_same hx] | rw [row_same3 (by omega) hx] | skip); refine AWP.region ?_; simp only [go_sem]))
    | (
        refine AWP.here 11 58 5 rfl ?_
        (first | (exfalso; have hki := dec_f hbk; omega) | (have hki := dec_t hbk; refine AWP.region ?_; simp only [go_sem])))
    | (
        refine AWP.here 3 5 4 rfl ?_
        refine AWP.regionL ?_
        refine AWPL.mkMu ap55 ?_
        simp only [go_sem]
        refine AWPL.at 3 1 rfl ?_
        simp only [go_sem]
        refine AWPL.appMu sr55 ap55 rfl rfl rfl (by simp; omega) (by simp; omega) ?_
        intro m
        simp only [go_sem]
        refine AWPL.of ?_
        simp only [go_sem])
    | (refine AWP.here 1 14 4 rfl ?_; refine AWP.regionL ?_; refine AWPL.at 4 1 rfl ?_; simp only [go_sem, ha])
    | (refine AWP.here 1 5 5 rfl ?_; refine AWP.regionL ?_; refine AWPL.at 5 2 rfl ?_; simp only [go_sem])
    | (refine AWP.region ?_; simp only [go_sem, ha])
    | (refine AWP.here 5 26 12 rfl ?_; refine AWP.regionO [0, 1, 2, 3, 4, 9, 5, 6, 7, 8, 10, 11] [11] (by kernel_rfl) (by kernel_rfl) rfl ?_; simp only [go_sem, ha])
    | (refine AWP.here 15 52 7 rfl ?_; refine AWP.regionO [0, 1, 2, 3, 4, 5, 6] [] (by kernel_rfl) (by kernel_rfl) rfl ?_; simp only [go_sem, ha])
    | (refine AWP.here 17 60 14 rfl ?_; refine AWP.regionAnyT (.take 0 (.take 1 (.take 2 (.take 3 (.take 4 (.take 5 (.take 6 (.take 7 (.take 8 (.take 9 (.take 10 (.take 11 (.take 12 (.take 13 .done)))))))))))))) [[], [], [1], [1, 2], [1, 2, 3], [1, 2, 3, 4], [], [6], [6, 7], [1, 2, 3, 4, 5, 6, 7, 8], [0, 1, 2, 3, 4, 5, 6, 7, 8, 9], [0, 1, 2, 3, 4, 5, 6, 7, 8, 9, 10], [0, 1, 2, 3, 4, 5, 6, 7, 8, 9, 10, 11], [0, 1, 2, 3, 4, 5, 6, 7, 8, 9, 10, 11, 12]] [] (by kernel_rfl) (by kernel_rfl) ?_; simp only [go_sem, ha])
    | (refine hK _ ?_; clear hK K)
    | refine AWP.block ?_
    | refine AWP.cond rfl (fun c => ?_) (fun c => ?_) <;> first | exact Bool.noConfusion c | (try simp only [dD] at c)
    | refine AWP.skip ?_
    | (refine AWP.exit ?_; simp only [go_sem, ha])
    | (refine ACall.one (gisat_c g (k : Int) hgi) (by kernel_rfl) rfl ?_; simp only [go_sem, ha])
    | (refine ACall.one (come_c w.book x hw0.1 hw0.2.1 hw0.2.2.1) (by kernel_rfl) rfl ?_; simp only [hcf]; simp only [go_sem, ha])
    | (refine ACall.one (gsent_c w.sent x (by have := hw0.2.2.2; omega)) (by kernel_rfl) rfl ?_; simp only [hix]; simp only [go_sem, ha])
    | (refine ACall.one (del_call ) (by kernel_rfl) rfl ?_; simp only [go_sem, ha])
    | (refine ACall.one (oclone_p v.book.orders hv.1) (by kernel_rfl) rfl ?_; simp only [go_sem])
    | (refine ACall.one (oclone_p v.sent hv.2.2.2) (by kernel_rfl) rfl ?_; simp only [go_sem])
    | (refine ACall.one (dclone_p v.book.fills hv.2.1) (by kernel_rfl) rfl ?_; simp only [go_sem])
    | (have h0 := hik1; clear h0; refine ACall.of (sclone_c v.book.ids hv.2.2.1) (by kernel_rfl) rfl ?_; rintro r t ⟨rfl, rfl⟩; simp only [go_sem])
    | (refine ACall.one (sclone_p v.book.ids hv.2.2.1) (by kernel_rfl) rfl ?_; simp only [go_sem])
    | (refine ACall.one (limclone_p g.limits hg2) (by kernel_rfl) rfl ?_; simp only [go_sem])
    | (refine AWPL.call (rs := [.cell 2 58]) Tryz.func76 rfl Tryz.ntmps76 rfl (by kernel_rfl) rfl rfl ?_; simp only [go_sem])
    | (refine AWPL.call (rs := [.tmp 2]) Tryz.func144 rfl Tryz.ntmps144 rfl (by kernel_rfl) rfl rfl ?_; simp only [go_sem])
    | (refine AGuard.splitN (fun h => ?_) (fun h => ?_) <;> simp only [h, go_sem, ha] <;> (try simp only [dD] at h))
    | (refine AGuard.split (fun h => ?_) (fun h => ?_) <;> simp only [h, go_sem, ha] <;> (try simp only [dD] at h))
    | (refine AGet.haveM (by assumption) ?_; (try simp only [go_sem, ha]))
    | (refine AGet.have' (by assumption) ?_; (try simp only [go_sem, ha]))
    | ((first | refine AGet.nth ?_ (fun b hb => ?_) | refine AGet.nth1 ?_ (fun b hb => ?_) | with_reducible refine And.intro ?_ ?_); (focus (first | omega | assumption | exact List.length_pos_iff.2 (by assumption) | (simp only [List.length_append, List.length_cons, List.length_nil, List.length_map, List.length_take, List.length_drop] at *; omega) | (rw [wrap64_id (by omega) (by omega)]; omega) | (simp; done) | (simp [spare_len]; done) | (exact ⟨by omega, by omega⟩))); (try simp only [hb, go_sem, ha]))
    | exact rfl
    | refine And.intro (a := ACall _ _ _ _ _ _ _ _) ?_ ?_
    | refine And.intro (a := AGet _ _) ?_ ?_
    | refine And.intro (a := AGuard _ _ _ _ _ _ _) ?_ ?_
    | (
        refine AWP.here 3 13 1 rfl ?_
        refine AWP.loopM (ι := Bool × Nat) [3, 4, 13, 14, 15, 16, 17, 18, 19, 20, 21, 22, 23, 24, 25, 26, 27, 28, 29, 30, 31, 32, 33, 34, 35, 36, 37, 38, 39, 40, 41, 42, 43, 44, 45, 46, 47, 48, 49, 50, 51, 52, 53, 54, 55, 56, 57] (fun ⟨bk, i⟩ => [(12, i64 i)]) (fun ⟨bk, i⟩ => [some [.agg [vnsV g.venues, lmsV g.limits, bl g.kill, i64 g.now, i64 g.pat]], some [exV x], some [.agg [.nilS, .nilS, bl false, i64 0, i64 0]], some [.agg [.mu 5 8 0 g.venues.length (g.venues.length + m), lmsV g.limits, bl g.kill, i64 g.now, i64 g.pat]], some [.agg [.nilS, .nilS, bl false, i64 0, i64 0]], some (bif bk then ((g.venues.map vnV ++ spare 8 m).set k (vnI w)) else (g.venues.map vnV ++ spare 8 m))]) (fun ⟨bk, i⟩ => (bif bk then [w.book.ids.length] else [])) (fun ⟨bk, i⟩ => i ≤ g.venues.length ∧ bk = decide (k < i)) (fun ⟨bk, i⟩ => g.venues.length - i) ((false, 0)) ?_ ?_ ?_
        · (try simp only [go_sem]); (repeat' (first | refine And.intro ?_ ?_ | exact .inl rfl | exact .inr rfl | exact .inr ⟨rfl, rfl⟩ | trivial | exact .inr (oblA rfl) | exact .inr ⟨rfl, oblA rfl⟩ | exact .inr bel_strs | exact .inr bel_vns | exact .inr (bel_vni (by decide)) | exact .inr ⟨rfl, bel_vni (by decide)⟩ | exact .inr ⟨by simp, bel_vni (by decide)⟩ | exact .inr ⟨rfl, bel_vns⟩ | exact .inr ⟨by simp, bel_vns⟩ | exact .inr ⟨rfl, bel_strs⟩ | exact .inr ⟨by simp, bel_strs⟩ | (simp; done) | exact .inr ⟨rfl, by simp⟩ | exact .inr ⟨by simp, by simp⟩)); done
        · exact ⟨by omega, by simp⟩
        rintro ⟨bk, i⟩ ⟨h1, hbk⟩
        simp only [go_sem]
        cases bk <;> simp only [cond_true, cond_false])
    | (
        refine ⟨(false, i + 1), ?_, ?_, ?_⟩
        · (try simp only [go_sem]); (try rw [wrap64_id (by omega) (by omega)]); (repeat' (first | refine And.intro ?_ ?_ | exact .inl rfl | exact .inr rfl | exact .inr ⟨rfl, rfl⟩ | trivial | exact .inr (oblA rfl) | exact .inr ⟨rfl, oblA rfl⟩ | exact .inr bel_strs | exact .inr bel_vns | exact .inr (bel_vni (by decide)) | exact .inr ⟨rfl, bel_vni (by decide)⟩ | exact .inr ⟨by simp, bel_vni (by decide)⟩ | exact .inr ⟨rfl, bel_vns⟩ | exact .inr ⟨by simp, bel_vns⟩ | exact .inr ⟨rfl, bel_strs⟩ | exact .inr ⟨by simp, bel_strs⟩ | (simp; done) | exact .inr ⟨rfl, by simp⟩ | exact .inr ⟨by simp, by simp⟩)); done
        · (first | exact ⟨by omega, dec_ff (by omega)⟩ | exact ⟨by omega, dec_tt (by omega)⟩)
        · (try simp only []); omega)
    | (
        refine ⟨(true, i + 1), ?_, ?_, ?_⟩
        · (try simp only [go_sem]); (try rw [wrap64_id (by omega) (by omega)]); (repeat' (first | refine And.intro ?_ ?_ | exact .inl rfl | exact .inr rfl | exact .inr ⟨rfl, rfl⟩ | trivial | exact .inr (oblA rfl) | exact .inr ⟨rfl, oblA rfl⟩ | exact .inr bel_strs | exact .inr bel_vns | exact .inr (bel_vni (by decide)) | exact .inr ⟨rfl, bel_vni (by decide)⟩ | exact .inr ⟨by simp, bel_vni (by decide)⟩ | exact .inr ⟨rfl, bel_vns⟩ | exact .inr ⟨by simp, bel_vns⟩ | exact .inr ⟨rfl, bel_strs⟩ | exact .inr ⟨by simp, bel_strs⟩ | (simp; done) | exact .inr ⟨rfl, by simp⟩ | exact .inr ⟨by simp, by simp⟩)); done
        · (first | exact ⟨by omega, dec_ff (by omega)⟩ | exact ⟨by omega, dec_tt (by omega)⟩)
        · (try simp only []); omega)
    | (
        refine AWP.ret ?_
        refine AEnd.is ?_; simp only [go_sem, out_v, out_s, out_n, v_int, v_bool, v_str] <;> (first | (rw [told_bad ha hx0 hcf hkk hop hsn]; simp [withG]; done) | skip))
    | (refine AWP.ret ?_; refine AInPost.ret rfl ?_; simp only [go_sem, ha])
    | (refine AWP.ret ?_; simp only [inb_ret, athen_ret]; refine AInPost.ret rfl ?_; simp only [go_sem, ha])
    | (refine AWP.ret ?_; (try simp only [inb_ret, athen_ret]); refine AInPost.ret rfl ?_; (try simp only [go_sem, ha]))
    | (refine AWPL.of ?_; simp only [go_sem, ha])
    | ((fail_if_success (have := hbb)); (with_reducible intro bb hbb))
    | (exfalso; omega)
    | refine AWP.fin (by assumption) ?_
    | fail)


end Go.Proofs.YtajeeghgiilhiaaGreat
end
