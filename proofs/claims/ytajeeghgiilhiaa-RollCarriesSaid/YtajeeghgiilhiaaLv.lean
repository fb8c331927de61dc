/- Parts of an own row: sliced in the midst, appended to its own beginning. -/
import Derived.Test.YtajeeghgiilhiaaLu
set_option linter.unusedVariables false
set_option linter.unusedSimpArgs false
namespace Go.Abs
open Go Go.RowKit
theorem OCells.drop {c : Ctx} {k : Nat} {es : List AV} {cs : List Value} (h : OCells c k es cs) (d : Nat) : OCells c k (es.drop d) (cs.drop (d * k)) := by
  refine ⟨fun i e he => h.1 (d + i) e (by rwa [List.getElem?_drop] at he), fun i e j x he hx => ?_⟩
  rw [List.getElem?_drop] at he
  obtain ⟨v, h1, h2⟩ := h.2 (d + i) e j x he hx
  refine ⟨v, ?_, h2⟩
  rw [List.getElem?_drop, ← h1]
  congr 1
  rw [Nat.add_mul]; omega
theorem OCells.takeN {c : Ctx} {k : Nat} {es : List AV} {cs : List Value} (h : OCells c k es cs) (d : Nat) (hd : d ≤ es.length) : OCells c k (es.take d) (cs.take (d * k)) := by
  have h2 : OCells c k (es.take d ++ es.drop d) cs := by rw [List.take_append_drop]; exact h
  have := h2.take
  rwa [List.length_take, Nat.min_eq_left hd] at this
section
variable {P : Program} {w0 : World} {im0 : Base} {c : Ctx} {st : St} {a : Act} {w : World}
theorem append_self (r : Rel w0 im0 c st a w) {t tx ty e : TypeId} {k n' : Nat} (hx : srcTy P tx = true) (hai : appInfo P t = some (e, k, n')) {id i j o cy : Nat} {es : List AV} {v xv : Value}
    (hv : VR c (.mu id k 0 i es.length) v) (hxv : VR c (.mu id k o j cy) xv) (ho : st.own[id]? = some (some es)) (hpos : 0 < es.length) (hij : i + j ≤ es.length) (hoj : o + j ≤ es.length) (hna : ∀ e ∈ (es.drop o).take j, ∀ x ∈ e.leaves, x ≠ .any) :
    ∃ v' w', (Builtin.append_ #[t, tx] ty #[v, xv]).run P w = .ok v' w' ∧ Rel w0 im0 c { st with own := st.own.set id (some (es.take i ++ ((es.drop o).take j ++ es.drop (i + j)))) } a w' ∧ VR c (.mu id k 0 (i + j) es.length) v' := by
  obtain ⟨hu, hs, hk0, ii, zv, hi, hz, hsize, hbytes, hzs⟩ := appInfo_ok hai
  rcases hv.inv_mu with ⟨g, hb, hcap, hve⟩ | ⟨_, hz2, _⟩
  rotate_left
  · omega
  have hown := r.own id g k _ hb ho
  obtain ⟨cs, ty', lo, hi', hblk, hfr, hsz, hlv, hcell⟩ := hown.blk
  rw [Nat.zero_mul] at hve
  have hoc : OCells c k es cs.toList := ⟨hlv, fun i e j x he hx => by obtain ⟨u, h1, h2⟩ := hcell i e j x he hx; exact ⟨u, by simpa using h1, h2⟩⟩
  have hq : cs.toList.length = cs.size := Array.length_toList
  have hmul : (o + j) * k ≤ es.length * k := Nat.mul_le_mul_right _ hoj
  have hmul2 : (i + j) * k ≤ es.length * k := Nat.mul_le_mul_right _ hij
  rw [Nat.add_mul] at hmul hmul2
  obtain ⟨news, hnews⟩ : ∃ news, news = (cs.toList.drop (o * k)).take (j * k) := ⟨_, rfl⟩
  have hnl : news.length = j * k := by rw [hnews, List.length_take, List.length_drop, hq]; omega
  have hone : ∀ u ∈ news, u.oneCell' = true := by
    intro u hu'
    obtain ⟨q, hq'⟩ := List.mem_iff_getElem?.1 hu'
    rw [hnews, List.getElem?_take] at hq'
    split at hq'
    · rename_i hqlt
      rw [List.getElem?_drop] at hq'
      have hdm := Nat.div_add_mod q k
      have hmod := Nat.mod_lt q hk0
      have hdiv : q / k < j := Nat.div_lt_of_lt_mul (by rw [Nat.mul_comm]; exact hqlt)
      have hel : es[o + q / k]? = some (es[o + q / k]'(by omega)) := List.getElem?_eq_getElem (by omega)
      have hlen := hlv _ _ hel
      have hlf : (es[o + q / k]'(by omega)).leaves[q % k]? = some ((es[o + q / k]'(by omega)).leaves[q % k]'(by omega)) := List.getElem?_eq_getElem (by omega)
      obtain ⟨v2, e1, e2, e3⟩ := hcell _ _ _ _ hel hlf
      have hidx : (o + q / k) * k + q % k = o * k + q := by
        rw [Nat.add_mul, Nat.mul_comm (q / k) k]; omega
      rw [hidx] at e1
      have : u = v2 := by
        have h1 : cs.toList[o * k + q]? = some v2 := by simpa using e1
        rw [h1] at hq'; exact (Option.some.inj hq').symm
      subst this
      refine e3.resolve_left (hna _ ?_ _ (List.mem_of_getElem? hlf))
      refine List.mem_iff_getElem?.2 ⟨q / k, ?_⟩
      rw [List.getElem?_take, if_pos hdiv, List.getElem?_drop]; exact hel
    · simp at hq'
  have hlen : (Builtin.lenOf xv).run P w = .ok j w ∧ (Builtin.firstCells k j xv).run P w = .ok news.toArray w := by
    rcases hxv.inv_mu with ⟨g2, hb2, hcap2, hxe⟩ | ⟨hj0, _, hxe⟩
    · have hg : g2 = g := by rw [hb] at hb2; simp only [Option.some.injEq, Prod.mk.injEq] at hb2; exact hb2.1.symm
      subst hg
      rw [hxe]
      refine ⟨by simp [Builtin.lenOf], ?_⟩
      exact run_firstCells_some w k j ⟨g2, o * k, none⟩ j _ _ hnl (fun p u hp => by
        rw [add_none]
        rw [hnews, List.getElem?_take] at hp
        split at hp
        · rw [List.getElem?_drop] at hp
          simp only [World.cell?, hblk, Option.isSome_none, Bool.false_eq_true, if_false]; simpa using hp
        · simp at hp)
    · subst hj0
      rw [hxe]
      have : news = [] := List.eq_nil_of_length_eq_zero (by rw [hnl]; simp)
      rw [this]
      exact ⟨by simp [Builtin.lenOf], run_firstCells_none w k 0 0 0⟩
  have hfro : ∀ o, o < cs.toList.length → ¬ (lo ≤ o ∧ o < hi') := fun o h1 h2 => by
    have h1 : o < cs.size := by simpa using h1
    rcases hfr with h | h <;> omega
  have hcs : cs = cs.toList.toArray := by simp
  have hfit2 : i * k + 0 + news.length ≤ cs.toList.length := by rw [hnl, hq]; omega
  have hst := run_storePut (P := P) g (i * k) ty' lo hi' news 0 cs.toList w (by rw [← hcs]; exact hblk) hfro hfit2 hone
  rw [Nat.add_zero] at hst
  have hrun := run_append_place (P := P) (w := w) (ty := ty) (base := some ⟨g, 0, none⟩) (n := i) (cap := es.length) hu hs hx hlen.1 hlen.2 hij
  simp only [add_none, Nat.zero_add, hst, Result.andThen_ok] at hrun
  have hcs'len : (putV cs.toList (i * k) news).length = cs.size := by rw [putV_length]; simp
  have hOC : OCells c k (es.take i ++ ((es.drop o).take j ++ es.drop (i + j))) (putV cs.toList (i * k) news) := by
    have e1 : putV cs.toList (i * k) news = cs.toList.take (i * k) ++ (news ++ cs.toList.drop ((i + j) * k)) := by
      apply List.ext_getElem?
      intro p
      have htl : (cs.toList.take (i * k)).length = i * k := by rw [List.length_take, hq]; omega
      rw [putV_get _ _ _ _ (by simpa using hfit2)]
      by_cases hp : p < i * k
      · rw [if_neg (by omega), List.getElem?_append_left (by rw [htl]; exact hp), List.getElem?_take, if_pos hp]
      · rw [List.getElem?_append_right (by rw [htl]; omega), htl]
        by_cases hp2 : p < i * k + news.length
        · rw [if_pos ⟨by omega, hp2⟩, List.getElem?_append_left (by omega)]
        · rw [if_neg (by omega), List.getElem?_append_right (by omega), List.getElem?_drop, hnl, Nat.add_mul]
          congr 1; rw [hnl] at hp2; omega
    rw [e1]
    refine (hoc.takeN i (by omega)).append (by rw [List.length_take, List.length_take, hq, Nat.min_eq_left (show i ≤ es.length by omega)]; omega) ?_
    rw [hnews]
    refine ((hoc.drop o).takeN j (by rw [List.length_drop]; omega)).append (by rw [← hnews, hnl, List.length_take, List.length_drop, Nat.min_eq_left (by omega)]) (hoc.drop (i + j))
  have hnewlen : (es.take i ++ ((es.drop o).take j ++ es.drop (i + j))).length = es.length := by simp only [List.length_append, List.length_take, List.length_drop]; omega
  have hset := r.setOwn (w' := w.setRow g (putV cs.toList (i * k) news).toArray) (es' := es.take i ++ ((es.drop o).take j ++ es.drop (i + j))) hb ho (fun b hne => setRow_other w g b _ hne) (below_setRow r.below hown.new _)
    ⟨(putV cs.toList (i * k) news).toArray, ty', lo, hi', setRow_heap w g cs _ ty' (lo, hi') hblk, by
      rcases hfr with h | h
      · exact .inl h
      · exact .inr (by simpa [putV_length] using h), by
      rw [hnewlen]; simp only [List.size_toArray, hcs'len]; exact hsz, hOC.1, fun i e j x he hx => by
      obtain ⟨u, h1, h2⟩ := hOC.2 i e j x he hx
      exact ⟨u, by simpa using h1, h2⟩⟩
  refine ⟨_, _, by rw [hve]; exact hrun, hset, ?_⟩
  have := VR.mu (c := c) (id := id) (off := 0) (len := i + j) (g := g) (k := k) (cap := es.length) hb hij
  rw [Nat.zero_mul] at this
  exact this
end
section
variable {E : Env} {Q : Exit → St → Prop} {st : St} {ops : Array Oper} {l : List Oper}
theorem AWPL.appSelf {dst : Option Tmp} {t tx ty : TypeId} {x y : Operand} {pos : String} {after : Array Edge} {e : TypeId} {k n' id i j o cy : Nat} {es : List AV}
    (hx : srcTy E.P tx = true) (hai : appInfo E.P t = some (e, k, n')) (hs : st.ev x = .mu id k 0 i es.length) (hsy : st.ev y = .mu id k o j cy) (ho : st.own[id]? = some (some es)) (hpos : 0 < es.length) (hij : i + j ≤ es.length) (hoj : o + j ≤ es.length) (hna : ∀ e ∈ (es.drop o).take j, ∀ x ∈ e.leaves, x ≠ .any)
    (h : AWPL E ops l Q (St.put { st with own := st.own.set id (some (es.take i ++ ((es.drop o).take j ++ es.drop (i + j)))) } dst (.mu id k 0 (i + j) es.length))) : AWPL E ops (⟨dst, .call ⟨.builtin .append, #[x, y], #[t, tx]⟩, ty, pos, after, none⟩ :: l) Q st := by
  intro w0 im0 cx a w h0 hG r
  refine wpList_step (fun K' hK' => ?_)
  have hw : Region.wanted ⟨dst, .call ⟨.builtin .append, #[x, y], #[t, tx]⟩, ty, pos, after, none⟩ (yielded ops a.tmps) = true := rfl
  rw [if_pos hw]
  have hv := r.ev x
  have hvy := r.ev y
  rw [hs] at hv; rw [hsy] at hvy
  obtain ⟨v', w', h1, h2, h3⟩ := append_self (P := E.P) (ty := ty) r hx hai hv hvy ho hpos hij hoj hna
  refine wp_value (w' := w') (v := v') ?_ (hK' _ _ (h w0 im0 _ _ _ h0 hG (h2.put dst h3)))
  simp only [execOp, resolve, Sem.run_bind, Sem.run_pure, Result.andThen_ok, invoke, builtin, List.map_toArray, List.map_cons, List.map_nil, h1]
theorem bounds3_run {P : Program} {w : World} {len cap l h m : Nat} (h1 : l ≤ h) (h2 : h ≤ m) (h3 : m ≤ cap) : (Instr.sliceBounds true len cap (some (.int .i64 (l : Int))) (some (.int .i64 (h : Int))) (some (.int .i64 (m : Int)))).run P w = .ok (l, h, m) w := by
  have e1 : ∀ code, (Instr.sliceBound (.int .i64 (m : Int)) cap code).run P w = .ok m w := fun code => (bound_run (by omega) (by omega)).trans (by simp)
  have e2 : ∀ code, (Instr.sliceBound (.int .i64 (h : Int)) m code).run P w = .ok h w := fun code => (bound_run (by omega) (by omega)).trans (by simp)
  have e3 : ∀ code, (Instr.sliceBound (.int .i64 (l : Int)) h code).run P w = .ok l w := fun code => (bound_run (by omega) (by omega)).trans (by simp)
  simp [Instr.sliceBounds, Sem.run_bind, e1, e2, e3]
theorem bounds2_run {P : Program} {w : World} {len cap l h : Nat} (h1 : l ≤ h) (h2 : h ≤ cap) : (Instr.sliceBounds true len cap (some (.int .i64 (l : Int))) (some (.int .i64 (h : Int))) none).run P w = .ok (l, h, cap) w := by
  have e2 : ∀ code, (Instr.sliceBound (.int .i64 (h : Int)) cap code).run P w = .ok h w := fun code => (bound_run (by omega) (by omega)).trans (by simp)
  have e3 : ∀ code, (Instr.sliceBound (.int .i64 (l : Int)) h code).run P w = .ok l w := fun code => (bound_run (by omega) (by omega)).trans (by simp)
  simp [Instr.sliceBounds, Sem.run_bind, e2, e3]
theorem bounds1_run {P : Program} {w : World} {len cap l : Nat} (h1 : l ≤ len) : (Instr.sliceBounds true len cap (some (.int .i64 (l : Int))) none none).run P w = .ok (l, len, cap) w := by
  have e3 : ∀ code, (Instr.sliceBound (.int .i64 (l : Int)) len code).run P w = .ok l w := fun code => (bound_run (by omega) (by omega)).trans (by simp)
  simp [Instr.sliceBounds, Sem.run_bind, e3]
/-- s[l:h:m] of an own row, of which nothing is told. -/
theorem AWPL.slice3Mu {dst : Option Tmp} {t ty : TypeId} {x lo hi mx : Operand} {pos : String} {after : Array Edge} {e : TypeId} {k id off len cap l' h' m' : Nat}
    (hu : E.P.underlying t = some (.slice e)) (hsz : tsz E.P e = some k) (hs : st.ev x = .mu id k off len cap) (hl : st.ev lo = i64 (l' : Int)) (hh : st.ev hi = i64 (h' : Int)) (hm : st.ev mx = i64 (m' : Int)) (h1 : l' ≤ h') (h2 : h' ≤ m') (h3 : m' ≤ cap)
    (h : AWPL E ops l Q (st.put dst .any)) : AWPL E ops (⟨dst, .slice t x (some lo) (some hi) (some mx), ty, pos, after, none⟩ :: l) Q st := by
  intro w0 im0 cx a w h0' hG r
  refine wpList_step (fun K' hK' => ?_)
  have hw : Region.wanted ⟨dst, .slice t x (some lo) (some hi) (some mx), ty, pos, after, none⟩ (yielded ops a.tmps) = true := rfl
  rw [if_pos hw]
  have hv := r.ev x
  rw [hs] at hv
  have e1 : a.eval lo = .int .i64 (l' : Int) := by have := r.ev lo; rw [hl] at this; exact this.inv_v
  have e2 : a.eval hi = .int .i64 (h' : Int) := by have := r.ev hi; rw [hh] at this; exact this.inv_v
  have e3 : a.eval mx = .int .i64 (m' : Int) := by have := r.ev mx; rw [hm] at this; exact this.inv_v
  have hval : ∃ u, (Instr.sliceAt t (a.eval x) (some (a.eval lo)) (some (a.eval hi)) (some (a.eval mx))).run E.P w = .ok u w := by
    rw [e1, e2, e3]
    have key : ∀ (b : Option Addr) (len cap : Nat), m' ≤ cap → (Instr.sliceAt t (.slice b len cap) (some (.int .i64 (l' : Int))) (some (.int .i64 (h' : Int))) (some (.int .i64 (m' : Int)))).run E.P w = .ok (.slice (if m' = l' then b else b.map (·.add (l' * k))) (h' - l') (m' - l')) w := by
      intro b len cap hm3
      simp only [Instr.sliceAt, Sem.run_bind, underlying_run hu, Result.andThen_ok, Instr.slice, bounds3_run (P := E.P) (w := w) h1 h2 hm3, tsz_run hsz, Sem.run_pure]
    rcases hv.inv_mu with ⟨g, hb, hcap, hve⟩ | ⟨hz, hz2, hve⟩
    · rw [hve]; exact ⟨_, key _ _ _ h3⟩
    · rw [hve]; exact ⟨_, key _ _ _ (by omega)⟩
  obtain ⟨u, hrun⟩ := hval
  refine wp_value (w' := w) (v := u) ?_ (hK' _ _ (h w0 im0 _ _ _ h0' hG (r.put dst (.base (.any _)))))
  simp only [execOp, Option.map_some, Sem.run_bind, hrun, Result.andThen_ok, Sem.run_pure]
/-- s[l:h] of an own row, where some room is left behind l. -/
theorem AWPL.slice2Mu {dst : Option Tmp} {t ty : TypeId} {x lo hi : Operand} {pos : String} {after : Array Edge} {e : TypeId} {k id off len cap l' h' : Nat}
    (hu : E.P.underlying t = some (.slice e)) (hsz : tsz E.P e = some k) (hs : st.ev x = .mu id k off len cap) (hl : st.ev lo = i64 (l' : Int)) (hh : st.ev hi = i64 (h' : Int)) (h1 : l' ≤ h') (h2 : h' ≤ cap) (h3 : l' < cap)
    (h : AWPL E ops l Q (st.put dst (.mu id k (off + l') (h' - l') (cap - l')))) : AWPL E ops (⟨dst, .slice t x (some lo) (some hi) none, ty, pos, after, none⟩ :: l) Q st := by
  intro w0 im0 cx a w h0' hG r
  refine wpList_step (fun K' hK' => ?_)
  have hw : Region.wanted ⟨dst, .slice t x (some lo) (some hi) none, ty, pos, after, none⟩ (yielded ops a.tmps) = true := rfl
  rw [if_pos hw]
  have hv := r.ev x
  rw [hs] at hv
  have e1 : a.eval lo = .int .i64 (l' : Int) := by have := r.ev lo; rw [hl] at this; exact this.inv_v
  have e2 : a.eval hi = .int .i64 (h' : Int) := by have := r.ev hi; rw [hh] at this; exact this.inv_v
  rcases hv.inv_mu with ⟨g, hb, hcap, hve⟩ | ⟨hz, hz2, _⟩
  rotate_left
  · omega
  have hrun : (Instr.sliceAt t (a.eval x) (some (a.eval lo)) (some (a.eval hi)) none).run E.P w = .ok (.slice (some ⟨g, (off + l') * k, none⟩) (h' - l') (cap - l')) w := by
    rw [e1, e2, hve]
    simp only [Instr.sliceAt, Sem.run_bind, underlying_run hu, Result.andThen_ok, Instr.slice, bounds2_run (P := E.P) (w := w) h1 h2, tsz_run hsz, Sem.run_pure]
    have hne : ¬ cap = l' := by omega
    simp [hne, Addr.add, Nat.add_mul]
  refine wp_value (w' := w) (v := .slice (some ⟨g, (off + l') * k, none⟩) (h' - l') (cap - l')) ?_ (hK' _ _ (h w0 im0 _ _ _ h0' hG (r.put dst (.mu hb (by omega)))))
  simp only [execOp, Option.map_some, Option.map_none, Sem.run_bind, hrun, Result.andThen_ok, Sem.run_pure]
/-- s[l:] of an own row, at its very end. -/
theorem AWPL.sliceMuEnd {dst : Option Tmp} {t ty : TypeId} {x lo : Operand} {pos : String} {after : Array Edge} {e : TypeId} {k id off cap : Nat}
    (hu : E.P.underlying t = some (.slice e)) (hsz : tsz E.P e = some k) (hs : st.ev x = .mu id k off cap cap) (hl : st.ev lo = i64 (cap : Int)) (hc : 0 < cap)
    (h : AWPL E ops l Q (st.put dst (.mu id k off 0 0))) : AWPL E ops (⟨dst, .slice t x (some lo) none none, ty, pos, after, none⟩ :: l) Q st := by
  intro w0 im0 cx a w h0' hG r
  refine wpList_step (fun K' hK' => ?_)
  have hw : Region.wanted ⟨dst, .slice t x (some lo) none none, ty, pos, after, none⟩ (yielded ops a.tmps) = true := rfl
  rw [if_pos hw]
  have hv := r.ev x
  rw [hs] at hv
  have e1 : a.eval lo = .int .i64 (cap : Int) := by have := r.ev lo; rw [hl] at this; exact this.inv_v
  rcases hv.inv_mu with ⟨g, hb, hcap, hve⟩ | ⟨hz, hz2, _⟩
  rotate_left
  · omega
  have hrun : (Instr.sliceAt t (a.eval x) (some (a.eval lo)) none none).run E.P w = .ok (.slice (some ⟨g, off * k, none⟩) 0 0) w := by
    rw [e1, hve]
    simp only [Instr.sliceAt, Sem.run_bind, underlying_run hu, Result.andThen_ok, Instr.slice, bounds1_run (P := E.P) (w := w) (Nat.le_refl _), tsz_run hsz, Sem.run_pure]
    simp
  refine wp_value (w' := w) (v := .slice (some ⟨g, off * k, none⟩) 0 0) ?_ (hK' _ _ (h w0 im0 _ _ _ h0' hG (r.put dst (.mu hb (Nat.le_refl _)))))
  simp only [execOp, Option.map_some, Option.map_none, Sem.run_bind, hrun, Result.andThen_ok, Sem.run_pure]
end
end Go.Abs
