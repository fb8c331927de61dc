/- Texts of one chain, put together (G10, G11, StA, MrA, GtC). -/
import Derived.Test.YtajeeghgiilhiaaGreatKuL
import Derived.Sort.LotA
import Derived.Test.YtajeeghgiilhiaaGreatKuE
set_option linter.unusedVariables false
set_option linter.unusedSimpArgs false
section
namespace Go.Proofs.YtajeeghgiilhiaaGreat
open Go Go.Abs Go.RowKit Go.Bk
abbrev vnT (v : Vn) : AV := .agg [odsV v.book.orders, dnsV v.book.fills, .sl none 1 (v.book.ids.map str), i64 v.book.clock, i64 v.book.bad, .sl (some 0) 8 (v.sent.map odV), i64 v.last, bl v.gap]
theorem bel_vnt {no nt m k : Nat} {l : List Vn} {v : Vn} (h : 0 < nt) : ∀ es, some ((l.map vnV ++ spare 8 m).set k (vnT v)) = some es → ∀ e ∈ es, ∀ z ∈ e.leaves, z.bel no nt = true := by
 intro es he e hm z hz
 simp only [Option.some.injEq] at he
 subst he
 rcases List.mem_or_eq_of_mem_set hm with hm | rfl
 · exact bel_vns (no := no) (nt := nt) (m := m) (l := l) _ rfl e hm z hz
 · simp only [AV.leaves, List.mem_cons, List.not_mem_nil, or_false] at hz
   rcases hz with rfl | rfl | rfl | rfl | rfl | rfl | rfl | rfl <;> first | rfl | exact decide_eq_true h
theorem dec_f {p : Prop} [Decidable p] (h : false = decide p) : ¬ p := of_decide_eq_false h.symm
theorem dec_t {p : Prop} [Decidable p] (h : true = decide p) : p := of_decide_eq_true h.symm
theorem dec_ff {p : Prop} [Decidable p] (h : ¬ p) : false = decide p := (decide_eq_false h).symm
theorem dec_tt {p : Prop} [Decidable p] (h : p) : true = decide p := (decide_eq_true h).symm
theorem row_same3 {l : List Vn} {i k m : Nat} {v : Vn} {t : AV} (hki : k < i) (h : l[i]? = some v) : ((l.map vnV ++ spare 8 m).set k t).set i (.agg [odsV v.book.orders, dnsV v.book.fills, .sl none 1 (v.book.ids.map str), i64 v.book.clock, i64 v.book.bad, odsV v.sent, i64 v.last, bl v.gap]) = (l.map vnV ++ spare 8 m).set k t := by
 rw [List.set_comm _ _ (by omega), row_same h]
theorem known_no {v : Vn} {id : Bs} (h : hasB v.book.orders id = false ∧ hasB v.sent id = false) : knownB v id = false := by simp [knownB, h]
theorem row_back {l : List Vn} {k m : Nat} {w : Vn} (h : l[k]? = some w) : (((l.map vnV ++ spare 8 m).set k (vnT w)).set k (.agg [odsV w.book.orders, dnsV w.book.fills, .sl none 1 (w.book.ids.map str), i64 w.book.clock, i64 w.book.bad, .sl none 8 (w.sent.map odV), i64 w.last, bl w.gap])) = l.map vnV ++ spare 8 m := by
 rw [List.set_set]; exact row_same h
theorem row_sent {l : List Vn} {k m : Nat} {w : Vn} {o : Od} (h : k < l.length) : ((((l.map vnV ++ spare 8 m).set k (vnT w)).set k (.agg [odsV w.book.orders, dnsV w.book.fills, .sl none 1 (w.book.ids.map str), i64 w.book.clock, i64 w.book.bad, .sl (some 0) 8 (w.sent.map odV ++ [odV o]), i64 w.last, bl w.gap])).set k (.agg [odsV w.book.orders, dnsV w.book.fills, .sl none 1 (w.book.ids.map str), i64 w.book.clock, i64 w.book.bad, .sl none 8 (w.sent.map odV ++ [odV o]), i64 w.last, bl w.gap])) = (l.set k (sendV w o)).map vnV ++ spare 8 m := by
 rw [List.set_set, List.set_set, ← row_put (v := sendV w o) h]
 congr 1
 simp [sendV]
theorem row_sent2 {l : List Vn} {k m : Nat} {w : Vn} {o : Od} (h : k < l.length) : ((((l.map vnV ++ spare 8 m).set k (vnT w)).set k (.agg [odsV w.book.orders, dnsV w.book.fills, .sl none 1 (w.book.ids.map str), i64 w.book.clock, i64 w.book.bad, .sl (some 0) 8 (w.sent.map odV ++ [AV.agg [str o.id, str o.acc, str o.sym, bl o.buy, i64 o.qty, i64 o.price, .v (.int .i64 0), .v (.bool true)]]), i64 w.last, bl w.gap])).set k (.agg [odsV w.book.orders, dnsV w.book.fills, .sl none 1 (w.book.ids.map str), i64 w.book.clock, i64 w.book.bad, .sl none 8 (w.sent.map odV ++ [AV.agg [str o.id, str o.acc, str o.sym, bl o.buy, i64 o.qty, i64 o.price, .v (.int .i64 0), .v (.bool true)]]), i64 w.last, bl w.gap])) = (l.set k (sendV w (openO o))).map vnV ++ spare 8 m := row_sent (o := openO o) h
set_option maxHeartbeats 16000000 in
set_option maxRecDepth 8000 in
theorem gorder_y (g : Gt) (k : Nat) (w : Vn) (o : Od) (hg : GtSm g) (hx0 : g.venues[k]? = some w) (ha : isAtB g (k : Int) = true) (hmay : mayB (openO o) = true) : ACalls E 29 [gtV g, i64 (k : Int), odV o] (fun r t => r = .tup [gtV (orderG g (k : Int) o).1, i64 (orderG g (k : Int) o).2.1, i64 (orderG g (k : Int) o).2.2] ∧ t = []) := by
 have hgi := hg.fit
 have hg1 := hg.1
 have hg2 := hg.2.1
 have hkn := get_lt hx0
 have hsm := isAt_small ha hx0
 refine ACalls.of_awp (n := 56) (rs := [.cell 6 58, .tmp 7, .tmp 8]) Tryz.func29 rfl Tryz.ntmps29 rfl ?_
 repeat' (first
 | (
  refine AWP.cutTo hc1 ?_
  first
  | (refine AWP.renum [0, 1, 2, 3, 4, 6] (by decide) rfl rfl ?_; simp only [go_sem, vn_ren, List.length_map]; refine AWP.weaken ?_ (hc1 m); (try simp only [go_sem]); (repeat' (first | refine And.intro ?_ ?_ | trivial | exact .inr (oblA rfl) | exact .inr bel_vns | fail)); done)
  | (have he : g.venues = [] := Classical.byContradiction fun hne => by
       have := hbb (by simpa using hne)
       simp_all
     refine AWP.nilOwn 3 0 8 _ rfl rfl ?_
     simp only [go_sem]
     refine AWP.weaken ?_ (hc1 0); (try simp only [go_sem, he, List.length_nil, List.map_nil, spare_zero]); (repeat' (first | refine And.intro ?_ ?_ | trivial | exact .inr (oblA rfl) | fail)); done))
 | refine AWP.seqk fun K hK => ?_
 | (
  refine AWP.here 1 5 5 rfl ?_
  first
  | (have h0 := hc1; clear h0; refine AWP.regionL ?_; refine AWPL.at 5 2 rfl ?_; simp only [go_sem])
  | ((fail_if_success (have h0 := hc1)); refine AWP.cutAt (ι := Nat) [5, 6, 7, 8] (fun (m : Nat) => []) (fun (m : Nat) => [some [.agg [vnsV g.venues, lmsV g.limits, bl g.kill, i64 g.now, i64 g.pat]], some [odV o], some [.agg [.nilS, .nilS, bl false, i64 0, i64 0]], some [.agg [.mu 5 8 0 g.venues.length (g.venues.length + m), lmsV g.limits, bl g.kill, i64 g.now, i64 g.pat]], some [.agg [.nilS, .nilS, bl false, i64 0, i64 0]], some (g.venues.map vnV ++ spare 8 m)]) (fun (m : Nat) => []) hK (fun m => ?_) (fun hc1 => ?_)))
 | (refine Cut.mk ?_; simp only [go_sem])
 | (
  refine AWP.here 5 26 5 rfl ?_
  have hxk : ((g.venues.map vnV ++ spare 8 m).set k (vnT w))[k]? = some (vnT w) := List.getElem?_set_self (by simp; omega)
  refine AWP.region ?_; simp only [go_sem, ha, hmay])
 | (
  refine AWP.here 6 30 6 rfl ?_
  refine AWP.regionO [0, 1, 2, 3, 4, 5] [] (by kernel_rfl) (by kernel_rfl) rfl ?_; simp only [go_sem, ha, hmay, hxk])
 | (
  refine AWP.here 7 36 4 rfl ?_
  refine AWP.forgetAt 5 k 5 rfl hxk rfl ?_
  simp only [go_sem, ha, hmay]
  rw [row_back hx0]
  refine AWP.publishLeaf 6 0 (jd := 5) (k := 8) (n := g.venues.length) (cap := g.venues.length + m) _ (g.venues.map vnV ++ spare 8 m) (by decide) rfl rfl rfl (by simp [spare_len]) (by rw [vn_take]; exact cl_vn _) ?_
  rw [vn_take]
  simp only [go_sem, ha, hmay]
  refine AWP.region ?_; simp only [go_sem, ha, hmay])
 | (
  refine AWP.here 10 43 5 rfl ?_
  refine AWP.forgetAt 5 k 5 rfl hxk rfl ?_
  simp only [go_sem, ha, hmay]
  rw [row_back hx0]
  refine AWP.publishLeaf 6 0 (jd := 5) (k := 8) (n := g.venues.length) (cap := g.venues.length + m) _ (g.venues.map vnV ++ spare 8 m) (by decide) rfl rfl rfl (by simp [spare_len]) (by rw [vn_take]; exact cl_vn _) ?_
  rw [vn_take]
  simp only [go_sem, ha, hmay]
  refine AWP.region ?_; simp only [go_sem, ha, hmay])
 | (
  refine AWP.here 11 45 11 rfl ?_
  refine AWP.regionAnyT (.take 0 (.take 1 (.take 2 (.take 3 (.take 4 (.take 5 (.take 6 (.take 7 (.take 8 (.take 9 (.take 10 .done))))))))))) [[], [], [1], [1, 2], [1, 2, 3], [], [5], [1, 2, 3, 4, 5, 6], [0, 1, 2, 3, 4, 5, 6, 7], [0, 1, 2, 3, 4, 5, 6, 7, 8], [0, 1, 2, 3, 4, 5, 6, 7, 8, 9]] [] (by kernel_rfl) (by kernel_rfl) ?_; simp only [go_sem, ha, hmay, hxk])
 | (
  refine AWP.here 12 55 4 rfl ?_
  refine AWP.forgetAt 5 k 5 rfl (List.getElem?_set_self (by simp; omega)) rfl ?_
  simp only [go_sem, ha, hmay]
  rw [row_sent2 hkn]
  refine AWP.publishLeaf 6 0 (jd := 5) (k := 8) (n := g.venues.length) (cap := g.venues.length + m) _ ((g.venues.set k (sendV w (openO o))).map vnV ++ spare 8 m) (by decide) rfl rfl rfl (by simp [spare_len]) (by rw [vn_takeS]; exact cl_vn _) ?_
  rw [vn_takeS]
  simp only [go_sem, ha, hmay]
  refine AWP.region ?_; simp only [go_sem, ha, hmay])
 | (
  refine AWP.here 5 15 5 rfl ?_
  obtain ⟨v, hx⟩ : ∃ v, g.venues[i]? = some v := ⟨_, List.getElem?_eq_getElem (by omega)⟩
  have hv := hg.2.2 v (List.mem_of_getElem? hx)
  have hx2 : (g.venues.map vnV ++ spare 8 m)[i]? = some (vnV v) := by rw [List.getElem?_append_left (by simpa using get_lt hx), List.getElem?_map, hx]; rfl
  have hvw : i = k → v = w := fun e => by subst e; rw [hx] at hx0; exact Option.some.inj hx0
  (first | have hki := dec_f hbk | (have hki := dec_t hbk; have hx3 : ((g.venues.map vnV ++ spare 8 m).set k (vnT w))[i]? = some (vnV v) := (List.getElem?_set_ne (by omega)).trans hx2))
  refine AWP.region ?_; simp only [go_sem])
 | (
  refine AWP.here 7 29 11 rfl ?_
  (first | rw [row_same hx] | rw [row_same3 (by omega) hx] | fail)
  refine AWP.region ?_; simp only [go_sem])
 | (
  refine AWP.here 8 39 11 rfl ?_
  (first | rw [row_same hx] | rw [row_same3 (by omega) hx] | fail)
  refine AWP.region ?_; simp only [go_sem])
 | (
  refine AWP.here 10 57 2 rfl ?_
  (first | rw [row_same hx] | rw [row_same3 (by omega) hx] | skip)
  (try (obtain rfl := hvw hik1; subst hik1))
  refine AWP.region ?_; simp only [go_sem])
 | (
  refine AWP.here 9 49 9 rfl ?_
  (first | rw [row_same hx] | rw [row_same3 (by omega) hx] | fail)
  rcases Nat.decEq i k with hik0 | hik1 <;> (first | (exfalso; omega) | (refine AWP.region ?_; simp only [go_sem])))
 | (
  refine AWP.here 11 58 5 rfl ?_
  (first | (exfalso; have hki := dec_f hbk; omega) | (have hki := dec_t hbk; refine AWP.region ?_; simp only [go_sem])))
 | (
  refine AWP.here 3 5 4 rfl ?_
  refine AWP.regionL ?_
  refine AWPL.mkMu ap55 ?_
  simp only [go_sem]
  refine AWPL.at 3 1 rfl ?_
  simp only [go_sem]
  refine AWPL.appMu sr55 ap55 rfl rfl rfl (by simp; omega) (by simp; omega) ?_
  intro m
  simp only [go_sem]
  refine AWPL.of ?_
  simp only [go_sem])
 | (refine AWP.here 1 12 4 rfl ?_; refine AWP.regionL ?_; refine AWPL.at 4 1 rfl ?_; simp only [go_sem, ha, hmay])
 | (refine AWP.region ?_; simp only [go_sem, ha, hmay])
 | (refine hK _ ?_; clear hK K)
 | refine AWP.block ?_
 | refine AWP.cond rfl (fun c => ?_) (fun c => ?_) <;> first | exact Bool.noConfusion c | (try simp only [dD] at c)
 | refine AWP.skip ?_
 | (refine AWP.exit ?_; simp only [go_sem, ha, hmay])
 | (refine ACall.one (gisat_c g (k : Int) hgi) (by kernel_rfl) rfl ?_; simp only [go_sem, ha, hmay])
 | (refine ACall.one (omay_c (openO o)) (by kernel_rfl) rfl ?_; simp only [go_sem, ha, hmay])
 | (refine ACall.one (gknown_c w o.id (hg.2.2 w (List.mem_of_getElem? hx0)).fit) (by kernel_rfl) rfl ?_; simp only [go_sem, ha, hmay])
 | (refine ACall.one (gwhy_c g k w (openO o) hgi hx0 hsm) (by kernel_rfl) rfl ?_; simp only [go_sem, ha, hmay])
 | (have h0 := hik1; clear h0; refine ACall.of (oclone_c v.sent hv.2.2.2) (by kernel_rfl) rfl ?_; rintro r t ⟨rfl, rfl⟩; simp only [go_sem])
 | (refine ACall.one (oclone_p v.book.orders hv.1) (by kernel_rfl) rfl ?_; simp only [go_sem])
 | (refine ACall.one (oclone_p v.sent hv.2.2.2) (by kernel_rfl) rfl ?_; simp only [go_sem])
 | (refine ACall.one (dclone_p v.book.fills hv.2.1) (by kernel_rfl) rfl ?_; simp only [go_sem])
 | (refine ACall.one (sclone_p v.book.ids hv.2.2.1) (by kernel_rfl) rfl ?_; simp only [go_sem])
 | (refine ACall.one (limclone_p g.limits hg2) (by kernel_rfl) rfl ?_; simp only [go_sem])
 | (refine AWPL.call (rs := [.cell 2 58]) Tryz.func76 rfl Tryz.ntmps76 rfl (by kernel_rfl) rfl rfl ?_; simp only [go_sem])
 | (refine AWPL.call (rs := [.tmp 2]) Tryz.func144 rfl Tryz.ntmps144 rfl (by kernel_rfl) rfl rfl ?_; simp only [go_sem])
 | (refine AGet.haveM (by assumption) ?_; (try simp only [go_sem, ha, hmay]))
 | (refine AGet.have' (by assumption) ?_; (try simp only [go_sem, ha, hmay]))
 | ((first | with_reducible refine And.intro ?_ ?_); (focus (first | omega | (simp; done) | fail)); (try simp only [hb, go_sem, ha, hmay]))
 | (
  refine AWP.here 3 13 1 rfl ?_
  refine AWP.loopM (ι := Bool × Nat) [3, 4, 13, 14, 15, 16, 17, 18, 19, 20, 21, 22, 23, 24, 25, 26, 27, 28, 29, 30, 31, 32, 33, 34, 35, 36, 37, 38, 39, 40, 41, 42, 43, 44, 45, 46, 47, 48, 49, 50, 51, 52, 53, 54, 55, 56, 57] (fun ⟨bk, i⟩ => [(12, i64 i)]) (fun ⟨bk, i⟩ => [some [.agg [vnsV g.venues, lmsV g.limits, bl g.kill, i64 g.now, i64 g.pat]], some [odV o], some [.agg [.nilS, .nilS, bl false, i64 0, i64 0]], some [.agg [.mu 5 8 0 g.venues.length (g.venues.length + m), lmsV g.limits, bl g.kill, i64 g.now, i64 g.pat]], some [.agg [.nilS, .nilS, bl false, i64 0, i64 0]], some (bif bk then ((g.venues.map vnV ++ spare 8 m).set k (vnT w)) else (g.venues.map vnV ++ spare 8 m))]) (fun ⟨bk, i⟩ => (bif bk then [w.sent.length] else [])) (fun ⟨bk, i⟩ => i ≤ g.venues.length ∧ bk = decide (k < i)) (fun ⟨bk, i⟩ => g.venues.length - i) ((false, 0)) ?_ ?_ ?_
  · (try simp only [go_sem]); (repeat' (first | refine And.intro ?_ ?_ | trivial | exact .inr (oblA rfl) | exact .inr bel_vns | fail)); done
  · exact ⟨by omega, by simp⟩
  rintro ⟨bk, i⟩ ⟨h1, hbk⟩
  simp only [go_sem]
  cases bk <;> simp only [cond_true, cond_false])
 | (
  refine ⟨(false, i + 1), ?_, ?_, ?_⟩
  · (try simp only [go_sem]); (try rw [wrap64_id (by omega) (by omega)]); (repeat' (first | refine And.intro ?_ ?_ | exact .inr rfl | exact .inr (oblA rfl) | exact .inr bel_vns | exact .inr ⟨by simp, by simp⟩)); done
  · (first | exact ⟨by omega, dec_ff (by omega)⟩ | fail)
  · (try simp only []); omega)
 | (
  refine ⟨(true, i + 1), ?_, ?_, ?_⟩
  · (try simp only [go_sem]); (try rw [wrap64_id (by omega) (by omega)]); (repeat' (first | refine And.intro ?_ ?_ | exact .inr rfl | trivial | exact .inr (oblA rfl) | exact .inr (bel_vnt (by decide)) | fail)); done
  · (first | exact ⟨by omega, dec_tt (by omega)⟩)
  · (try simp only []); omega)
 | (
  refine AWP.ret ?_
  refine AEnd.is ?_; simp only [go_sem, out_v, out_s, out_n, v_int, v_bool, v_str] <;> (first
  | (rw [order_twice ha hmay hx0 (by simp [knownB]; assumption)]; simp; done)
  | (rw [order_why ha hmay hx0 (known_no (by assumption)) (by assumption)]; simp; done)
  | (rw [order_in ha hmay hx0 (known_no (by assumption)) (by assumption)]; simp [withG]; done)
  | fail))
 | (refine AWP.ret ?_; refine AInPost.ret rfl ?_; simp only [go_sem, ha, hmay])
 | (refine AWP.ret ?_; simp only [inb_ret, athen_ret]; refine AInPost.ret rfl ?_; simp only [go_sem, ha, hmay])
 | (refine AWPL.of ?_; simp only [go_sem, ha, hmay])
 | ((fail_if_success (have := hbb)); (with_reducible intro bb hbb))
 | refine AWP.fin (by assumption) ?_
 | fail)
theorem gorder_c (g : Gt) (n : Int) (o : Od) (hg : GtSm g) : ACalls E 29 [gtV g, i64 n, odV o] (fun r t => r = .tup [gtV (orderG g n o).1, i64 (orderG g n o).2.1, i64 (orderG g n o).2.2] ∧ t = []) := by
 cases ha : isAtB g n with
 | false => rw [order_no ha]; exact gorder_n g n o hg (.inl ha)
 | true =>
   cases hm : mayB (openO o) with
   | false => rw [order_may hm]; exact gorder_n g n o hg (.inr hm)
   | true =>
     obtain ⟨k, v, rfl, hx⟩ := isAt_get ha
     exact gorder_y g k v o hg hx ha hm
end Go.Proofs.YtajeeghgiilhiaaGreat
end
section
namespace Go.Proofs.YtajeeghgiilhiaaGreat
open Go Go.Abs Go.RowKit Go.Bk
theorem may_bnd {o : Od} (h : mayB o = true) : 0 ≤ o.done ∧ o.done ≤ o.qty ∧ 0 ≤ o.qty ∧ o.qty ≤ 1099511627776 ∧ 0 ≤ o.price ∧ o.price ≤ 1099511627776 := by
 simp only [mayB, smallB, Bool.and_eq_true, decide_eq_true_eq] at h; omega
theorem row_sent4 {l : List Vn} {k m : Nat} {w : Vn} {fo : Od} {id : Bs} {q p : Int} (h : k < l.length) : ((((l.map vnV ++ spare 8 m).set k (vnT w)).set k (.agg [odsV w.book.orders, dnsV w.book.fills, .sl none 1 (w.book.ids.map str), i64 w.book.clock, i64 w.book.bad, .sl (some 0) 8 (w.sent.map odV ++ [AV.agg [str id, str fo.acc, str fo.sym, bl fo.buy, i64 q, i64 p, i64 fo.done, bl fo.opn]]), i64 w.last, bl w.gap])).set k (.agg [odsV w.book.orders, dnsV w.book.fills, .sl none 1 (w.book.ids.map str), i64 w.book.clock, i64 w.book.bad, .sl none 8 (w.sent.map odV ++ [AV.agg [str id, str fo.acc, str fo.sym, bl fo.buy, i64 q, i64 p, i64 fo.done, bl fo.opn]]), i64 w.last, bl w.gap])) = (l.set k (sendV w (newOf fo id q p))).map vnV ++ spare 8 m := row_sent (o := newOf fo id q p) h
section
variable {g : Gt} {k : Nat} {w : Vn} {old id : Bs} {q p : Int} {fo : Od} {fnd : Bool} (ha : isAtB g (k : Int) = true) (hx : g.venues[k]? = some w) (hff : findF w.book.orders old = (fo, fnd))
include ha hx hff
theorem change_e6 (h : fnd = false ∨ fo.opn = false) : changeG g (k : Int) old id q p = (g, 0, 6) := by rw [change_at ha hx, hff, if_pos h]
variable (h1 : fnd = true) (h2 : fo.opn = true)
include h1 h2
theorem change_e1 (hm : mayB (newOf fo id q p) = false) : changeG g (k : Int) old id q p = (g, 0, 1) := by rw [change_at ha hx, hff, if_neg (by simp [h1, h2]), if_pos hm]
variable (hm : mayB (newOf fo id q p) = true)
include hm
theorem change_e7 (hk : knownB w id = true) : changeG g (k : Int) old id q p = (g, 0, 7) := by rw [change_at ha hx, hff, if_neg (by simp [h1, h2]), if_neg (by simp [hm]), if_pos hk]
variable (hk : knownB w id = false)
include hk
theorem change_why (hw : ¬ whyG g w (moreOf fo id q p) = 0) : changeG g (k : Int) old id q p = (g, whyG g w (moreOf fo id q p), 0) := by rw [change_at ha hx, hff, if_neg (by simp [h1, h2]), if_neg (by simp [hm]), if_neg (by simp [hk]), if_pos hw]
theorem change_in (hw : whyG g w (moreOf fo id q p) = 0) : changeG g (k : Int) old id q p = (withG g k (sendV w (newOf fo id q p)), 0, 0) := by rw [change_at ha hx, hff, if_neg (by simp [h1, h2]), if_neg (by simp [hm]), if_neg (by simp [hk]), if_neg (by simp [hw])]
end
set_option maxHeartbeats 4000000 in
set_option maxRecDepth 8000 in
theorem gchange_n (g : Gt) (n : Int) (old id : Bs) (q p : Int) (hg : GtSm g) (ha : isAtB g n = false) : ACalls E 85 [gtV g, i64 n, str old, str id, i64 q, i64 p] (fun r t => r = .tup [gtV g, i64 0, i64 1] ∧ t = []) := by
 have hgi := hg.fit
 refine ACalls.of_awp (n := 93) (rs := [.cell 12 58, .tmp 13, .tmp 14]) Tryz.func85 rfl Tryz.ntmps85 rfl ?_
 repeat' (first
 | refine AWP.seqk fun K hK => ?_
 | (refine AWP.region ?_; simp only [go_sem, ha])
 | (refine hK _ ?_; clear hK K)
 | refine AWP.cond rfl (fun c => ?_) (fun c => ?_) <;> first | exact Bool.noConfusion c | (try simp only [dD] at c)
 | (refine ACall.one (gclone_p g hg) (by kernel_rfl) rfl ?_; simp only [go_sem, ha])
 | (refine ACall.one (gisat_c g n hgi) (by kernel_rfl) rfl ?_; simp only [go_sem, ha])
 | (
  refine AWP.ret ?_
  refine AEnd.is ?_; simp only [go_sem, out_v, out_s, out_n, v_int, v_bool, v_str] <;> (first | fail))
 | fail)
set_option maxHeartbeats 16000000 in
set_option maxRecDepth 8000 in
theorem gchange_y (g : Gt) (k : Nat) (w : Vn) (old id : Bs) (q p : Int) (hg : GtSm g) (hx0 : g.venues[k]? = some w) (ha : isAtB g (k : Int) = true) : ACalls E 85 [gtV g, i64 (k : Int), str old, str id, i64 q, i64 p] (fun r t => r = .tup [gtV (changeG g (k : Int) old id q p).1, i64 (changeG g (k : Int) old id q p).2.1, i64 (changeG g (k : Int) old id q p).2.2] ∧ t = []) := by
 have hgi := hg.fit
 have hg1 := hg.1
 have hg2 := hg.2.1
 have hkn := get_lt hx0
 have hsm := isAt_small ha hx0
 obtain ⟨fo, fnd, hff⟩ : ∃ fo fnd, findF w.book.orders old = (fo, fnd) := ⟨_, _, rfl⟩
 refine ACalls.of_awp (n := 93) (rs := [.cell 12 58, .tmp 13, .tmp 14]) Tryz.func85 rfl Tryz.ntmps85 rfl ?_
 repeat' (first
 | (
  refine AWP.cutTo hc1 ?_
  first
  | (refine AWP.renum [0, 1, 2, 3, 5] (by decide) rfl rfl ?_; simp only [go_sem, vn_ren, List.length_map]; refine AWP.weaken ?_ (hc1 m); (try simp only [go_sem]); (repeat' (first | refine And.intro ?_ ?_ | trivial | exact .inr (oblA rfl) | exact .inr bel_vns | fail)); done)
  | (have he : g.venues = [] := Classical.byContradiction fun hne => by
       have := hbb (by simpa using hne)
       simp_all
     refine AWP.nilOwn 2 0 8 _ rfl rfl ?_
     simp only [go_sem]
     refine AWP.weaken ?_ (hc1 0); (try simp only [go_sem, he, List.length_nil, List.map_nil, spare_zero]); (repeat' (first | refine And.intro ?_ ?_ | trivial | exact .inr (oblA rfl) | fail)); done))
 | refine AWP.seqk fun K hK => ?_
 | (
  refine AWP.here 1 5 5 rfl ?_
  first
  | (have h0 := hc1; clear h0; refine AWP.regionL ?_; refine AWPL.at 5 2 rfl ?_; simp only [go_sem])
  | ((fail_if_success (have h0 := hc1)); refine AWP.cutAt (ι := Nat) [5, 6, 7, 8] (fun (m : Nat) => []) (fun (m : Nat) => [some [.agg [vnsV g.venues, lmsV g.limits, bl g.kill, i64 g.now, i64 g.pat]], some [.agg [.nilS, .nilS, bl false, i64 0, i64 0]], some [.agg [.mu 4 8 0 g.venues.length (g.venues.length + m), lmsV g.limits, bl g.kill, i64 g.now, i64 g.pat]], some [.agg [.nilS, .nilS, bl false, i64 0, i64 0]], some (g.venues.map vnV ++ spare 8 m)]) (fun (m : Nat) => []) hK (fun m => ?_) (fun hc1 => ?_)))
 | (refine Cut.mk ?_; simp only [go_sem])
 | (
  refine AWP.here 4 28 5 rfl ?_
  have hxk : ((g.venues.map vnV ++ spare 8 m).set k (vnT w))[k]? = some (vnT w) := List.getElem?_set_self (by simp; omega)
  refine AWP.region ?_; simp only [go_sem, ha])
 | (
  refine AWP.here 5 33 13 rfl ?_
  refine AWP.region ?_; simp only [go_sem, ha, hxk])
 | (
  refine AWP.here 7 49 4 rfl ?_
  refine AWP.forgetAt 4 k 5 rfl hxk rfl ?_
  simp only [go_sem, ha]
  rw [row_back hx0]
  refine AWP.publishLeaf 5 0 (jd := 4) (k := 8) (n := g.venues.length) (cap := g.venues.length + m) _ (g.venues.map vnV ++ spare 8 m) (by decide) rfl rfl rfl (by simp [spare_len]) (by rw [vn_take]; exact cl_vn _) ?_
  rw [vn_take]
  simp only [go_sem, ha]
  refine AWP.region ?_; simp only [go_sem, ha])
 | (
  refine AWP.here 10 59 4 rfl ?_
  refine AWP.forgetAt 4 k 5 rfl hxk rfl ?_
  simp only [go_sem, ha]
  rw [row_back hx0]
  refine AWP.publishLeaf 5 0 (jd := 4) (k := 8) (n := g.venues.length) (cap := g.venues.length + m) _ (g.venues.map vnV ++ spare 8 m) (by decide) rfl rfl rfl (by simp [spare_len]) (by rw [vn_take]; exact cl_vn _) ?_
  rw [vn_take]
  simp only [go_sem, ha]
  refine AWP.region ?_; simp only [go_sem, ha])
 | (
  refine AWP.here 11 60 5 rfl ?_
  refine AWP.region ?_; simp only [go_sem, ha, hxk])
 | (
  refine AWP.here 12 65 4 rfl ?_
  refine AWP.forgetAt 4 k 5 rfl hxk rfl ?_
  simp only [go_sem, ha]
  rw [row_back hx0]
  refine AWP.publishLeaf 5 0 (jd := 4) (k := 8) (n := g.venues.length) (cap := g.venues.length + m) _ (g.venues.map vnV ++ spare 8 m) (by decide) rfl rfl rfl (by simp [spare_len]) (by rw [vn_take]; exact cl_vn _) ?_
  rw [vn_take]
  simp only [go_sem, ha]
  refine AWP.region ?_; simp only [go_sem, ha])
 | (
  refine AWP.here 14 67 9 rfl ?_
  have hmb := may_bnd (show mayB (newOf fo id q p) = true by assumption)
  simp only [newOf] at hmb
  have hw : IntKind.i64.wrap (q - fo.done) = q - fo.done := wrap64_id (by omega) (by omega)
  refine AWP.region ?_; simp only [go_sem, ha, hw])
 | (
  refine AWP.here 17 80 5 rfl ?_
  refine AWP.forgetAt 4 k 5 rfl hxk rfl ?_
  simp only [go_sem, ha]
  rw [row_back hx0]
  refine AWP.publishLeaf 5 0 (jd := 4) (k := 8) (n := g.venues.length) (cap := g.venues.length + m) _ (g.venues.map vnV ++ spare 8 m) (by decide) rfl rfl rfl (by simp [spare_len]) (by rw [vn_take]; exact cl_vn _) ?_
  rw [vn_take]
  simp only [go_sem, ha]
  refine AWP.region ?_; simp only [go_sem, ha])
 | (
  refine AWP.here 18 82 11 rfl ?_
  refine AWP.regionAnyT (.take 0 (.take 1 (.take 2 (.take 3 (.take 4 (.take 5 (.take 6 (.take 7 (.take 8 (.take 9 (.take 10 .done))))))))))) [[], [], [1], [1, 2], [1, 2, 3], [], [5], [1, 2, 3, 4, 5, 6], [0, 1, 2, 3, 4, 5, 6, 7], [0, 1, 2, 3, 4, 5, 6, 7, 8], [0, 1, 2, 3, 4, 5, 6, 7, 8, 9]] [] (by kernel_rfl) (by kernel_rfl) ?_; simp only [go_sem, ha, hxk])
 | (
  refine AWP.here 19 92 4 rfl ?_
  refine AWP.forgetAt 4 k 5 rfl (List.getElem?_set_self (by simp; omega)) rfl ?_
  simp only [go_sem, ha]
  rw [row_sent4 hkn]
  refine AWP.publishLeaf 5 0 (jd := 4) (k := 8) (n := g.venues.length) (cap := g.venues.length + m) _ ((g.venues.set k (sendV w (newOf fo id q p))).map vnV ++ spare 8 m) (by decide) rfl rfl rfl (by simp [spare_len]) (by rw [vn_takeS]; exact cl_vn _) ?_
  rw [vn_takeS]
  simp only [go_sem, ha]
  refine AWP.region ?_; simp only [go_sem, ha])
 | (
  refine AWP.here 5 15 5 rfl ?_
  obtain ⟨v, hx⟩ : ∃ v, g.venues[i]? = some v := ⟨_, List.getElem?_eq_getElem (by omega)⟩
  have hv := hg.2.2 v (List.mem_of_getElem? hx)
  have hx2 : (g.venues.map vnV ++ spare 8 m)[i]? = some (vnV v) := by rw [List.getElem?_append_left (by simpa using get_lt hx), List.getElem?_map, hx]; rfl
  have hvw : i = k → v = w := fun e => by subst e; rw [hx] at hx0; exact Option.some.inj hx0
  (first | have hki := dec_f hbk | (have hki := dec_t hbk; have hx3 : ((g.venues.map vnV ++ spare 8 m).set k (vnT w))[i]? = some (vnV v) := (List.getElem?_set_ne (by omega)).trans hx2))
  refine AWP.region ?_; simp only [go_sem])
 | (
  refine AWP.here 7 29 11 rfl ?_
  (first | rw [row_same hx] | rw [row_same3 (by omega) hx] | fail)
  refine AWP.region ?_; simp only [go_sem])
 | (
  refine AWP.here 8 39 11 rfl ?_
  (first | rw [row_same hx] | rw [row_same3 (by omega) hx] | fail)
  refine AWP.region ?_; simp only [go_sem])
 | (
  refine AWP.here 10 57 2 rfl ?_
  (first | rw [row_same hx] | rw [row_same3 (by omega) hx] | skip)
  (try (obtain rfl := hvw hik1; subst hik1))
  refine AWP.region ?_; simp only [go_sem])
 | (
  refine AWP.here 9 49 9 rfl ?_
  (first | rw [row_same hx] | rw [row_same3 (by omega) hx] | fail)
  rcases Nat.decEq i k with hik0 | hik1 <;> (first | (exfalso; omega) | (refine AWP.region ?_; simp only [go_sem])))
 | (
  refine AWP.here 11 58 5 rfl ?_
  (first | (exfalso; have hki := dec_f hbk; omega) | (have hki := dec_t hbk; refine AWP.region ?_; simp only [go_sem])))
 | (
  refine AWP.here 3 5 4 rfl ?_
  refine AWP.regionL ?_
  refine AWPL.mkMu ap55 ?_
  simp only [go_sem]
  refine AWPL.at 3 1 rfl ?_
  simp only [go_sem]
  refine AWPL.appMu sr55 ap55 rfl rfl rfl (by simp; omega) (by simp; omega) ?_
  intro m
  simp only [go_sem]
  refine AWPL.of ?_
  simp only [go_sem])
 | (refine AWP.here 1 21 4 rfl ?_; refine AWP.regionL ?_; refine AWPL.at 4 1 rfl ?_; simp only [go_sem, ha])
 | (refine AWP.region ?_; simp only [go_sem, ha])
 | (refine hK _ ?_; clear hK K)
 | refine AWP.block ?_
 | refine AWP.cond rfl (fun c => ?_) (fun c => ?_) <;> first | exact Bool.noConfusion c | (try simp only [dD] at c)
 | refine AWP.skip ?_
 | (refine AWP.exit ?_; simp only [go_sem, ha])
 | (refine ACall.one (gisat_c g (k : Int) hgi) (by kernel_rfl) rfl ?_; simp only [go_sem, ha])
 | (refine ACall.one (ofind_c w.book.orders old (by omega)) (by kernel_rfl) rfl ?_; simp only [hff]; simp only [go_sem, ha])
 | (refine ACall.one (omay_c (newOf fo id q p)) (by kernel_rfl) rfl ?_; simp only [go_sem, ha])
 | (refine ACall.one (gknown_c w id (hg.2.2 w (List.mem_of_getElem? hx0)).fit) (by kernel_rfl) rfl ?_; simp only [go_sem, ha])
 | (refine ACall.one (gwhy_c g k w (moreOf fo id q p) hgi hx0 hsm) (by kernel_rfl) rfl ?_; simp only [go_sem, ha])
 | (have h0 := hik1; clear h0; refine ACall.of (oclone_c v.sent hv.2.2.2) (by kernel_rfl) rfl ?_; rintro r t ⟨rfl, rfl⟩; simp only [go_sem])
 | (refine ACall.one (oclone_p v.book.orders hv.1) (by kernel_rfl) rfl ?_; simp only [go_sem])
 | (refine ACall.one (oclone_p v.sent hv.2.2.2) (by kernel_rfl) rfl ?_; simp only [go_sem])
 | (refine ACall.one (dclone_p v.book.fills hv.2.1) (by kernel_rfl) rfl ?_; simp only [go_sem])
 | (refine ACall.one (sclone_p v.book.ids hv.2.2.1) (by kernel_rfl) rfl ?_; simp only [go_sem])
 | (refine ACall.one (limclone_p g.limits hg2) (by kernel_rfl) rfl ?_; simp only [go_sem])
 | (refine AWPL.call (rs := [.cell 2 58]) Tryz.func76 rfl Tryz.ntmps76 rfl (by kernel_rfl) rfl rfl ?_; simp only [go_sem])
 | (refine AWPL.call (rs := [.tmp 2]) Tryz.func144 rfl Tryz.ntmps144 rfl (by kernel_rfl) rfl rfl ?_; simp only [go_sem])
 | (refine AGuard.split (fun h => ?_) (fun h => ?_) <;> simp only [h, go_sem, ha] <;> (try simp only [dD] at h))
 | (refine AGet.haveM (by assumption) ?_; (try simp only [go_sem, ha]))
 | (refine AGet.have' (by assumption) ?_; (try simp only [go_sem, ha]))
 | ((first | with_reducible refine And.intro ?_ ?_); (focus (first | omega | (simp; done) | fail)); (try simp only [hb, go_sem, ha]))
 | (
  refine AWP.here 3 13 1 rfl ?_
  refine AWP.loopM (ι := Bool × Nat) [3, 4, 13, 14, 15, 16, 17, 18, 19, 20, 21, 22, 23, 24, 25, 26, 27, 28, 29, 30, 31, 32, 33, 34, 35, 36, 37, 38, 39, 40, 41, 42, 43, 44, 45, 46, 47, 48, 49, 50, 51, 52, 53, 54, 55, 56, 57] (fun ⟨bk, i⟩ => [(12, i64 i)]) (fun ⟨bk, i⟩ => [some [.agg [vnsV g.venues, lmsV g.limits, bl g.kill, i64 g.now, i64 g.pat]], some [.agg [.nilS, .nilS, bl false, i64 0, i64 0]], some [.agg [.mu 4 8 0 g.venues.length (g.venues.length + m), lmsV g.limits, bl g.kill, i64 g.now, i64 g.pat]], some [.agg [.nilS, .nilS, bl false, i64 0, i64 0]], some (bif bk then ((g.venues.map vnV ++ spare 8 m).set k (vnT w)) else (g.venues.map vnV ++ spare 8 m))]) (fun ⟨bk, i⟩ => (bif bk then [w.sent.length] else [])) (fun ⟨bk, i⟩ => i ≤ g.venues.length ∧ bk = decide (k < i)) (fun ⟨bk, i⟩ => g.venues.length - i) ((false, 0)) ?_ ?_ ?_
  · (try simp only [go_sem]); (repeat' (first | refine And.intro ?_ ?_ | trivial | exact .inr (oblA rfl) | exact .inr bel_vns | fail)); done
  · exact ⟨by omega, by simp⟩
  rintro ⟨bk, i⟩ ⟨h1, hbk⟩
  simp only [go_sem]
  cases bk <;> simp only [cond_true, cond_false])
 | (
  refine ⟨(false, i + 1), ?_, ?_, ?_⟩
  · (try simp only [go_sem]); (try rw [wrap64_id (by omega) (by omega)]); (repeat' (first | refine And.intro ?_ ?_ | exact .inr rfl | exact .inr (oblA rfl) | exact .inr bel_vns | exact .inr ⟨by simp, by simp⟩)); done
  · (first | exact ⟨by omega, dec_ff (by omega)⟩ | fail)
  · (try simp only []); omega)
 | (
  refine ⟨(true, i + 1), ?_, ?_, ?_⟩
  · (try simp only [go_sem]); (try rw [wrap64_id (by omega) (by omega)]); (repeat' (first | refine And.intro ?_ ?_ | exact .inr rfl | trivial | exact .inr (oblA rfl) | exact .inr (bel_vnt (by decide)) | fail)); done
  · (first | exact ⟨by omega, dec_tt (by omega)⟩)
  · (try simp only []); omega)
 | (
  refine AWP.ret ?_
  refine AEnd.is ?_; simp only [go_sem, out_v, out_s, out_n, v_int, v_bool, v_str] <;> (first
  | (rw [change_e6 ha hx0 hff (.inl (by assumption))]; simp; done)
  | (rw [change_e6 ha hx0 hff (.inr (by assumption))]; simp; done)
  | (rw [change_e1 ha hx0 hff (by assumption) (by assumption) (by assumption)]; simp; done)
  | (rw [change_e7 ha hx0 hff (by assumption) (by assumption) (by assumption) (by simp [knownB]; assumption)]; simp; done)
  | (rw [change_why ha hx0 hff (by assumption) (by assumption) (by assumption) (known_no (by assumption)) (by assumption)]; simp; done)
  | (rw [change_in ha hx0 hff (by assumption) (by assumption) (by assumption) (known_no (by assumption)) (by assumption)]; simp [withG]; done)
  | fail))
 | (refine AWP.ret ?_; refine AInPost.ret rfl ?_; simp only [go_sem, ha])
 | (refine AWP.ret ?_; simp only [inb_ret, athen_ret]; refine AInPost.ret rfl ?_; simp only [go_sem, ha])
 | (refine AWPL.of ?_; simp only [go_sem, ha])
 | ((fail_if_success (have := hbb)); (with_reducible intro bb hbb))
 | refine AWP.fin (by assumption) ?_
 | fail)
theorem gchange_c (g : Gt) (n : Int) (old id : Bs) (q p : Int) (hg : GtSm g) : ACalls E 85 [gtV g, i64 n, str old, str id, i64 q, i64 p] (fun r t => r = .tup [gtV (changeG g n old id q p).1, i64 (changeG g n old id q p).2.1, i64 (changeG g n old id q p).2.2] ∧ t = []) := by
 cases ha : isAtB g n with
 | false => rw [change_no ha]; exact gchange_n g n old id q p hg ha
 | true =>
   obtain ⟨k, v, rfl, hx⟩ := isAt_get ha
   exact gchange_y g k v old id q p hg hx ha
end Go.Proofs.YtajeeghgiilhiaaGreat
end
section
set_option linter.unusedSectionVars false
namespace Go.Stb
set_option linter.unusedSectionVars false
open Go.Sort
variable {α : Type} [Inhabited α]
def swpR (a b n i : Nat) (d : Array α) : Array α := if i < n then swpR a b n (i + 1) (swp d (a + i) (b + i)) else d
termination_by n - i
def rotL (m i j : Nat) (d : Array α) : Array α :=
 if h : i = 0 ∨ j = 0 then d
 else if i = j then swpR (m - i) m i 0 d
 else if j < i then rotL m (i - j) j (swpR (m - i) m j 0 d)
 else rotL m i (j - i) (swpR (m - i) (m + j - i) i 0 d)
termination_by i + j
decreasing_by all_goals omega
def bsG (q : Nat → Bool) (i j : Nat) : Nat := if i < j then (if q ((i + j) / 2) = true then bsG q ((i + j) / 2 + 1) j else bsG q i ((i + j) / 2)) else i
termination_by j - i
decreasing_by all_goals omega
def upS (k e : Nat) (d : Array α) : Array α := if k + 1 < e then upS (k + 1) e (swp d k (k + 1)) else d
termination_by e - k
def dnS (i : Nat) : Nat → Array α → Array α
 | 0, d => d
 | k + 1, d => if i < k + 1 then dnS i k (swp d (k + 1) k) else d
section
variable (lt : α → α → Bool)
def sCut (a m b : Nat) (d : Array α) : Nat := bsG (fun c => !lt d[(a + b) / 2 + m - 1 - c]! d[c]!) (if (a + b) / 2 < m then (a + b) / 2 + m - b else a) (if (a + b) / 2 < m then (a + b) / 2 else m)
def rotIf (a m b : Nat) (d : Array α) : Array α := if sCut lt a m b d < m ∧ m < (a + b) / 2 + m - sCut lt a m b d then rotL m (m - sCut lt a m b d) ((a + b) / 2 + m - sCut lt a m b d - m) d else d
def symM (a m b : Nat) (d : Array α) : Array α :=
 if m - a = 1 then upS a (bsG (fun h => lt d[h]! d[a]!) m b) d
 else if b - m = 1 then dnS (bsG (fun h => !lt d[m]! d[h]!) a m) m d
 else
   if h2 : (a + b) / 2 < (a + b) / 2 + m - sCut lt a m b d ∧ (a + b) / 2 + m - sCut lt a m b d < b then
     symM ((a + b) / 2) ((a + b) / 2 + m - sCut lt a m b d) b (if h1 : a < sCut lt a m b d ∧ sCut lt a m b d < (a + b) / 2 then symM a (sCut lt a m b d) ((a + b) / 2) (rotIf lt a m b d) else rotIf lt a m b d)
   else if h1 : a < sCut lt a m b d ∧ sCut lt a m b d < (a + b) / 2 then symM a (sCut lt a m b d) ((a + b) / 2) (rotIf lt a m b d) else rotIf lt a m b d
termination_by b - a
decreasing_by all_goals omega
def insB (n a b : Nat) (d : Array α) : Array α := if b ≤ n then insB n b (b + 20) (insertionSort lt d a b) else insertionSort lt d a n
termination_by n + 1 - b
def mrgP (n s a b : Nat) (d : Array α) : Array α :=
 if s = 0 then d else if b ≤ n then mrgP n s b (b + 2 * s) (symM lt a (a + s) b d) else if a + s < n then symM lt a (a + s) n d else d
termination_by n + 1 - b
def mrgL (n s : Nat) (d : Array α) : Array α := if h : 0 < s ∧ s < n then mrgL n (s * 2) (mrgP lt n s 0 (2 * s) d) else d
termination_by n - s
def stable (d : Array α) : Array α := mrgL lt d.size 20 (insB lt d.size 0 20 d)
end
theorem sg (d : Array α) {i j : Nat} (hi : i < d.size) (hj : j < d.size) (k : Nat) : (swp d i j)[k]! = if k = i then d[j]! else if k = j then d[i]! else d[k]! := by
 by_cases h1 : k = i
 · subst h1; rw [if_pos rfl]
   by_cases h2 : k = j
   · subst h2; exact swp_right d k k hj
   · exact swp_left d k j hi h2
 · rw [if_neg h1]
   by_cases h2 : k = j
   · subst h2; rw [if_pos rfl]; exact swp_right d i k hj
   · rw [if_neg h2]; exact swp_other d i j k h1 h2
theorem swpR_perm {a b n x y : Nat} : ∀ (r i : Nat) (d : Array α), n - i = r → x ≤ a → a + n ≤ y → x ≤ b → b + n ≤ y → y ≤ d.size → PermIn x y d (swpR a b n i d)
 | 0, i, d, hr, _, _, _, _, _ => by rw [swpR, if_neg (by omega)]; exact permIn_refl d x y
 | r + 1, i, d, hr, h1, h2, h3, h4, h5 => by
   rw [swpR, if_pos (by omega)]
   have h := swp_permIn d x y (a + i) (b + i) (by omega) (by omega) (by omega) (by omega) h5
   exact permIn_trans _ _ _ x y h (swpR_perm r (i + 1) _ (by omega) h1 h2 h3 h4 (by rw [size_swp]; exact h5))
theorem swpR_size (a b n : Nat) : ∀ (r i : Nat) (d : Array α), n - i = r → (swpR a b n i d).size = d.size
 | 0, i, d, hr => by rw [swpR, if_neg (by omega)]
 | r + 1, i, d, hr => by rw [swpR, if_pos (by omega), swpR_size a b n r (i + 1) _ (by omega), size_swp]
theorem swpR_get {a b n : Nat} (hab : a + n ≤ b) : ∀ (r i : Nat) (d : Array α), n - i = r → b + n ≤ d.size → ∀ k,
   (swpR a b n i d)[k]! = if a + i ≤ k ∧ k < a + n then d[k - a + b]! else if b + i ≤ k ∧ k < b + n then d[k - b + a]! else d[k]!
 | 0, i, d, hr, hb, k => by rw [swpR, if_neg (by omega), if_neg (by omega), if_neg (by omega)]
 | r + 1, i, d, hr, hb, k => by
   rw [swpR, if_pos (by omega), swpR_get hab r (i + 1) _ (by omega) (by rw [size_swp]; exact hb)]
   have g := sg d (i := a + i) (j := b + i) (by omega) (by omega)
   rw [g, g, g]
   by_cases h1 : a + (i + 1) ≤ k ∧ k < a + n
   · rw [if_pos h1, if_neg (by omega), if_neg (by omega), if_pos (by omega)]
   · rw [if_neg h1]
     by_cases h2 : b + (i + 1) ≤ k ∧ k < b + n
     · rw [if_pos h2, if_neg (by omega), if_neg (by omega), if_neg (by omega), if_pos (by omega)]
     · rw [if_neg h2]
       by_cases h3 : k = a + i
       · subst h3; rw [if_pos rfl, if_pos (by omega)]; congr 1; omega
       · rw [if_neg h3]
         by_cases h4 : k = b + i
         · subst h4; rw [if_pos rfl, if_neg (by omega), if_pos (by omega)]; congr 1; omega
         · rw [if_neg h4, if_neg (by omega), if_neg (by omega)]
theorem rotL_perm {m x y : Nat} : ∀ (r i j : Nat) (d : Array α), i + j ≤ r → x + i ≤ m → m + j ≤ y → y ≤ d.size → PermIn x y d (rotL m i j d)
 | r, i, j, d, hr, h1, h2, h3 => by
   rw [rotL]
   split
   · exact permIn_refl d x y
   · rename_i h0
     split
     · exact swpR_perm _ 0 d rfl (by omega) (by omega) (by omega) (by omega) h3
     · split
       · rename_i hn hj
         match r, hr with
         | r + 1, hr => exact permIn_trans _ _ _ x y (swpR_perm _ 0 d rfl (by omega) (by omega) (by omega) (by omega) h3) (rotL_perm r (i - j) j _ (by omega) (by omega) h2 (by rw [swpR_size _ _ _ _ 0 d rfl]; exact h3))
         | 0, hr => omega
       · rename_i hn hj
         match r, hr with
         | r + 1, hr => exact permIn_trans _ _ _ x y (swpR_perm _ 0 d rfl (by omega) (by omega) (by omega) (by omega) h3) (rotL_perm r i (j - i) _ (by omega) h1 (by omega) (by rw [swpR_size _ _ _ _ 0 d rfl]; exact h3))
         | 0, hr => omega
theorem rotL_get {m : Nat} : ∀ (r i j : Nat) (d : Array α), i + j ≤ r → i ≤ m → m + j ≤ d.size → 0 < i → 0 < j → ∀ k,
   (rotL m i j d)[k]! = if m - i ≤ k ∧ k < m - i + j then d[k + i]! else if m - i + j ≤ k ∧ k < m + j then d[k - j]! else d[k]!
 | r, i, j, d, hr, h1, h2, hi, hj, k => by
   rw [rotL, dif_neg (by omega)]
   by_cases e : i = j
   · subst e
     rw [if_pos rfl, swpR_get (by omega) _ 0 d rfl (by omega)]
     by_cases q1 : m - i ≤ k ∧ k < m - i + i
     · rw [if_pos (by omega), if_pos q1]; congr 1; omega
     · rw [if_neg (by omega), if_neg q1]
       by_cases q2 : m - i + i ≤ k ∧ k < m + i
       · rw [if_pos (by omega), if_pos q2]; congr 1; omega
       · rw [if_neg (by omega), if_neg q2]
   · rw [if_neg e]
     by_cases l : j < i
     · rw [if_pos l]
       match r, hr with
       | 0, hr => omega
       | r + 1, hr =>
         rw [rotL_get r (i - j) j _ (by omega) (by omega) (by rw [swpR_size _ _ _ _ 0 d rfl]; exact h2) (by omega) hj]
         simp only [swpR_get (a := m - i) (b := m) (n := j) (by omega) _ 0 d rfl (by omega)]
         by_cases q1 : m - i ≤ k ∧ k < m - i + j
         · rw [if_neg (by omega), if_neg (by omega), if_pos (by omega), if_pos q1]; congr 1; omega
         · by_cases q2 : m - i + j ≤ k ∧ k < m + j
           · rw [if_neg q1, if_pos q2]
             by_cases q3 : m - (i - j) ≤ k ∧ k < m - (i - j) + j
             · rw [if_pos q3]
               by_cases q4 : k + (i - j) < m
               · omega
               · rw [if_neg (by omega), if_pos (by omega)]; congr 1; omega
             · rw [if_neg q3, if_pos (by omega), if_neg (by omega), if_neg (by omega)]
           · rw [if_neg q1, if_neg q2, if_neg (by omega), if_neg (by omega), if_neg (by omega), if_neg (by omega)]
     · rw [if_neg l]
       match r, hr with
       | 0, hr => omega
       | r + 1, hr =>
         rw [rotL_get r i (j - i) _ (by omega) (by omega) (by rw [swpR_size _ _ _ _ 0 d rfl]; omega) hi (by omega)]
         simp only [swpR_get (a := m - i) (b := m + j - i) (n := i) (by omega) _ 0 d rfl (by omega)]
         by_cases q1 : m - i ≤ k ∧ k < m - i + j
         · rw [if_pos q1]
           by_cases q3 : k < m - i + (j - i)
           · rw [if_pos (by omega), if_neg (by omega), if_neg (by omega)]
           · by_cases q5 : k < m
             · rw [if_neg (by omega), if_pos (by omega)]
               by_cases q4 : m - i ≤ k - (j - i) ∧ k - (j - i) < m - i + i
               · rw [if_pos (by omega)]; congr 1; omega
               · omega
             · rw [if_neg (by omega), if_pos (by omega), if_pos (by omega)]; congr 1; omega
         · by_cases q2 : m - i + j ≤ k ∧ k < m + j
           · rw [if_neg q1, if_pos q2, if_neg (by omega), if_neg (by omega), if_neg (by omega), if_pos (by omega)]; congr 1; omega
           · rw [if_neg q1, if_neg q2, if_neg (by omega), if_neg (by omega), if_neg (by omega), if_neg (by omega)]
theorem bsG_spec {q : Nat → Bool} {lo hi : Nat} (mono : ∀ x y, lo ≤ x → x ≤ y → y < hi → q y = true → q x = true) : ∀ (r i j : Nat), j - i ≤ r → lo ≤ i → i ≤ j → j ≤ hi → (∀ x, lo ≤ x → x < i → q x = true) → (∀ x, j ≤ x → x < hi → q x = false) →
   i ≤ bsG q i j ∧ bsG q i j ≤ j ∧ (∀ x, lo ≤ x → x < bsG q i j → q x = true) ∧ (∀ x, bsG q i j ≤ x → x < hi → q x = false)
 | r, i, j, hr, h1, h2, h3, h4, h5 => by
   rw [bsG]
   by_cases hij : i < j
   · rw [if_pos hij]
     match r, hr with
     | 0, hr => omega
     | r + 1, hr =>
       by_cases hq : q ((i + j) / 2) = true
       · rw [if_pos hq]
         have := bsG_spec mono r ((i + j) / 2 + 1) j (by omega) (by omega) (by omega) h3 (fun x a b => mono x _ a (by omega) (by omega) hq) h5
         exact ⟨by omega, this.2.1, this.2.2⟩
       · rw [if_neg hq]
         have := bsG_spec mono r i ((i + j) / 2) (by omega) h1 (by omega) (by omega) h4 (fun x a b => by
           cases hx : q x with
           | false => rfl
           | true => exact absurd (mono _ x (by omega) a b hx) hq)
         exact ⟨this.1, by omega, this.2.2⟩
   · rw [if_neg hij]
     exact ⟨Nat.le_refl _, h2, h4, fun x a b => h5 x (by omega) b⟩
theorem upS_perm {x y e : Nat} : ∀ (r k : Nat) (d : Array α), e - k ≤ r → x ≤ k → e ≤ y → y ≤ d.size → PermIn x y d (upS k e d)
 | r, k, d, hr, h1, h2, h3 => by
   rw [upS]
   split
   · match r, hr with
     | 0, hr => omega
     | r + 1, hr => exact permIn_trans _ _ _ x y (swp_permIn d x y k (k + 1) h1 (by omega) (by omega) (by omega) h3) (upS_perm r (k + 1) _ (by omega) (by omega) h2 (by rw [size_swp]; exact h3))
   · exact permIn_refl d x y
theorem upS_get {e : Nat} : ∀ (r k : Nat) (d : Array α), e - k ≤ r → e ≤ d.size → ∀ x, (upS k e d)[x]! = if k ≤ x ∧ x + 1 < e then d[x + 1]! else if k ≤ x ∧ x + 1 = e then d[k]! else d[x]!
 | r, k, d, hr, h, x => by
   rw [upS]
   by_cases hk : k + 1 < e
   · rw [if_pos hk]
     match r, hr with
     | 0, hr => omega
     | r + 1, hr =>
       rw [upS_get r (k + 1) _ (by omega) (by rw [size_swp]; exact h)]
       simp only [sg d (i := k) (j := k + 1) (by omega) (by omega)]
       by_cases q1 : k + 1 ≤ x ∧ x + 1 < e
       · rw [if_pos q1, if_neg (by omega), if_neg (by omega), if_pos (by omega)]
       · rw [if_neg q1]
         by_cases q2 : k + 1 ≤ x ∧ x + 1 = e
         · rw [if_pos q2, if_neg (by omega), if_pos trivial, if_neg (by omega), if_pos (by omega)]
         · rw [if_neg q2]
           by_cases q3 : x = k
           · subst q3; rw [if_pos rfl, if_pos (by omega)]
           · rw [if_neg q3, if_neg (by omega), if_neg (by omega), if_neg (by omega)]
   · rw [if_neg hk, if_neg (by omega)]
     by_cases q : k ≤ x ∧ x + 1 = e
     · rw [if_pos q]; congr 1; omega
     · rw [if_neg q]
theorem dnS_perm {x y i : Nat} : ∀ (k : Nat) (d : Array α), x ≤ i → k < y → y ≤ d.size → PermIn x y d (dnS i k d)
 | 0, d, _, _, _ => permIn_refl d x y
 | k + 1, d, h1, h2, h3 => by
   unfold dnS
   split
   · exact permIn_trans _ _ _ x y (swp_permIn d x y (k + 1) k (by omega) h2 (by omega) (by omega) h3) (dnS_perm k _ h1 (by omega) (by rw [size_swp]; exact h3))
   · exact permIn_refl d x y
theorem dnS_get {i : Nat} : ∀ (k : Nat) (d : Array α), k < d.size → ∀ x, (dnS i k d)[x]! = if i < x ∧ x ≤ k then d[x - 1]! else if x = i ∧ i ≤ k then d[k]! else d[x]!
 | 0, d, h, x => by
   unfold dnS
   rw [if_neg (by omega)]
   by_cases q : x = i ∧ i ≤ 0
   · rw [if_pos q]; congr 1; omega
   · rw [if_neg q]
 | k + 1, d, h, x => by
   unfold dnS
   by_cases hk : i < k + 1
   · rw [if_pos hk, dnS_get k _ (by rw [size_swp]; omega)]
     simp only [sg d (i := k + 1) (j := k) (by omega) (by omega)]
     by_cases q1 : i < x ∧ x ≤ k
     · rw [if_pos q1, if_neg (by omega), if_neg (by omega), if_pos (by omega)]
     · rw [if_neg q1]
       by_cases q2 : x = i ∧ i ≤ k
       · rw [if_pos q2, if_neg (by omega), if_pos trivial, if_neg (by omega), if_pos (by omega)]
       · rw [if_neg q2]
         by_cases q3 : x = k + 1
         · subst q3; rw [if_pos rfl, if_pos (by omega)]; rfl
         · rw [if_neg q3, if_neg (by omega), if_neg (by omega), if_neg (by omega)]
   · rw [if_neg hk, if_neg (by omega)]
     by_cases q : x = i ∧ i ≤ k + 1
     · rw [if_pos q]; congr 1; omega
     · rw [if_neg q]
section
variable {lt : α → α → Bool}
theorem asym (h : SWO lt) {x y : α} (hxy : lt x y = true) : lt y x = false := by
 cases hyx : lt y x with
 | false => rfl
 | true => have := h.trans x y x hxy hyx; rw [h.irrefl] at this; cases this
theorem srt_congr {a b : Nat} {d d' : Array α} (hs : SortedIn lt a b d) (h : ∀ i, a ≤ i → i < b → d'[i]! = d[i]!) : SortedIn lt a b d' := fun i j hi hij hj => by
 rw [h i hi (by omega), h j (by omega) hj]
 exact hs i j hi hij hj
theorem one1 (hS : SWO lt) {a b : Nat} {d : Array α} (hb : b ≤ d.size) (hab : a + 1 < b) (h2 : SortedIn lt (a + 1) b d) :
   PermIn a b d (upS a (bsG (fun h => lt d[h]! d[a]!) (a + 1) b) d) ∧ SortedIn lt a b (upS a (bsG (fun h => lt d[h]! d[a]!) (a + 1) b) d) := by
 obtain ⟨b1, b2, b3, b4⟩ := bsG_spec (q := fun h => lt d[h]! d[a]!) (lo := a + 1) (hi := b) (fun x y h1 hxy hy hq => by
   cases hx : lt d[x]! d[a]! with
   | true => rfl
   | false =>
     rcases Nat.lt_or_ge x y with h | h
     · have := hS.ntrans _ _ _ (h2 x y h1 h hy) hx
       simp only [this] at hq; cases hq
     · have : x = y := by omega
       subst this; simp only [hx] at hq; cases hq) _ (a + 1) b (Nat.le_refl _) (Nat.le_refl _) (by omega) (Nat.le_refl _) (fun x h1 h2 => by omega) (fun x h1 h2 => by omega)
 generalize bsG (fun h => lt d[h]! d[a]!) (a + 1) b = i at *
 refine ⟨upS_perm _ a d (Nat.le_refl _) (Nat.le_refl _) b2 hb, fun p q hp hpq hq => ?_⟩
 simp only [upS_get (e := i) _ a d (Nat.le_refl _) (by omega)]
 by_cases c1 : q + 1 < i
 · rw [if_pos (by omega), if_pos (by omega)]; exact h2 _ _ (by omega) (by omega) (by omega)
 · by_cases c2 : q + 1 = i
   · rw [if_neg (by omega), if_pos (by omega), if_pos (by omega)]
     exact asym hS (b3 (p + 1) (by omega) (by omega))
   · rw [if_neg (by omega), if_neg (by omega)]
     by_cases c3 : p + 1 < i
     · rw [if_pos (by omega)]; exact h2 _ _ (by omega) (by omega) (by omega)
     · rw [if_neg (by omega)]
       by_cases c4 : p + 1 = i
       · rw [if_pos (by omega)]; exact b4 q (by omega) hq
       · rw [if_neg (by omega)]; exact h2 _ _ (by omega) (by omega) (by omega)
theorem one2 (hS : SWO lt) {a m : Nat} {d : Array α} (hb : m + 1 ≤ d.size) (hab : a < m) (h2 : SortedIn lt a m d) :
   PermIn a (m + 1) d (dnS (bsG (fun h => !lt d[m]! d[h]!) a m) m d) ∧ SortedIn lt a (m + 1) (dnS (bsG (fun h => !lt d[m]! d[h]!) a m) m d) := by
 obtain ⟨b1, b2, b3, b4⟩ := bsG_spec (q := fun h => !lt d[m]! d[h]!) (lo := a) (hi := m) (fun x y h1 hxy hy hq => by
   simp only [Bool.not_eq_true'] at hq ⊢
   rcases Nat.lt_or_ge x y with h | h
   · exact hS.ntrans _ _ _ hq (h2 x y h1 h hy)
   · have : x = y := by omega
     subst this; exact hq) _ a m (Nat.le_refl _) (Nat.le_refl _) (by omega) (Nat.le_refl _) (fun x h1 h2 => by omega) (fun x h1 h2 => by omega)
 generalize bsG (fun h => !lt d[m]! d[h]!) a m = i at *
 simp only [Bool.not_eq_true', Bool.not_eq_false'] at b3 b4
 refine ⟨dnS_perm m d b1 (by omega) hb, fun p q hp hpq hq => ?_⟩
 simp only [dnS_get (i := i) m d (by omega)]
 by_cases c1 : q < i
 · rw [if_neg (by omega), if_neg (by omega), if_neg (by omega), if_neg (by omega)]; exact h2 _ _ hp hpq (by omega)
 · by_cases c2 : q = i
   · rw [if_neg (by omega), if_pos (by omega), if_neg (by omega), if_neg (by omega)]; exact b3 p hp (by omega)
   · rw [if_pos (by omega)]
     by_cases c3 : p < i
     · rw [if_neg (by omega), if_neg (by omega)]; exact h2 _ _ hp (by omega) (by omega)
     · by_cases c4 : p = i
       · rw [if_neg (by omega), if_pos (by omega)]; exact asym hS (b4 (q - 1) (by omega) (by omega))
       · rw [if_pos (by omega)]; exact h2 _ _ (by omega) (by omega) (by omega)
theorem cut_spec (hS : SWO lt) {a m b : Nat} {d : Array α} (ham : a < m) (hmb : m < b) (h1 : SortedIn lt a m d) (h2 : SortedIn lt m b d) :
   a ≤ sCut lt a m b d ∧ sCut lt a m b d ≤ m ∧ sCut lt a m b d ≤ (a + b) / 2 ∧ (a + b) / 2 + m - sCut lt a m b d ≤ b ∧
   (∀ i j, a ≤ i → i < sCut lt a m b d → (a + b) / 2 + m - sCut lt a m b d ≤ j → j < b → lt d[j]! d[i]! = false) ∧
   (∀ i j, m ≤ i → i < (a + b) / 2 + m - sCut lt a m b d → sCut lt a m b d ≤ j → j < m → lt d[j]! d[i]! = false) := by
 have key : ∀ mid s0 r0, mid = (a + b) / 2 → a ≤ s0 → s0 ≤ r0 → r0 ≤ m → r0 ≤ mid → mid + m ≤ b + s0 → (s0 = a ∨ mid + m = b + s0) → (r0 = m ∨ r0 = mid) →
     ∀ s, s = bsG (fun c => !lt d[mid + m - 1 - c]! d[c]!) s0 r0 → a ≤ s ∧ s ≤ m ∧ s ≤ mid ∧ mid + m - s ≤ b ∧
     (∀ i j, a ≤ i → i < s → mid + m - s ≤ j → j < b → lt d[j]! d[i]! = false) ∧ (∀ i j, m ≤ i → i < mid + m - s → s ≤ j → j < m → lt d[j]! d[i]! = false) := by
   intro mid s0 r0 hmid e1 e2 e3 e4 e5 e6 e7 s hs
   obtain ⟨b1, b2, b3, b4⟩ := bsG_spec (q := fun c => !lt d[mid + m - 1 - c]! d[c]!) (lo := s0) (hi := r0) (fun x y hx hxy hy hq => by
     simp only [Bool.not_eq_true'] at hq ⊢
     rcases Nat.lt_or_ge x y with h | h
     · have q1 := h1 x y (by omega) h (by omega)
       have q2 := h2 (mid + m - 1 - y) (mid + m - 1 - x) (by omega) (by omega) (by omega)
       exact hS.ntrans _ _ _ (hS.ntrans _ _ _ q2 hq) q1
     · have : x = y := by omega
       subst this; exact hq) _ s0 r0 (Nat.le_refl _) (Nat.le_refl _) e2 (Nat.le_refl _) (fun x h1 h2 => by omega) (fun x h1 h2 => by omega)
   rw [← hs] at b1 b2 b3 b4
   simp only [Bool.not_eq_true', Bool.not_eq_false'] at b3 b4
   refine ⟨by omega, by omega, by omega, by omega, fun i j hi his hj hjb => ?_, fun i j hi hie hj hjm => ?_⟩
   · have q := b3 (s - 1) (by omega) (by omega)
     rw [show mid + m - 1 - (s - 1) = mid + m - s by omega] at q
     have q1 : lt d[s - 1]! d[i]! = false := by
       rcases Nat.lt_or_ge i (s - 1) with h | h
       · exact h1 i (s - 1) hi h (by omega)
       · have : i = s - 1 := by omega
         subst this; exact hS.irrefl _
     have q2 : lt d[j]! d[mid + m - s]! = false := by
       rcases Nat.lt_or_ge (mid + m - s) j with h | h
       · exact h2 _ j (by omega) h hjb
       · have : j = mid + m - s := by omega
         subst this; exact hS.irrefl _
     exact hS.ntrans _ _ _ q2 (hS.ntrans _ _ _ q q1)
   · have q := asym hS (b4 s (Nat.le_refl _) (by omega))
     rw [show mid + m - 1 - s = mid + m - s - 1 by omega] at q
     have q1 : lt d[mid + m - s - 1]! d[i]! = false := by
       rcases Nat.lt_or_ge i (mid + m - s - 1) with h | h
       · exact h2 i _ hi h (by omega)
       · have : i = mid + m - s - 1 := by omega
         subst this; exact hS.irrefl _
     have q2 : lt d[j]! d[s]! = false := by
       rcases Nat.lt_or_ge s j with h | h
       · exact h1 s j (by omega) h hjm
       · have : j = s := by omega
         subst this; exact hS.irrefl _
     exact hS.ntrans _ _ _ q2 (hS.ntrans _ _ _ q q1)
 unfold sCut
 by_cases c : (a + b) / 2 < m
 · simp only [if_pos c]
   exact key _ _ _ rfl (by omega) (by omega) (by omega) (by omega) (by omega) (.inr (by omega)) (.inr rfl) _ rfl
 · simp only [if_neg c]
   exact key _ _ _ rfl (by omega) (by omega) (by omega) (by omega) (by omega) (.inl rfl) (.inl rfl) _ rfl
theorem rotIf_spec {a m b : Nat} {d : Array α} (hb : b ≤ d.size) {s mid : Nat} (hs : s = sCut lt a m b d) (hmid : mid = (a + b) / 2) (h1 : a ≤ s) (h2 : s ≤ m) (h3 : s ≤ mid) (h4 : mid + m - s ≤ b) :
   PermIn a b d (rotIf lt a m b d) ∧ ∀ k, (rotIf lt a m b d)[k]! = if s ≤ k ∧ k < mid then d[k + (m - s)]! else if mid ≤ k ∧ k < mid + m - s then d[k - (mid - s)]! else d[k]! := by
 unfold rotIf
 rw [← hs, ← hmid]
 by_cases c : s < m ∧ m < mid + m - s
 · rw [if_pos c]
   refine ⟨rotL_perm _ _ _ d (Nat.le_refl _) (by omega) (by omega) hb, fun k => ?_⟩
   rw [rotL_get _ _ _ d (Nat.le_refl _) (by omega) (by omega) (by omega) (by omega)]
   by_cases q1 : s ≤ k ∧ k < mid
   · rw [if_pos (by omega), if_pos q1]
   · rw [if_neg (by omega), if_neg q1]
     by_cases q2 : mid ≤ k ∧ k < mid + m - s
     · rw [if_pos (by omega), if_pos q2]; congr 1; omega
     · rw [if_neg (by omega), if_neg q2]
 · rw [if_neg c]
   refine ⟨permIn_refl d a b, fun k => ?_⟩
   by_cases q1 : s ≤ k ∧ k < mid
   · rw [if_pos q1]; congr 1; omega
   · rw [if_neg q1]
     by_cases q2 : mid ≤ k ∧ k < mid + m - s
     · rw [if_pos q2]; congr 1; omega
     · rw [if_neg q2]
theorem symM_spec (hS : SWO lt) : ∀ (r a m b : Nat) (d : Array α), b - a ≤ r → a < m → m < b → b ≤ d.size → SortedIn lt a m d → SortedIn lt m b d → PermIn a b d (symM lt a m b d) ∧ SortedIn lt a b (symM lt a m b d)
 | r, a, m, b, d, hr, ham, hmb, hb, h1, h2 => by
   rw [symM]
   by_cases c1 : m - a = 1
   · rw [if_pos c1]
     obtain rfl : m = a + 1 := by omega
     exact one1 hS hb (by omega) h2
   · rw [if_neg c1]
     by_cases c2 : b - m = 1
     · rw [if_pos c2]
       obtain rfl : b = m + 1 := by omega
       exact one2 hS hb ham h1
     · rw [if_neg c2]
       obtain ⟨s1, s2, s3, s4, x1, x2⟩ := cut_spec hS ham hmb h1 h2
       obtain ⟨s, hs⟩ : ∃ s, s = sCut lt a m b d := ⟨_, rfl⟩
       obtain ⟨mid, hmid⟩ : ∃ mid, mid = (a + b) / 2 := ⟨_, rfl⟩
       rw [← hs] at s1 s2 s3 s4 x1 x2
       rw [← hmid] at s3 s4 x1 x2
       obtain ⟨p1, g1⟩ := rotIf_spec hb hs hmid s1 s2 s3 s4
       rw [← hs, ← hmid]
       generalize rotIf lt a m b d = d1 at p1 g1 ⊢
       have z1 : d1.size = d.size := p1.1
       have L1 : SortedIn lt a s d1 := srt_congr (fun i j x y z => h1 i j x y (by omega)) fun i x y => by rw [g1, if_neg (by omega), if_neg (by omega)]
       have L2 : SortedIn lt s mid d1 := fun i j x y z => by
         rw [g1, g1, if_pos (by omega), if_pos (by omega)]; exact h2 _ _ (by omega) (by omega) (by omega)
       have L3 : SortedIn lt mid (mid + m - s) d1 := fun i j x y z => by
         rw [g1, g1, if_neg (by omega), if_pos (by omega), if_neg (by omega), if_pos (by omega)]; exact h1 _ _ (by omega) (by omega) (by omega)
       have L4 : SortedIn lt (mid + m - s) b d1 := fun i j x y z => by
         rw [g1, g1, if_neg (by omega), if_neg (by omega), if_neg (by omega), if_neg (by omega)]; exact h2 _ _ (by omega) y z
       have X : ∀ i j, a ≤ i → i < mid → mid ≤ j → j < b → lt d1[j]! d1[i]! = false := fun i j q1 q2 q3 q4 => by
         rw [g1, g1]
         by_cases u : s ≤ i ∧ i < mid
         · rw [if_neg (by omega), if_pos u]
           by_cases v : mid ≤ j ∧ j < mid + m - s
           · rw [if_pos v]; exact x2 _ _ (by omega) (by omega) (by omega) (by omega)
           · rw [if_neg v]; exact h2 _ _ (by omega) (by omega) q4
         · rw [if_neg (by omega), if_neg u, if_neg (by omega : ¬ (mid ≤ i ∧ i < mid + m - s))]
           by_cases v : mid ≤ j ∧ j < mid + m - s
           · rw [if_pos v]; exact h1 _ _ q1 (by omega) (by omega)
           · rw [if_neg v]; exact x1 _ _ q1 (by omega) (by omega) q4
       have hm2 : a < mid := by omega
       have hm3 : mid < b := by omega
       have D2 : PermIn a mid d1 (if h1 : a < s ∧ s < mid then symM lt a s mid d1 else d1) ∧ SortedIn lt a mid (if h1 : a < s ∧ s < mid then symM lt a s mid d1 else d1) := by
         by_cases c : a < s ∧ s < mid
         · rw [dif_pos c]
           match r, hr with
           | 0, hr => omega
           | r + 1, hr => exact symM_spec hS r a s mid d1 (by omega) c.1 c.2 (by omega) L1 L2
         · rw [dif_neg c]
           refine ⟨permIn_refl d1 a mid, ?_⟩
           rcases Nat.lt_or_ge a s with h | h
           · have : s = mid := by omega
             subst this; exact L1
           · have : s = a := by omega
             subst this; exact L2
       generalize (if h1 : a < s ∧ s < mid then symM lt a s mid d1 else d1) = d2 at D2 ⊢
       obtain ⟨p2, o2⟩ := D2
       have z2 : d2.size = d1.size := p2.1
       have M3 : SortedIn lt mid (mid + m - s) d2 := srt_congr L3 fun i x y => p2.2.1 i (.inr x)
       have M4 : SortedIn lt (mid + m - s) b d2 := srt_congr L4 fun i x y => p2.2.1 i (.inr (by omega))
       have D3 : PermIn mid b d2 (if h2 : mid < mid + m - s ∧ mid + m - s < b then symM lt mid (mid + m - s) b d2 else d2) ∧ SortedIn lt mid b (if h2 : mid < mid + m - s ∧ mid + m - s < b then symM lt mid (mid + m - s) b d2 else d2) := by
         by_cases c : mid < mid + m - s ∧ mid + m - s < b
         · rw [dif_pos c]
           match r, hr with
           | 0, hr => omega
           | r + 1, hr => exact symM_spec hS r mid (mid + m - s) b d2 (by omega) c.1 c.2 (by omega) M3 M4
         · rw [dif_neg c]
           refine ⟨permIn_refl d2 mid b, ?_⟩
           rcases Nat.lt_or_ge mid (mid + m - s) with h | h
           · have : mid + m - s = b := by omega
             rw [this] at M3; exact M3
           · have : mid + m - s = mid := by omega
             rw [this] at M4; exact M4
       show PermIn a b d (if h2 : mid < mid + m - s ∧ mid + m - s < b then symM lt mid (mid + m - s) b d2 else d2) ∧ SortedIn lt a b (if h2 : mid < mid + m - s ∧ mid + m - s < b then symM lt mid (mid + m - s) b d2 else d2)
       generalize (if h2 : mid < mid + m - s ∧ mid + m - s < b then symM lt mid (mid + m - s) b d2 else d2) = d3 at D3 ⊢
       obtain ⟨p3, o3⟩ := D3
       refine ⟨permIn_trans _ _ _ a b p1 (permIn_trans _ _ _ a b (permIn_mono d1 d2 a mid a b (Nat.le_refl _) (by omega) (by omega) p2) (permIn_mono d2 d3 mid b a b (by omega) (Nat.le_refl _) (by omega) p3)), fun i j q1 q2 q3 => ?_⟩
       rcases Nat.lt_or_ge j mid with c | c
       · rw [p3.2.1 i (.inl (by omega)), p3.2.1 j (.inl c)]; exact o2 i j q1 q2 c
       · rcases Nat.lt_or_ge i mid with c' | c'
         · rw [p3.2.1 i (.inl c')]
           refine permIn_all d2 d3 mid b (fun y => lt y d2[i]! = false) (by omega) p3 (fun k k1 k2 => ?_) j c q3
           rw [p2.2.1 k (.inr k1)]
           exact permIn_all d1 d2 a mid (fun x => lt d1[k]! x = false) (by omega) p2 (fun t t1 t2 => X t k t1 t2 k1 k2) i q1 c'
         · exact o3 i j c' q2 q3
inductive Ch (lt : α → α → Bool) (s n : Nat) (d : Array α) : Nat → Prop
 | done {a : Nat} (h : n ≤ a) : Ch lt s n d a
 | step {a : Nat} (h : SortedIn lt a (min (a + s) n) d) (hn : Ch lt s n d (a + s)) : Ch lt s n d a
theorem Ch.congr {s n a : Nat} {d d' : Array α} (h : Ch lt s n d a) (e : ∀ i, a ≤ i → d'[i]! = d[i]!) : Ch lt s n d' a := by
 induction h with
 | done h => exact .done h
 | step h _ ih => exact .step (srt_congr h fun i x y => e i x) (ih fun i hi => e i (by omega))
theorem Ch.head {s n a : Nat} {d : Array α} (h : Ch lt s n d a) : SortedIn lt a (min (a + s) n) d := by
 cases h with
 | done h => exact fun i j x y z => by omega
 | step h _ => exact h
theorem Ch.tail {s n a : Nat} {d : Array α} (h : Ch lt s n d a) : Ch lt s n d (a + s) := by
 cases h with
 | done h => exact .done (by omega)
 | step _ h => exact h
theorem insB_spec (hS : SWO lt) {n : Nat} : ∀ (r a : Nat) (d : Array α), n - a ≤ r → a ≤ n → n ≤ d.size → PermIn a n d (insB lt n a (a + 20) d) ∧ Ch lt 20 n (insB lt n a (a + 20) d) a
 | r, a, d, hr, ha, hn => by
   rw [insB]
   by_cases c : a + 20 ≤ n
   · rw [if_pos c]
     obtain ⟨p1, o1⟩ := insertionSort_holds (lt := lt) hS d a (a + 20) (by omega) (by omega)
     generalize insertionSort lt d a (a + 20) = d1 at p1 o1 ⊢
     have z1 : d1.size = d.size := p1.1
     match r, hr with
     | 0, hr => omega
     | r + 1, hr =>
       obtain ⟨p2, o2⟩ := insB_spec hS r (a + 20) d1 (by omega) c (by omega)
       generalize insB lt n (a + 20) (a + 20 + 20) d1 = d2 at p2 o2 ⊢
       refine ⟨permIn_trans _ _ _ a n (permIn_mono d d1 a (a + 20) a n (Nat.le_refl _) c hn p1) (permIn_mono d1 d2 (a + 20) n a n (by omega) (Nat.le_refl _) (by omega) p2), .step (srt_congr (by rw [Nat.min_eq_left c]; exact o1) fun i x y => p2.2.1 i (.inl (by omega))) o2⟩
   · rw [if_neg c]
     obtain ⟨p1, o1⟩ := insertionSort_holds (lt := lt) hS d a n ha hn
     exact ⟨p1, .step (by rw [Nat.min_eq_right (by omega)]; exact o1) (.done (by omega))⟩
theorem mrgP_spec (hS : SWO lt) {n s : Nat} (hs : 0 < s) : ∀ (r a : Nat) (d : Array α), n - a ≤ r → a ≤ n → n ≤ d.size → Ch lt s n d a → PermIn a n d (mrgP lt n s a (a + 2 * s) d) ∧ Ch lt (2 * s) n (mrgP lt n s a (a + 2 * s) d) a
 | r, a, d, hr, ha, hn, hc => by
   rw [mrgP, if_neg (by omega)]
   by_cases c : a + 2 * s ≤ n
   · rw [if_pos c]
     have q1 := hc.head; rw [Nat.min_eq_left (by omega)] at q1
     have q2 := hc.tail.head; rw [Nat.min_eq_left (by omega), show a + s + s = a + 2 * s by omega] at q2
     have q3 := hc.tail.tail; rw [show a + s + s = a + 2 * s by omega] at q3
     obtain ⟨p1, o1⟩ := symM_spec hS _ a (a + s) (a + 2 * s) d (Nat.le_refl _) (by omega) (by omega) (by omega) q1 q2
     generalize symM lt a (a + s) (a + 2 * s) d = d1 at p1 o1 ⊢
     have z1 : d1.size = d.size := p1.1
     match r, hr with
     | 0, hr => omega
     | r + 1, hr =>
       obtain ⟨p2, o2⟩ := mrgP_spec hS hs r (a + 2 * s) d1 (by omega) c (by omega) (q3.congr fun i hi => p1.2.1 i (.inr hi))
       generalize mrgP lt n s (a + 2 * s) (a + 2 * s + 2 * s) d1 = d2 at p2 o2 ⊢
       exact ⟨permIn_trans _ _ _ a n (permIn_mono d d1 a (a + 2 * s) a n (Nat.le_refl _) c hn p1) (permIn_mono d1 d2 (a + 2 * s) n a n (by omega) (Nat.le_refl _) (by omega) p2), .step (srt_congr (by rw [Nat.min_eq_left c]; exact o1) fun i x y => p2.2.1 i (.inl (by omega))) o2⟩
   · rw [if_neg c]
     by_cases c2 : a + s < n
     · rw [if_pos c2]
       have q1 := hc.head; rw [Nat.min_eq_left (by omega)] at q1
       have q2 := hc.tail.head; rw [Nat.min_eq_right (by omega)] at q2
       obtain ⟨p1, o1⟩ := symM_spec hS _ a (a + s) n d (Nat.le_refl _) (by omega) (by omega) (by omega) q1 q2
       exact ⟨p1, .step (by rw [Nat.min_eq_right (by omega)]; exact o1) (.done (by omega))⟩
     · rw [if_neg c2]
       refine ⟨permIn_refl d a n, .step ?_ (.done (by omega))⟩
       have q1 := hc.head; rw [Nat.min_eq_right (by omega)] at q1
       rw [Nat.min_eq_right (by omega)]; exact q1
theorem mrgL_spec (hS : SWO lt) {n : Nat} : ∀ (r s : Nat) (d : Array α), n - s ≤ r → 0 < s → n ≤ d.size → Ch lt s n d 0 → PermIn 0 n d (mrgL lt n s d) ∧ SortedIn lt 0 n (mrgL lt n s d)
 | r, s, d, hr, hs, hn, hc => by
   rw [mrgL]
   by_cases c : 0 < s ∧ s < n
   · rw [dif_pos c]
     have h := mrgP_spec hS hs _ 0 d (Nat.le_refl _) (Nat.zero_le _) hn hc
     rw [Nat.zero_add] at h
     obtain ⟨p1, o1⟩ := h
     generalize mrgP lt n s 0 (2 * s) d = d1 at p1 o1 ⊢
     match r, hr with
     | 0, hr => omega
     | r + 1, hr =>
       obtain ⟨p2, o2⟩ := mrgL_spec (n := n) hS r (s * 2) d1 (by omega) (by omega) (by rw [p1.1]; exact hn) (by rw [Nat.mul_comm]; exact o1)
       exact ⟨permIn_trans _ _ _ 0 n p1 p2, o2⟩
   · rw [dif_neg c]
     have q1 := hc.head; rw [Nat.min_eq_right (by omega)] at q1
     exact ⟨permIn_refl d 0 n, q1⟩
theorem stable_spec (hS : SWO lt) (d : Array α) : PermIn 0 d.size d (stable lt d) ∧ SortedIn lt 0 d.size (stable lt d) := by
 unfold stable
 have h := insB_spec hS _ 0 d (Nat.le_refl _) (Nat.zero_le _) (Nat.le_refl _)
 rw [Nat.zero_add] at h
 obtain ⟨p1, o1⟩ := h
 generalize insB lt d.size 0 20 d = d1 at p1 o1 ⊢
 obtain ⟨p2, o2⟩ := mrgL_spec hS _ 20 d1 (Nat.le_refl _) (by omega) (by rw [p1.1]; exact Nat.le_refl _) o1
 exact ⟨permIn_trans _ _ _ 0 d.size p1 p2, o2⟩
end
end Go.Stb
end
section
namespace Go.Bk
open Go Go.Abs
abbrev Nm := Bs × Bs
def nmP (p : Po) : Nm := (p.acc, p.sym)
def ltN (a b : Nm) : Bool := decide (cmpN a b < 0)
def ltP (a b : Po) : Bool := ltN (nmP a) (nmP b)
instance : Inhabited Po := ⟨⟨[], [], 0, 0, false⟩⟩
theorem cmpS_lt {a b : Bs} : cmpS a b < 0 ↔ a < b := by
 unfold cmpS; split
 · simp [*]
 · split <;> simp_all
theorem cmpS_eq {a b : Bs} : cmpS a b = 0 ↔ a = b := by
 unfold cmpS; split
 · rename_i h
   constructor
   · intro e; exact absurd e (by decide)
   · rintro rfl; exact absurd h (List.lt_irrefl a)
 · split <;> simp_all
theorem ltN_iff {a b : Nm} : ltN a b = true ↔ a.1 < b.1 ∨ a.1 = b.1 ∧ a.2 < b.2 := by
 unfold ltN cmpN
 rw [decide_eq_true_eq]
 split
 · rename_i h
   rw [cmpS_lt]
   constructor
   · exact .inl
   · rintro (h2 | ⟨h2, _⟩)
     · exact h2
     · exact absurd (cmpS_eq.2 h2) h
 · rename_i h
   have h : a.1 = b.1 := cmpS_eq.1 (by simpa using h)
   rw [cmpS_lt, h]
   constructor
   · intro h2; exact .inr ⟨rfl, h2⟩
   · rintro (h2 | ⟨_, h2⟩)
     · exact absurd h2 (List.lt_irrefl _)
     · exact h2
theorem ltN_irrefl (a : Nm) : ltN a a = false := by
 cases h : ltN a a with
 | false => rfl
 | true => rcases ltN_iff.1 h with h | ⟨_, h⟩ <;> exact absurd h (List.lt_irrefl _)
theorem ltN_trans {a b c : Nm} (h1 : ltN a b = true) (h2 : ltN b c = true) : ltN a c = true := by
 rw [ltN_iff] at *
 rcases h1 with h1 | ⟨e1, h1⟩ <;> rcases h2 with h2 | ⟨e2, h2⟩
 · exact .inl (List.lt_trans h1 h2)
 · exact .inl (e2 ▸ h1)
 · exact .inl (e1 ▸ h2)
 · exact .inr ⟨e1.trans e2, List.lt_trans h1 h2⟩
theorem bs_tri (a b : Bs) : a < b ∨ a = b ∨ b < a := by
 rcases Classical.em (a < b) with h | h
 · exact .inl h
 · rcases Classical.em (b < a) with h2 | h2
   · exact .inr (.inr h2)
   · exact .inr (.inl (List.le_antisymm (List.not_lt.1 h2) (List.not_lt.1 h)))
theorem ltN_tri (a b : Nm) : ltN a b = true ∨ a = b ∨ ltN b a = true := by
 rw [ltN_iff, ltN_iff]
 rcases bs_tri a.1 b.1 with h | h | h
 · exact .inl (.inl h)
 · rcases bs_tri a.2 b.2 with h2 | h2 | h2
   · exact .inl (.inr ⟨h, h2⟩)
   · exact .inr (.inl (Prod.ext h h2))
   · exact .inr (.inr (.inr ⟨h.symm, h2⟩))
 · exact .inr (.inr (.inl h))
theorem ltN_asym {a b : Nm} (h : ltN a b = true) : ltN b a = false := by
 cases h2 : ltN b a with
 | false => rfl
 | true => exact absurd (ltN_trans h h2) (by rw [ltN_irrefl]; simp)
theorem ltN_nt {a b c : Nm} (h1 : ltN a b = false) (h2 : ltN b c = false) : ltN a c = false := by
 cases h : ltN a c with
 | false => rfl
 | true =>
   rcases ltN_tri b c with h3 | rfl | h3
   · rw [h3] at h2; exact absurd h2 (by simp)
   · rw [h] at h1; exact absurd h1 (by simp)
   · rw [ltN_trans h h3] at h1; exact absurd h1 (by simp)
theorem swo_P : Go.Sort.SWO ltP := ⟨fun _ => ltN_irrefl _, fun _ _ _ => ltN_trans, fun _ _ _ => ltN_nt⟩
theorem cmpN_eq {a b : Nm} : cmpN a b = 0 ↔ a = b := by
 unfold cmpN
 split
 · rename_i h
   constructor
   · intro e; exact absurd e h
   · rintro rfl; exact absurd (cmpS_eq.2 rfl) h
 · rename_i h
   have h : a.1 = b.1 := cmpS_eq.1 (by simpa using h)
   rw [cmpS_eq]
   exact ⟨fun e => Prod.ext h e, fun e => by rw [e]⟩
def okP (p : Po) : Bool := numB p.qty && numB p.value && !(p.over && (decide (p.qty ≠ 0) || decide (p.value ≠ 0)))
def riseP : List Po → Bool
 | [] => true
 | p :: l => okP p && (match l with | [] => true | q :: _ => ltP p q) && riseP l
def sameF (n : Nm) (l : List Po) : List Po := l.filter fun p => decide (nmP p = n)
def togF (n : Nm) (l : List Po) : Po :=
 if l.any (·.over) then ⟨n.1, n.2, 0, 0, true⟩
 else if (sumF (l.map (·.qty))).2 && (sumF (l.map (·.value))).2 then ⟨n.1, n.2, (sumF (l.map (·.qty))).1, (sumF (l.map (·.value))).1, false⟩ else ⟨n.1, n.2, 0, 0, true⟩
def oneF (l : List Po) (n : Nm) : Po := togF n (sameF n l)
def getP (l : List Po) (n : Nm) : Po := match l.find? (fun p => decide (nmP p = n)) with
 | some p => p
 | none => ⟨n.1, n.2, 0, 0, false⟩
def grpF : Nat → List Po → List Po
 | 0, _ => []
 | _, [] => []
 | k + 1, p :: l => togF (nmP p) (p :: l.takeWhile fun q => decide (nmP q = nmP p)) :: grpF k (l.dropWhile fun q => decide (nmP q = nmP p))
def stbP (l : List Po) : List Po := (Go.Stb.stable ltP l.toArray).toList
def mergeF (ls : List (List Po)) : List Po × Int := if ls.all riseP then (grpF ls.flatten.length (stbP ls.flatten), 0) else ([], 1)
def Rising (l : List Po) : Prop := l.Pairwise fun p q => ltP p q = true
structure Merged (l all : List Po) : Prop where
 rise : Rising l
 mem : ∀ p, p ∈ l ↔ (∃ q ∈ all, nmP q = nmP p) ∧ p = oneF all (nmP p)
theorem togF_nm {n : Nm} {l : List Po} : nmP (togF n l) = n := by unfold togF; split <;> first | rfl | (split <;> rfl)
theorem oneF_nm {n : Nm} {l : List Po} : nmP (oneF l n) = n := togF_nm
theorem rising_ext : ∀ {l m : List Po}, Rising l → Rising m → (∀ p, p ∈ l ↔ p ∈ m) → l = m
 | [], [], _, _, _ => rfl
 | [], q :: m, _, _, h => absurd ((h q).2 (by simp)) (by simp)
 | p :: l, [], _, _, h => absurd ((h p).1 (by simp)) (by simp)
 | p :: l, q :: m, h1, h2, h => by
   have a1 := List.pairwise_cons.1 h1
   have a2 := List.pairwise_cons.1 h2
   have irr : ∀ x : Po, ltP x x = true → False := fun x hx => by have := ltN_irrefl (nmP x); unfold ltP at hx; rw [hx] at this; exact absurd this (by simp)
   have e : p = q := by
     rcases List.mem_cons.1 ((h p).1 (by simp)) with e | e
     · exact e
     · rcases List.mem_cons.1 ((h q).2 (by simp)) with e2 | e2
       · exact e2.symm
       · exact absurd (ltN_trans (a1.1 q e2) (a2.1 p e)) (by rw [ltN_irrefl]; simp)
   subst e
   congr 1
   refine rising_ext a1.2 a2.2 fun x => ?_
   constructor
   · intro hx
     rcases List.mem_cons.1 ((h x).1 (List.mem_cons_of_mem _ hx)) with e | e
     · subst e; exact (irr x (a1.1 x hx)).elim
     · exact e
   · intro hx
     rcases List.mem_cons.1 ((h x).2 (List.mem_cons_of_mem _ hx)) with e | e
     · subst e; exact (irr x (a2.1 x hx)).elim
     · exact e
theorem Merged.uniq {l m all : List Po} (h1 : Merged l all) (h2 : Merged m all) : l = m := rising_ext h1.rise h2.rise fun p => (h1.mem p).trans (h2.mem p).symm
theorem sumL_perm {a b : List Int} (h : a.Perm b) : sumL a = sumL b := by
 induction h with
 | nil => rfl
 | cons x _ ih => simp [sumL, ih]
 | swap x y l => simp only [sumL]; omega
 | trans _ _ h1 h2 => exact h1.trans h2
theorem sumF_perm {a b : List Int} (h : a.Perm b) : sumF a = sumF b := by
 unfold sumF; rw [sumL_perm h, h.all_eq]
theorem togF_perm {n : Nm} {a b : List Po} (h : a.Perm b) : togF n a = togF n b := by
 unfold togF; rw [h.any_eq, sumF_perm (h.map _), sumF_perm (h.map _)]
theorem oneF_perm {n : Nm} {a b : List Po} (h : a.Perm b) : oneF a n = oneF b n := togF_perm (h.filter _)
theorem Merged.perm {l a b : List Po} (h : a.Perm b) (hm : Merged l a) : Merged l b := ⟨hm.rise, fun p => by
 rw [hm.mem, oneF_perm h]
 constructor
 · rintro ⟨⟨q, hq, e⟩, h2⟩; exact ⟨⟨q, h.mem_iff.1 hq, e⟩, h2⟩
 · rintro ⟨⟨q, hq, e⟩, h2⟩; exact ⟨⟨q, h.mem_iff.2 hq, e⟩, h2⟩⟩
theorem grp_spec : ∀ (k : Nat) (l : List Po), l.length ≤ k → l.Pairwise (fun p q => ltP q p = false) → Merged (grpF k l) l
 | 0, l, hk, _ => by
   have : l = [] := List.eq_nil_of_length_eq_zero (by omega)
   subst this
   exact ⟨List.Pairwise.nil, fun p => by simp [grpF]⟩
 | k + 1, [], _, _ => ⟨List.Pairwise.nil, fun p => by simp [grpF]⟩
 | k + 1, p :: l, hk, hs => by
   obtain ⟨hs1, hs2⟩ := List.pairwise_cons.1 hs
   have hsplit := List.takeWhile_append_dropWhile (p := fun q => decide (nmP q = nmP p)) (l := l)
   have hd : ∀ q ∈ l.dropWhile (fun q => decide (nmP q = nmP p)), ltP p q = true := by
     intro q hq
     cases hdw : l.dropWhile (fun q => decide (nmP q = nmP p)) with
     | nil => rw [hdw] at hq; exact absurd hq (by simp)
     | cons x xs =>
       have hx : ¬ nmP x = nmP p := by
         have := List.head?_dropWhile_not (fun q => decide (nmP q = nmP p)) l
         rw [hdw] at this
         simpa using this
       have hxl : x ∈ l := by rw [← hsplit, hdw]; simp
       have hpx : ltP p x = true := by
         rcases ltN_tri (nmP p) (nmP x) with h | h | h
         · exact h
         · exact absurd h.symm hx
         · exact absurd (hs1 x hxl) (by unfold ltP; rw [h]; simp)
       rw [hdw] at hq
       rcases List.mem_cons.1 hq with e | hq
       · rw [e]; exact hpx
       · have hp2 : (x :: xs).Pairwise (fun p q => ltP q p = false) := by rw [← hdw]; exact hs2.sublist (List.dropWhile_sublist _)
         have hxq := (List.pairwise_cons.1 hp2).1 q hq
         cases h : ltP p q with
         | true => rfl
         | false => exact absurd hpx (by unfold ltP at *; rw [ltN_nt h hxq]; simp)
   have ht : ∀ q ∈ l.takeWhile (fun q => decide (nmP q = nmP p)), nmP q = nmP p := fun q hq => by
     simpa using List.all_takeWhile (p := fun q => decide (nmP q = nmP p)) (l := l) |> fun h => List.all_eq_true.1 h q hq
   have hlen : (l.dropWhile fun q => decide (nmP q = nmP p)).length ≤ k := by
     have := (List.dropWhile_sublist (fun q => decide (nmP q = nmP p)) (l := l)).length_le
     simp only [List.length_cons] at hk; omega
   have ih := grp_spec k (l.dropWhile fun q => decide (nmP q = nmP p)) hlen (hs2.sublist (List.dropWhile_sublist _))
   have hself : sameF (nmP p) (p :: l) = p :: l.takeWhile (fun q => decide (nmP q = nmP p)) := by
     unfold sameF
     rw [List.filter_cons_of_pos (by simp)]
     congr 1
     conv => lhs; rw [← hsplit, List.filter_append]
     rw [List.filter_eq_self.2 (fun q hq => by simpa using ht q hq), List.filter_eq_nil_iff.2 (fun q hq => by
       have := hd q hq
       simp only [decide_eq_true_eq]
       intro e
       unfold ltP at this; rw [e, ltN_irrefl] at this; exact absurd this (by simp)), List.append_nil]
   have hrest : ∀ n, n ≠ nmP p → sameF n (p :: l) = sameF n (l.dropWhile fun q => decide (nmP q = nmP p)) := by
     intro n hn
     unfold sameF
     rw [List.filter_cons_of_neg (by simpa using Ne.symm hn)]
     conv => lhs; rw [← hsplit, List.filter_append]
     rw [List.filter_eq_nil_iff.2 (fun q hq => by
       simp only [decide_eq_true_eq]; intro e; exact hn (e.symm.trans (ht q hq))), List.nil_append]
   refine ⟨?_, ?_⟩
   · refine List.pairwise_cons.2 ⟨fun x hx => ?_, ih.rise⟩
     obtain ⟨⟨q, hq, e⟩, _⟩ := (ih.mem x).1 hx
     have := hd q hq
     unfold ltP at *
     rw [togF_nm, ← e]; exact this
   · intro x
     show x ∈ _ :: _ ↔ _
     rw [List.mem_cons, ih.mem]
     constructor
     · rintro (e | ⟨⟨q, hq, e⟩, h⟩)
       · have en : nmP x = nmP p := by rw [e]; exact togF_nm
         refine ⟨⟨p, by simp, en.symm⟩, ?_⟩
         rw [en]; unfold oneF; rw [hself]; exact e
       · have hne : nmP x ≠ nmP p := by
           intro e2
           have := hd q hq
           unfold ltP at this; rw [e, e2, ltN_irrefl] at this; exact absurd this (by simp)
         refine ⟨⟨q, List.mem_cons_of_mem _ ((List.dropWhile_sublist _).subset hq), e⟩, ?_⟩
         rw [h]; unfold oneF; rw [togF_nm, hrest _ hne]
     · rintro ⟨⟨q, hq, e⟩, h⟩
       by_cases hn : nmP x = nmP p
       · left
         rw [h, hn]; unfold oneF; rw [hself]
       · right
         refine ⟨⟨q, ?_, e⟩, ?_⟩
         · rcases List.mem_cons.1 hq with e2 | hq
           · exact absurd (e.symm.trans (by rw [e2])) hn
           · rw [← hsplit] at hq
             rcases List.mem_append.1 hq with hq | hq
             · exact absurd (e.symm.trans (ht q hq)) hn
             · exact hq
         · have h2 := h
           unfold oneF at h2 ⊢; rw [hrest _ hn] at h2; exact h2
end Go.Bk
end
section
namespace Go.Bk
open Go Go.Abs
theorem ltL {x y : Lm} : cmpL x y < 0 ↔ ltN (x.acc, x.sym) (y.acc, y.sym) = true := by unfold cmpL ltN; rw [decide_eq_true_eq]
theorem cmpL_eq {x y : Lm} : cmpL x y = 0 ↔ (x.acc, x.sym) = (y.acc, y.sym) := cmpN_eq
theorem ltL_trans {x y z : Lm} (h1 : cmpL x y < 0) (h2 : cmpL y z < 0) : cmpL x z < 0 := ltL.2 (ltN_trans (ltL.1 h1) (ltL.1 h2))
theorem ltL_flip {x y : Lm} (h : ¬ cmpL y x < 0) (h0 : ¬ cmpL y x = 0) : cmpL x y < 0 := by
 rw [ltL] at h ⊢
 rcases ltN_tri (y.acc, y.sym) (x.acc, x.sym) with h1 | h1 | h1
 · exact absurd h1 h
 · exact absurd (cmpL_eq.2 h1) h0
 · exact h1
theorem cmpL_same {x y : Lm} (h : cmpL y x = 0) (z : Lm) : cmpL z x = cmpL z y ∧ cmpL x z = cmpL y z := by
 have e := cmpL_eq.1 h
 simp only [Prod.mk.injEq] at e
 unfold cmpL; rw [e.1, e.2]; exact ⟨rfl, rfl⟩
theorem rightL_iff {l : List Lm} : rightL l = true ↔ l.length ≤ 32 ∧ (∀ x ∈ l, mayL x = true) ∧ ∀ k x y, l[k]? = some x → l[k + 1]? = some y → cmpL x y < 0 := by
 unfold rightL
 rw [Bool.and_eq_true, decide_eq_true_eq, List.all_eq_true]
 constructor
 · rintro ⟨h1, h2⟩
   refine ⟨h1, fun x hx => ?_, fun k x y hx hy => ?_⟩
   · obtain ⟨k, hk⟩ := List.mem_iff_getElem?.1 hx
     have := h2 k (List.mem_range.2 (get_lt hk))
     rw [okL_at hk, Bool.and_eq_true] at this
     exact this.1
   · have := h2 (k + 1) (List.mem_range.2 (get_lt hy))
     rw [okL_at hy, Bool.and_eq_true] at this
     have e : (k + 1 == 0) = false := by simp
     rw [e, Nat.add_sub_cancel, hx] at this
     simpa using this.2
 · rintro ⟨h1, h2, h3⟩
   refine ⟨h1, fun k hk => ?_⟩
   have hk := List.mem_range.1 hk
   have hx : l[k]? = some l[k] := List.getElem?_eq_getElem hk
   rw [okL_at hx, h2 _ (List.getElem_mem hk), Bool.true_and]
   cases k with
   | zero => rfl
   | succ k =>
     have hy : l[k]? = some l[k] := List.getElem?_eq_getElem (by omega)
     rw [Nat.add_sub_cancel, hy]
     have := h3 k _ _ hy hx
     simp [this]
theorem sortL_at {l : List Lm} (h : rightL l = true) : ∀ (j i : Nat) (x y : Lm), i < j → l[i]? = some x → l[j]? = some y → cmpL x y < 0 := by
 intro j
 induction j with
 | zero => intro i x y h1; omega
 | succ j ih =>
   intro i x y h1 hx hy
   have h3 := (rightL_iff.1 h).2.2
   rcases Nat.lt_or_ge i j with h2 | h2
   · have hz : l[j]? = some (l[j]'(by have := get_lt hy; omega)) := List.getElem?_eq_getElem _
     exact ltL_trans (ih i x _ h2 hx hz) (h3 j _ _ hz hy)
   · obtain rfl : i = j := by omega
     exact h3 i x y hx hy
theorem posL_of {l : List Lm} {x : Lm} {i : Nat} (hi : i ≤ l.length) (h1 : ∀ k y, k < i → l[k]? = some y → cmpL y x < 0) (h2 : ∀ y, l[i]? = some y → ¬ cmpL y x < 0) : posL l x = i := by
 unfold posL
 induction l generalizing i with
 | nil => simp only [List.length_nil] at hi; simp; omega
 | cons z l ih =>
   cases i with
   | zero =>
     have := h2 z rfl
     rw [List.takeWhile_cons_of_neg (by simpa using this)]; rfl
   | succ i =>
     have := h1 0 z (by omega) rfl
     rw [List.takeWhile_cons_of_pos (by simpa using this), List.length_cons, ih (i := i) (by simpa using hi) (fun k y hk hy => h1 (k + 1) y (by omega) hy) (fun y hy => h2 y hy)]
theorem posL_facts (l : List Lm) (x : Lm) : posL l x ≤ l.length ∧ (∀ k y, k < posL l x → l[k]? = some y → cmpL y x < 0) ∧ ∀ y, l[posL l x]? = some y → ¬ cmpL y x < 0 := by
 unfold posL
 induction l with
 | nil => simp
 | cons z l ih =>
   by_cases hz : cmpL z x < 0
   · rw [List.takeWhile_cons_of_pos (by simpa using hz), List.length_cons]
     refine ⟨by simpa using ih.1, fun k y hk hy => ?_, fun y hy => ih.2.2 y (by simpa using hy)⟩
     cases k with
     | zero => simp only [List.getElem?_cons_zero, Option.some.injEq] at hy; subst hy; exact hz
     | succ k => exact ih.2.1 k y (by omega) (by simpa using hy)
   · rw [List.takeWhile_cons_of_neg (by simpa using hz)]
     refine ⟨by simp, fun k y hk => by simp at hk, fun y hy => ?_⟩
     simp only [List.length_nil, List.getElem?_cons_zero, Option.some.injEq] at hy; subst hy; exact hz
def hasL (l : List Lm) (x : Lm) : Bool := match l[posL l x]? with
 | some y => decide (cmpL y x = 0)
 | none => false
theorem hasL_at {l : List Lm} {x y : Lm} (h : l[posL l x]? = some y) : hasL l x = decide (cmpL y x = 0) := by unfold hasL; rw [h]
theorem hasL_end {l : List Lm} {x : Lm} (h : l.length ≤ posL l x) : hasL l x = false := by unfold hasL; rw [List.getElem?_eq_none h]
theorem hasL_lt {l : List Lm} {x : Lm} (h : hasL l x = true) : posL l x < l.length := by
 rcases Nat.lt_or_ge (posL l x) l.length with h' | h'
 · exact h'
 · rw [hasL_end h'] at h; exact absurd h (by simp)
theorem setL_put {l : List Lm} {x : Lm} (h : rightL l = true) (hm : mayL x = true) (hh : hasL l x = true) : setL l x = (l.set (posL l x) x, 0) := by
 unfold setL; rw [if_pos ⟨h, hm⟩]
 have hy : l[posL l x]? = some (l[posL l x]'(hasL_lt hh)) := List.getElem?_eq_getElem _
 rw [hasL_at hy] at hh
 rw [hy]; dsimp only; rw [if_pos (by simpa using hh)]
theorem setL_full {l : List Lm} {x : Lm} (h : rightL l = true) (hm : mayL x = true) (hh : hasL l x = false) (h32 : l.length = 32) : setL l x = (l, 5) := by
 unfold setL; rw [if_pos ⟨h, hm⟩]
 cases hy : l[posL l x]? with
 | none => dsimp only; rw [if_pos h32]
 | some y =>
   rw [hasL_at hy] at hh
   dsimp only; rw [if_neg (by simpa using hh), if_pos h32]
theorem setL_ins {l : List Lm} {x : Lm} (h : rightL l = true) (hm : mayL x = true) (hh : hasL l x = false) (h32 : ¬ l.length = 32) : setL l x = (l.take (posL l x) ++ x :: l.drop (posL l x), 0) := by
 unfold setL; rw [if_pos ⟨h, hm⟩]
 cases hy : l[posL l x]? with
 | none => dsimp only; rw [if_neg h32]
 | some y =>
   rw [hasL_at hy] at hh
   dsimp only; rw [if_neg (by simpa using hh), if_neg h32]
theorem putL_right {l : List Lm} {x : Lm} (h : rightL l = true) (hm : mayL x = true) (hh : hasL l x = true) : rightL (l.set (posL l x) x) = true := by
 have hlt := hasL_lt hh
 have hy : l[posL l x]? = some l[posL l x] := List.getElem?_eq_getElem hlt
 rw [hasL_at hy] at hh
 have he := cmpL_same (y := l[posL l x]) (x := x) (by simpa using hh)
 obtain ⟨h1, h2, h3⟩ := rightL_iff.1 h
 have get : ∀ (k : Nat) (z : Lm), (l.set (posL l x) x)[k]? = some z → ∃ z' : Lm, l[k]? = some z' ∧ ∀ w : Lm, cmpL w z = cmpL w z' ∧ cmpL z w = cmpL z' w := by
   intro k z hz
   rw [List.getElem?_set] at hz
   split at hz
   · rename_i hk; subst hk
     first | (rw [if_pos hlt] at hz; cases hz; exact ⟨_, hy, he⟩) | (cases hz; exact ⟨_, hy, he⟩)
   · exact ⟨z, hz, fun w => ⟨rfl, rfl⟩⟩
 refine rightL_iff.2 ⟨by simpa using h1, fun z hz => ?_, fun k a b ha hb => ?_⟩
 · rcases List.mem_or_eq_of_mem_set hz with hz | rfl
   · exact h2 z hz
   · exact hm
 · obtain ⟨a', e1, e2⟩ := get _ _ ha
   obtain ⟨b', e3, e4⟩ := get _ _ hb
   rw [(e2 b).2, (e4 a').1]
   exact h3 k a' b' e1 e3
theorem insL_right {l : List Lm} {x : Lm} (h : rightL l = true) (hm : mayL x = true) (hh : hasL l x = false) (h32 : ¬ l.length = 32) : rightL (l.take (posL l x) ++ x :: l.drop (posL l x)) = true := by
 obtain ⟨h1, h2, h3⟩ := rightL_iff.1 h
 obtain ⟨p1, p2, p3⟩ := posL_facts l x
 have htl : (l.take (posL l x)).length = posL l x := by rw [List.length_take]; omega
 refine rightL_iff.2 ⟨by simp only [List.length_append, List.length_cons, List.length_take, List.length_drop]; omega, fun z hz => ?_, fun k a b ha hb => ?_⟩
 · rcases List.mem_append.1 hz with hz | hz
   · exact h2 z (List.mem_of_mem_take hz)
   · rcases List.mem_cons.1 hz with rfl | hz
     · exact hm
     · exact h2 z (List.mem_of_mem_drop hz)
 · rcases Nat.lt_trichotomy (k + 1) (posL l x) with hk | hk | hk
   · rw [List.getElem?_append_left (by omega), List.getElem?_take, if_pos (by omega)] at ha
     rw [List.getElem?_append_left (by omega), List.getElem?_take, if_pos (by omega)] at hb
     exact h3 k a b ha hb
   · rw [List.getElem?_append_left (by omega), List.getElem?_take, if_pos (by omega)] at ha
     rw [List.getElem?_append_right (by omega), htl, hk, Nat.sub_self] at hb
     simp only [List.getElem?_cons_zero, Option.some.injEq] at hb; subst hb
     exact p2 k a (by omega) ha
   · rw [List.getElem?_append_right (by omega), htl, show k + 1 - posL l x = (k - posL l x) + 1 by omega, List.getElem?_cons_succ, List.getElem?_drop] at hb
     rcases Nat.lt_or_ge (posL l x) k with hk2 | hk2
     · rw [List.getElem?_append_right (by omega), htl, show k - posL l x = (k - posL l x - 1) + 1 by omega, List.getElem?_cons_succ, List.getElem?_drop] at ha
       refine h3 (k - 1) a b ?_ ?_
       · rw [← ha]; congr 1; omega
       · rw [← hb]; congr 1; omega
     · obtain rfl : k = posL l x := by omega
       rw [List.getElem?_append_right (by omega), htl, Nat.sub_self] at ha
       simp only [List.getElem?_cons_zero, Option.some.injEq] at ha; subst ha
       have hb : l[posL l x]? = some b := by rw [← hb]; congr 1; omega
       rw [hasL_at hb] at hh
       exact ltL_flip (p3 b hb) (by simpa using hh)
theorem setL_right {l : List Lm} {x : Lm} (h : rightL l = true) : rightL (setL l x).1 = true := by
 by_cases hm : mayL x = true
 · cases hh : hasL l x with
   | true => rw [setL_put h hm hh]; exact putL_right h hm hh
   | false =>
     by_cases h32 : l.length = 32
     · rw [setL_full h hm hh h32]; exact h
     · rw [setL_ins h hm hh h32]; exact insL_right h hm hh h32
 · rw [setL_bad fun e => hm e.2]; exact h
theorem limit_right {g : Gt} {x : Lm} (h : rightG g = true) : rightG (limitG g x).1 = true := by
 unfold limitG; rw [if_pos h]
 split
 · obtain ⟨h1, h2, h3, h4, h5, h6⟩ := right_lens h
   exact rightG_ok h1 h2 (setL_right h3) h4 h5 (Nat.le_refl _) (fun k v _ hv => h6 v (List.mem_of_getElem? hv))
 · exact h
end Go.Bk
end
