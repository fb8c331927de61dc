/- Texts of one chain, put together (G16, G17, G18, MrB, MrC, MrD, MrE, MrF, MrG, MrH, MrI, MrJ, K3, MrK, T1, T2, T3, T4, Q13, Q14, Q15, Q16, K4, T5, K5, K6). -/
import Derived.Test.YtajeeghgiilhiaaGreatKuO
import Derived.Test.YtajeeghgiilhiaaGreatKuM
import Derived.Test.YtajeeghgiilhiaaGreatKuJ
import Derived.Test.YtajeeghgiilhiaaGreatKuF
import Derived.Test.YtajeeghgiilhiaaGreatKuK
import Derived.Test.YtajeeghgiilhiaaGreatKuN
import Derived.Test.YtajeeghgiilhiaaGreatKuL
import Derived.Test.YtajeeghgiilhiaaGreatKuE
set_option linter.unusedVariables false
set_option linter.unusedSimpArgs false
section
namespace Go.Proofs.YtajeeghgiilhiaaGreat
open Go Go.Abs Go.RowKit Go.Bk
set_option maxHeartbeats 16000000 in
set_option maxRecDepth 8000 in
theorem gtold_c3 (g : Gt) (k : Nat) (w : Vn) (x : Ex) (hg : GtSm g) (hx0 : g.venues[k]? = some w) (ha : isAtB g (k : Int) = true) (nb : Bk) (p : Nat) (hcf : comeF w.book x = (nb, 3)) (hsn : (x.kind = 1 ∨ x.kind = 4) → sentF w.sent x = some p) : ACalls E 30 [gtV g, i64 (k : Int), exV x] (fun r t => r = .tup [gtV (toldG g (k : Int) x).1, i64 (toldG g (k : Int) x).2.1, i64 (toldG g (k : Int) x).2.2] ∧ t = []) := by
 have hgi := hg.fit
 have hg1 := hg.1
 have hg2 := hg.2.1
 have hkn := get_lt hx0
 have hw0 := hg.2.2 w (List.mem_of_getElem? hx0)
 have hil := hw0.2.2.1
 have hix := idx_spo hsn
 refine ACalls.of_awp (n := 104) (rs := [.cell 6 58, .tmp 7, .tmp 8]) Tryz.func30 rfl Tryz.ntmps30 rfl ?_
 repeat' (first
 | (
  refine AWP.cutTo hc1 ?_
  first
  | (refine AWP.renum [0, 1, 2, 3, 4, 6] (by decide) rfl rfl ?_; simp only [go_sem, vn_ren, List.length_map]; refine AWP.weaken ?_ (hc1 m); (try simp only [go_sem]); (repeat' (first | refine And.intro ?_ ?_ | trivial | exact .inr (oblA rfl) | exact .inr bel_vns | fail)); done)
  | (have he : g.venues = [] := Classical.byContradiction fun hne => by
       have := hbb (by simpa using hne)
       simp_all
     refine AWP.nilOwn 3 0 8 _ rfl rfl ?_
     simp only [go_sem]
     refine AWP.weaken ?_ (hc1 0); (try simp only [go_sem, he, List.length_nil, List.map_nil, spare_zero]); (repeat' (first | refine And.intro ?_ ?_ | trivial | exact .inr (oblA rfl) | fail)); done))
 | refine AWP.seqk fun K hK => ?_
 | (
  refine AWP.here 1 5 5 rfl ?_
  first
  | (have h0 := hc1; clear h0; refine AWP.regionL ?_; refine AWPL.at 5 2 rfl ?_; simp only [go_sem])
  | ((fail_if_success (have h0 := hc1)); refine AWP.cutAt (ι := Nat) [5, 6, 7, 8] (fun (m : Nat) => []) (fun (m : Nat) => [some [.agg [vnsV g.venues, lmsV g.limits, bl g.kill, i64 g.now, i64 g.pat]], some [exV x], some [.agg [.nilS, .nilS, bl false, i64 0, i64 0]], some [.agg [.mu 5 8 0 g.venues.length (g.venues.length + m), lmsV g.limits, bl g.kill, i64 g.now, i64 g.pat]], some [.agg [.nilS, .nilS, bl false, i64 0, i64 0]], some (g.venues.map vnV ++ spare 8 m)]) (fun (m : Nat) => []) hK (fun m => ?_) (fun hc1 => ?_)))
 | (refine Cut.mk ?_; simp only [go_sem])
 | (
  refine AWP.here 4 21 5 rfl ?_
  have hxk : (g.venues.map vnV ++ spare 8 m)[k]? = some (vnV w) := by rw [List.getElem?_append_left (by simpa using get_lt hx0), List.getElem?_map, hx0]; rfl
  have hxk2 : ∀ z, ((g.venues.map vnV ++ spare 8 m).set k z)[k]? = some z := fun z => List.getElem?_set_self (by simp; omega)
  refine AWP.region ?_; simp only [go_sem, ha])
 | (
  refine AWP.here 5 26 12 rfl ?_
  refine AWP.regionO [0, 1, 2, 3, 4, 9, 5, 6, 7, 8, 10, 11] [11] (by kernel_rfl) (by kernel_rfl) rfl ?_; simp only [go_sem, ha, hxk])
 | (
  refine AWP.here 15 52 7 rfl ?_
  refine AWP.regionO [0, 1, 2, 3, 4, 5, 6] [] (by kernel_rfl) (by kernel_rfl) rfl ?_; simp only [go_sem, ha, hxk])
 | (
  refine AWP.here 20 78 5 rfl ?_
  refine AWP.region ?_; simp only [go_sem, ha, hxk])
 | (
  refine AWP.here 25 102 5 rfl ?_
  rw [show (g.venues.map vnV ++ spare 8 m).set k (.agg [odsV nb.orders, dnsV nb.fills, .sl none 1 (nb.ids.map str), i64 nb.clock, i64 nb.bad, odsV w.sent, i64 w.last, bl w.gap]) = (g.venues.set k ⟨nb, w.sent, w.last, w.gap⟩).map vnV ++ spare 8 m from row_put (v := ⟨nb, w.sent, w.last, w.gap⟩) hkn]
  refine AWP.publishLeaf 6 0 (jd := 5) (k := 8) (n := g.venues.length) (cap := g.venues.length + m) _ ((g.venues.set k ⟨nb, w.sent, w.last, w.gap⟩).map vnV ++ spare 8 m) (by decide) rfl rfl rfl (by simp [spare_len]) (by rw [vn_takeS]; exact cl_vn _) ?_
  rw [vn_takeS]
  simp only [go_sem, ha]
  refine AWP.region ?_; simp only [go_sem, ha])
 | (
  refine AWP.here 5 15 5 rfl ?_
  obtain ⟨v, hx⟩ : ∃ v, g.venues[i]? = some v := ⟨_, List.getElem?_eq_getElem (by omega)⟩
  have hv := hg.2.2 v (List.mem_of_getElem? hx)
  have hx2 : (g.venues.map vnV ++ spare 8 m)[i]? = some (vnV v) := by rw [List.getElem?_append_left (by simpa using get_lt hx), List.getElem?_map, hx]; rfl
  refine AWP.region ?_; simp only [go_sem])
 | (
  refine AWP.here 7 29 11 rfl ?_
  (try rw [row_same hx])
  refine AWP.region ?_; simp only [go_sem])
 | (
  refine AWP.here 8 39 11 rfl ?_
  (try rw [row_same hx])
  refine AWP.region ?_; simp only [go_sem])
 | (
  refine AWP.here 9 49 9 rfl ?_
  (try rw [row_same hx])
  refine AWP.region ?_; simp only [go_sem])
 | (
  refine AWP.here 10 57 2 rfl ?_
  (try rw [row_same hx])
  refine AWP.region ?_; simp only [go_sem])
 | (
  refine AWP.here 3 5 4 rfl ?_
  refine AWP.regionL ?_
  refine AWPL.mkMu ap55 ?_
  simp only [go_sem]
  refine AWPL.at 3 1 rfl ?_
  simp only [go_sem]
  refine AWPL.appMu sr55 ap55 rfl rfl rfl (by simp; omega) (by simp; omega) ?_
  intro m
  simp only [go_sem]
  refine AWPL.of ?_
  simp only [go_sem])
 | (refine AWP.here 1 14 4 rfl ?_; refine AWP.regionL ?_; refine AWPL.at 4 1 rfl ?_; simp only [go_sem, ha])
 | (refine AWP.region ?_; simp only [go_sem, ha])
 | (refine hK _ ?_; clear hK K)
 | refine AWP.block ?_
 | refine AWP.cond rfl (fun c => ?_) (fun c => ?_) <;> first | exact Bool.noConfusion c | (try simp only [dD] at c)
 | refine AWP.skip ?_
 | (refine AWP.exit ?_; simp only [go_sem, ha])
 | (refine ACall.one (gisat_c g (k : Int) hgi) (by kernel_rfl) rfl ?_; simp only [go_sem, ha])
 | (refine ACall.one (come_c w.book x hw0.1 hw0.2.1 hw0.2.2.1) (by kernel_rfl) rfl ?_; simp only [hcf]; simp only [go_sem, ha])
 | (have hop : x.kind = 1 ∨ x.kind = 4 := (by omega); refine ACall.one (gsent_c w.sent x (by have := hw0.2.2.2; omega)) (by kernel_rfl) rfl ?_; simp only [hix hop]; simp only [go_sem, ha])
 | (refine ACall.one (oclone_p v.book.orders hv.1) (by kernel_rfl) rfl ?_; simp only [go_sem])
 | (refine ACall.one (oclone_p v.sent hv.2.2.2) (by kernel_rfl) rfl ?_; simp only [go_sem])
 | (refine ACall.one (dclone_p v.book.fills hv.2.1) (by kernel_rfl) rfl ?_; simp only [go_sem])
 | (refine ACall.one (sclone_p v.book.ids hv.2.2.1) (by kernel_rfl) rfl ?_; simp only [go_sem])
 | (refine ACall.one (limclone_p g.limits hg2) (by kernel_rfl) rfl ?_; simp only [go_sem])
 | (refine AWPL.call (rs := [.cell 2 58]) Tryz.func76 rfl Tryz.ntmps76 rfl (by kernel_rfl) rfl rfl ?_; simp only [go_sem])
 | (refine AWPL.call (rs := [.tmp 2]) Tryz.func144 rfl Tryz.ntmps144 rfl (by kernel_rfl) rfl rfl ?_; simp only [go_sem])
 | (refine AGuard.splitN (fun h => ?_) (fun h => ?_) <;> simp only [h, go_sem, ha] <;> (try simp only [dD] at h))
 | (refine AGet.haveM (by assumption) ?_; (try simp only [go_sem, ha]))
 | (refine AGet.have' (by assumption) ?_; (try simp only [go_sem, ha]))
 | ((first | with_reducible refine And.intro ?_ ?_); (focus (first | omega | (simp; done) | fail)); (try simp only [hb, go_sem, ha]))
 | (
  refine AWP.here 3 13 1 rfl ?_
  refine AWP.loopN (ι := Nat) [3, 4, 13, 14, 15, 16, 17, 18, 19, 20, 21, 22, 23, 24, 25, 26, 27, 28, 29, 30, 31, 32, 33, 34, 35, 36, 37, 38, 39, 40, 41, 42, 43, 44, 45, 46, 47, 48, 49, 50, 51, 52, 53, 54, 55, 56, 57] (fun (i : Nat) => [(12, i64 i)]) (fun (i : Nat) => i ≤ g.venues.length) (fun (i : Nat) => g.venues.length - i) (0) ?_ ?_ ?_
  · (try simp only [go_sem]); (repeat' (first | refine And.intro ?_ ?_ | trivial | exact .inr (oblA rfl) | exact .inr bel_vns | fail)); done
  · omega
  rintro i h1
  simp only [go_sem])
 | (
  refine ⟨i + 1, ?_, ?_, ?_⟩
  · (try simp only [go_sem]); (try rw [wrap64_id (by omega) (by omega)]); (repeat' (first | refine And.intro ?_ ?_ | exact .inr rfl | trivial | exact .inr (oblA rfl) | exact .inr bel_vns | fail)); done
  · omega
  · (try simp only []); omega)
 | (
  refine AWP.ret ?_
  refine AEnd.is ?_; simp only [go_sem, out_v, out_s, out_n, v_int, v_bool, v_str] <;> (first | (rw [told_c3 ha hx0 hcf hsn]; simp [withG]; done) | fail))
 | (refine AWP.ret ?_; refine AInPost.ret rfl ?_; simp only [go_sem, ha])
 | (refine AWP.ret ?_; simp only [inb_ret, athen_ret]; refine AInPost.ret rfl ?_; simp only [go_sem, ha])
 | (refine AWPL.of ?_; simp only [go_sem, ha])
 | ((fail_if_success (have := hbb)); (with_reducible intro bb hbb))
 | refine AWP.fin (by assumption) ?_
 | fail)
set_option maxHeartbeats 16000000 in
set_option maxRecDepth 8000 in
theorem gtold_c1 (g : Gt) (k : Nat) (w : Vn) (x : Ex) (hg : GtSm g) (hx0 : g.venues[k]? = some w) (ha : isAtB g (k : Int) = true) (nb : Bk) (hcf : comeF w.book x = (nb, 1)) (hnop : ¬ (x.kind = 1 ∨ x.kind = 4)) : ACalls E 30 [gtV g, i64 (k : Int), exV x] (fun r t => r = .tup [gtV (toldG g (k : Int) x).1, i64 (toldG g (k : Int) x).2.1, i64 (toldG g (k : Int) x).2.2] ∧ t = []) := by
 have hgi := hg.fit
 have hg1 := hg.1
 have hg2 := hg.2.1
 have hkn := get_lt hx0
 have hw0 := hg.2.2 w (List.mem_of_getElem? hx0)
 have hil := hw0.2.2.1
 refine ACalls.of_awp (n := 104) (rs := [.cell 6 58, .tmp 7, .tmp 8]) Tryz.func30 rfl Tryz.ntmps30 rfl ?_
 repeat' (first
 | (
  refine AWP.cutTo hc1 ?_
  first
  | (refine AWP.renum [0, 1, 2, 3, 4, 6] (by decide) rfl rfl ?_; simp only [go_sem, vn_ren, List.length_map]; refine AWP.weaken ?_ (hc1 m); (try simp only [go_sem]); (repeat' (first | refine And.intro ?_ ?_ | trivial | exact .inr (oblA rfl) | exact .inr bel_vns | fail)); done)
  | (have he : g.venues = [] := Classical.byContradiction fun hne => by
       have := hbb (by simpa using hne)
       simp_all
     refine AWP.nilOwn 3 0 8 _ rfl rfl ?_
     simp only [go_sem]
     refine AWP.weaken ?_ (hc1 0); (try simp only [go_sem, he, List.length_nil, List.map_nil, spare_zero]); (repeat' (first | refine And.intro ?_ ?_ | trivial | exact .inr (oblA rfl) | fail)); done))
 | refine AWP.seqk fun K hK => ?_
 | (
  refine AWP.here 1 5 5 rfl ?_
  first
  | (have h0 := hc1; clear h0; refine AWP.regionL ?_; refine AWPL.at 5 2 rfl ?_; simp only [go_sem])
  | ((fail_if_success (have h0 := hc1)); refine AWP.cutAt (ι := Nat) [5, 6, 7, 8] (fun (m : Nat) => []) (fun (m : Nat) => [some [.agg [vnsV g.venues, lmsV g.limits, bl g.kill, i64 g.now, i64 g.pat]], some [exV x], some [.agg [.nilS, .nilS, bl false, i64 0, i64 0]], some [.agg [.mu 5 8 0 g.venues.length (g.venues.length + m), lmsV g.limits, bl g.kill, i64 g.now, i64 g.pat]], some [.agg [.nilS, .nilS, bl false, i64 0, i64 0]], some (g.venues.map vnV ++ spare 8 m)]) (fun (m : Nat) => []) hK (fun m => ?_) (fun hc1 => ?_)))
 | (refine Cut.mk ?_; simp only [go_sem])
 | (
  refine AWP.here 4 21 5 rfl ?_
  have hxk : (g.venues.map vnV ++ spare 8 m)[k]? = some (vnV w) := by rw [List.getElem?_append_left (by simpa using get_lt hx0), List.getElem?_map, hx0]; rfl
  have hxk2 : ∀ z, ((g.venues.map vnV ++ spare 8 m).set k z)[k]? = some z := fun z => List.getElem?_set_self (by simp; omega)
  refine AWP.region ?_; simp only [go_sem, ha])
 | (
  refine AWP.here 5 26 12 rfl ?_
  refine AWP.regionO [0, 1, 2, 3, 4, 9, 5, 6, 7, 8, 10, 11] [11] (by kernel_rfl) (by kernel_rfl) rfl ?_; simp only [go_sem, ha, hxk])
 | (
  refine AWP.here 20 78 5 rfl ?_
  refine AWP.region ?_; simp only [go_sem, ha, hxk])
 | (
  refine AWP.here 22 84 6 rfl ?_
  refine AWP.region ?_; simp only [go_sem, ha, hxk2])
 | (
  refine AWP.here 25 102 5 rfl ?_
  (try rw [List.set_set])
  rw [show (g.venues.map vnV ++ spare 8 m).set k (.agg [odsV nb.orders, dnsV nb.fills, .sl none 1 (nb.ids.map str), i64 nb.clock, i64 nb.bad, odsV w.sent, i64 g.now, bl w.gap]) = (g.venues.set k ⟨nb, w.sent, g.now, w.gap⟩).map vnV ++ spare 8 m from row_put (v := ⟨nb, w.sent, g.now, w.gap⟩) hkn]
  refine AWP.publishLeaf 6 0 (jd := 5) (k := 8) (n := g.venues.length) (cap := g.venues.length + m) _ ((g.venues.set k ⟨nb, w.sent, g.now, w.gap⟩).map vnV ++ spare 8 m) (by decide) rfl rfl rfl (by simp [spare_len]) (by rw [vn_takeS]; exact cl_vn _) ?_
  rw [vn_takeS]
  simp only [go_sem, ha]
  refine AWP.region ?_; simp only [go_sem, ha])
 | (
  refine AWP.here 5 15 5 rfl ?_
  obtain ⟨v, hx⟩ : ∃ v, g.venues[i]? = some v := ⟨_, List.getElem?_eq_getElem (by omega)⟩
  have hv := hg.2.2 v (List.mem_of_getElem? hx)
  have hx2 : (g.venues.map vnV ++ spare 8 m)[i]? = some (vnV v) := by rw [List.getElem?_append_left (by simpa using get_lt hx), List.getElem?_map, hx]; rfl
  refine AWP.region ?_; simp only [go_sem])
 | (
  refine AWP.here 7 29 11 rfl ?_
  (try rw [row_same hx])
  refine AWP.region ?_; simp only [go_sem])
 | (
  refine AWP.here 8 39 11 rfl ?_
  (try rw [row_same hx])
  refine AWP.region ?_; simp only [go_sem])
 | (
  refine AWP.here 9 49 9 rfl ?_
  (try rw [row_same hx])
  refine AWP.region ?_; simp only [go_sem])
 | (
  refine AWP.here 10 57 2 rfl ?_
  (try rw [row_same hx])
  refine AWP.region ?_; simp only [go_sem])
 | (
  refine AWP.here 3 5 4 rfl ?_
  refine AWP.regionL ?_
  refine AWPL.mkMu ap55 ?_
  simp only [go_sem]
  refine AWPL.at 3 1 rfl ?_
  simp only [go_sem]
  refine AWPL.appMu sr55 ap55 rfl rfl rfl (by simp; omega) (by simp; omega) ?_
  intro m
  simp only [go_sem]
  refine AWPL.of ?_
  simp only [go_sem])
 | (refine AWP.here 1 14 4 rfl ?_; refine AWP.regionL ?_; refine AWPL.at 4 1 rfl ?_; simp only [go_sem, ha])
 | (refine AWP.region ?_; simp only [go_sem, ha])
 | (refine AWP.here 15 52 7 rfl ?_; refine AWP.regionO [0, 1, 2, 3, 4, 5, 6] [] (by kernel_rfl) (by kernel_rfl) rfl ?_; simp only [go_sem, ha])
 | (refine AWP.here 17 60 14 rfl ?_; refine AWP.regionAnyT (.take 0 (.take 1 (.take 2 (.take 3 (.take 4 (.take 5 (.take 6 (.take 7 (.take 8 (.take 9 (.take 10 (.take 11 (.take 12 (.take 13 .done)))))))))))))) [[], [], [1], [1, 2], [1, 2, 3], [1, 2, 3, 4], [], [6], [6, 7], [1, 2, 3, 4, 5, 6, 7, 8], [0, 1, 2, 3, 4, 5, 6, 7, 8, 9], [0, 1, 2, 3, 4, 5, 6, 7, 8, 9, 10], [0, 1, 2, 3, 4, 5, 6, 7, 8, 9, 10, 11], [0, 1, 2, 3, 4, 5, 6, 7, 8, 9, 10, 11, 12]] [] (by kernel_rfl) (by kernel_rfl) ?_; simp only [go_sem, ha])
 | (refine hK _ ?_; clear hK K)
 | refine AWP.block ?_
 | refine AWP.cond rfl (fun c => ?_) (fun c => ?_) <;> first | exact Bool.noConfusion c | (try simp only [dD] at c)
 | refine AWP.skip ?_
 | (refine AWP.exit ?_; simp only [go_sem, ha])
 | (refine ACall.one (gisat_c g (k : Int) hgi) (by kernel_rfl) rfl ?_; simp only [go_sem, ha])
 | (refine ACall.one (come_c w.book x hw0.1 hw0.2.1 hw0.2.2.1) (by kernel_rfl) rfl ?_; simp only [hcf]; simp only [go_sem, ha])
 | (refine ACall.one (gsent_c _ _ (by first | omega | fail)) (by kernel_rfl) rfl ?_; simp only [go_sem, ha])
 | (refine ACall.one (oclone_p v.book.orders hv.1) (by kernel_rfl) rfl ?_; simp only [go_sem])
 | (refine ACall.one (oclone_p v.sent hv.2.2.2) (by kernel_rfl) rfl ?_; simp only [go_sem])
 | (refine ACall.one (dclone_p v.book.fills hv.2.1) (by kernel_rfl) rfl ?_; simp only [go_sem])
 | (refine ACall.one (sclone_p v.book.ids hv.2.2.1) (by kernel_rfl) rfl ?_; simp only [go_sem])
 | (refine ACall.one (limclone_p g.limits hg2) (by kernel_rfl) rfl ?_; simp only [go_sem])
 | (refine AWPL.call (rs := [.cell 2 58]) Tryz.func76 rfl Tryz.ntmps76 rfl (by kernel_rfl) rfl rfl ?_; simp only [go_sem])
 | (refine AWPL.call (rs := [.tmp 2]) Tryz.func144 rfl Tryz.ntmps144 rfl (by kernel_rfl) rfl rfl ?_; simp only [go_sem])
 | (refine AGuard.splitN (fun h => ?_) (fun h => ?_) <;> simp only [h, go_sem, ha] <;> (try simp only [dD] at h))
 | (refine AGet.haveM (by assumption) ?_; (try simp only [go_sem, ha]))
 | (refine AGet.have' (by assumption) ?_; (try simp only [go_sem, ha]))
 | ((first | refine AGet.nth ?_ (fun b hb => ?_) | refine AGet.nth1 ?_ (fun b hb => ?_) | with_reducible refine And.intro ?_ ?_); (focus (first | omega | (simp; done) | fail)); (try simp only [hb, go_sem, ha]))
 | (
  refine AWP.here 3 13 1 rfl ?_
  refine AWP.loopN (ι := Nat) [3, 4, 13, 14, 15, 16, 17, 18, 19, 20, 21, 22, 23, 24, 25, 26, 27, 28, 29, 30, 31, 32, 33, 34, 35, 36, 37, 38, 39, 40, 41, 42, 43, 44, 45, 46, 47, 48, 49, 50, 51, 52, 53, 54, 55, 56, 57] (fun (i : Nat) => [(12, i64 i)]) (fun (i : Nat) => i ≤ g.venues.length) (fun (i : Nat) => g.venues.length - i) (0) ?_ ?_ ?_
  · (try simp only [go_sem]); (repeat' (first | refine And.intro ?_ ?_ | trivial | exact .inr (oblA rfl) | exact .inr bel_vns | fail)); done
  · omega
  rintro i h1
  simp only [go_sem])
 | (
  refine ⟨i + 1, ?_, ?_, ?_⟩
  · (try simp only [go_sem]); (try rw [wrap64_id (by omega) (by omega)]); (repeat' (first | refine And.intro ?_ ?_ | exact .inr rfl | trivial | exact .inr (oblA rfl) | exact .inr bel_vns | fail)); done
  · omega
  · (try simp only []); omega)
 | (
  refine AWP.ret ?_
  refine AEnd.is ?_; simp only [go_sem, out_v, out_s, out_n, v_int, v_bool, v_str] <;> (first | (rw [told_c1 ha hx0 hcf hnop]; simp [withG]; done) | fail))
 | (refine AWP.ret ?_; refine AInPost.ret rfl ?_; simp only [go_sem, ha])
 | (refine AWP.ret ?_; simp only [inb_ret, athen_ret]; refine AInPost.ret rfl ?_; simp only [go_sem, ha])
 | (refine AWPL.of ?_; simp only [go_sem, ha])
 | ((fail_if_success (have := hbb)); (with_reducible intro bb hbb))
 | (exfalso; omega)
 | refine AWP.fin (by assumption) ?_
 | fail)
end Go.Proofs.YtajeeghgiilhiaaGreat
end
section
namespace Go.Proofs.YtajeeghgiilhiaaGreat
open Go Go.Abs Go.RowKit Go.Bk
set_option maxHeartbeats 16000000 in
set_option maxRecDepth 8000 in
theorem gtold_d (g : Gt) (k : Nat) (w : Vn) (x : Ex) (hg : GtSm g) (hx0 : g.venues[k]? = some w) (ha : isAtB g (k : Int) = true) (nb : Bk) (p : Nat) (hcf : comeF w.book x = (nb, 1)) (hop : x.kind = 1 ∨ x.kind = 4) (hsn : sentF w.sent x = some p) : ACalls E 30 [gtV g, i64 (k : Int), exV x] (fun r t => r = .tup [gtV (toldG g (k : Int) x).1, i64 (toldG g (k : Int) x).2.1, i64 (toldG g (k : Int) x).2.2] ∧ t = []) := by
 have hgi := hg.fit
 have hg1 := hg.1
 have hg2 := hg.2.1
 have hkn := get_lt hx0
 have hw0 := hg.2.2 w (List.mem_of_getElem? hx0)
 have hil := hw0.2.2.1
 have hix := idx_sp hsn
 have hpl := sn_lt hsn
 have hwp : IntKind.i64.wrap ((p : Int) + 1) = (p : Int) + 1 := wrap64_id (by omega) (by have := hw0.2.2.2; omega)
 refine ACalls.of_awp (n := 104) (rs := [.cell 6 58, .tmp 7, .tmp 8]) Tryz.func30 rfl Tryz.ntmps30 rfl ?_
 repeat' (first
 | (
  refine AWP.cutTo hc1 ?_
  first
  | (refine AWP.renum [0, 1, 2, 3, 4, 6] (by decide) rfl rfl ?_; simp only [go_sem, vn_ren, List.length_map]; refine AWP.weaken ?_ (hc1 m); (try simp only [go_sem]); (repeat' (first | refine And.intro ?_ ?_ | trivial | exact .inr (oblA rfl) | exact .inr bel_vns | fail)); done)
  | (have he : g.venues = [] := Classical.byContradiction fun hne => by
       have := hbb (by simpa using hne)
       simp_all
     refine AWP.nilOwn 3 0 8 _ rfl rfl ?_
     simp only [go_sem]
     refine AWP.weaken ?_ (hc1 0); (try simp only [go_sem, he, List.length_nil, List.map_nil, spare_zero]); (repeat' (first | refine And.intro ?_ ?_ | trivial | exact .inr (oblA rfl) | fail)); done))
 | refine AWP.seqk fun K hK => ?_
 | (
  refine AWP.here 1 5 5 rfl ?_
  first
  | (have h0 := hc1; clear h0; refine AWP.regionL ?_; refine AWPL.at 5 2 rfl ?_; simp only [go_sem])
  | ((fail_if_success (have h0 := hc1)); refine AWP.cutAt (ι := Nat) [5, 6, 7, 8] (fun (m : Nat) => []) (fun (m : Nat) => [some [.agg [vnsV g.venues, lmsV g.limits, bl g.kill, i64 g.now, i64 g.pat]], some [exV x], some [.agg [.nilS, .nilS, bl false, i64 0, i64 0]], some [.agg [.mu 5 8 0 g.venues.length (g.venues.length + m), lmsV g.limits, bl g.kill, i64 g.now, i64 g.pat]], some [.agg [.nilS, .nilS, bl false, i64 0, i64 0]], some (g.venues.map vnV ++ spare 8 m)]) (fun (m : Nat) => []) hK (fun m => ?_) (fun hc1 => ?_)))
 | (refine Cut.mk ?_; simp only [go_sem])
 | (
  refine AWP.here 4 21 5 rfl ?_
  have hxk : ((g.venues.map vnV ++ spare 8 m).set k (vnU w m2))[k]? = some (vnU w m2) := List.getElem?_set_self (by simp; omega)
  have hxk2 : ∀ z, (((g.venues.map vnV ++ spare 8 m).set k (vnU w m2)).set k z)[k]? = some z := fun z => List.getElem?_set_self (by simp; omega)
  have hxk3 : ∀ y z, ((((g.venues.map vnV ++ spare 8 m).set k (vnU w m2)).set k y).set k z)[k]? = some z := fun y z => List.getElem?_set_self (by simp; omega)
  refine AWP.region ?_; simp only [go_sem, ha])
 | (
  refine AWP.here 5 26 12 rfl ?_
  refine AWP.regionO [0, 1, 2, 3, 4, 9, 5, 6, 7, 8, 10, 11] [11] (by kernel_rfl) (by kernel_rfl) rfl ?_; simp only [go_sem, ha, hxk])
 | (
  refine AWP.here 20 78 5 rfl ?_
  refine AWP.region ?_; simp only [go_sem, ha, hxk])
 | (
  refine AWP.here 22 84 6 rfl ?_
  refine AWP.region ?_; simp only [go_sem, ha, hxk2])
 | (
  refine AWP.here 25 102 5 rfl ?_
  refine AWP.publishAt 5 k 5 (jd := 6) (k := 8) (n := w.sent.length - 1) (cap := w.sent.length + m2) ((w.sent.eraseIdx p).map odV ++ spare 8 (m2 + 1)) (by decide) rfl (List.getElem?_set_self (by simp; omega)) rfl rfl (by simp [spare_len, List.length_eraseIdx_of_lt hpl]; try omega) (by rw [od_takeD hpl]; exact cl_od _) ?_
  rw [od_takeD hpl]
  simp only [go_sem, ha]
  rw [row_told hkn]
  refine AWP.publishLeaf 7 0 (jd := 5) (k := 8) (n := g.venues.length) (cap := g.venues.length + m) _ ((g.venues.set k ⟨nb, w.sent.eraseIdx p, g.now, w.gap⟩).map vnV ++ spare 8 m) (by decide) rfl rfl rfl (by simp [spare_len]) (by rw [vn_takeS]; exact cl_vn _) ?_
  rw [vn_takeS]
  simp only [go_sem, ha]
  refine AWP.region ?_; simp only [go_sem, ha])
 | (
  refine AWP.here 15 52 7 rfl ?_
  refine AWP.regionFlow [[], [0], [0, 1], [0, 1, 2], [], [0, 1, 2, 3, 4], [0, 1, 2, 3, 4, 5]] [.ptr 5 k 0, .ptr 5 k 0, .ptr 5 k 5, .mu 6 8 0 w.sent.length (w.sent.length + m2), exV x, i64 (p : Int), i64 (p : Int)] [] (fun _ => [some [gtV g], some [exV x], some [.agg [.nilS, .nilS, bl false, i64 0, i64 0]], some [.agg [.mu 5 8 0 g.venues.length (g.venues.length + m), lmsV g.limits, bl g.kill, i64 g.now, i64 g.pat]], some [.agg [.mu 5 8 0 g.venues.length (g.venues.length + m), lmsV g.limits, bl g.kill, i64 g.now, i64 g.pat]], some ((g.venues.map vnV ++ spare 8 m).set k (vnU w m2)), some (w.sent.map odV ++ spare 8 m2), some [.agg [.mu 5 8 0 g.venues.length (g.venues.length + m), lmsV g.limits, bl g.kill, i64 g.now, i64 g.pat]], some [bkV nb]]) (by kernel_rfl) (by kernel_rfl) rfl rfl rfl ?_ ?_ ?_
  · intro i o ho hi s hg how htk hrs hr
    rcases i with _ | i
    · simp only [List.getElem?_toArray, List.getElem?_cons_zero, List.getElem?_cons_succ, Option.some.injEq] at ho; subst ho
      have e10 := (hr 10 (by decide)).trans (rfl : _ = (.ptr 5 k 0 : AV))
      refine FOp.list ?_
      simp only [go_sem, e10]
      first | done | fail
    rcases i with _ | i
    · simp only [List.getElem?_toArray, List.getElem?_cons_zero, List.getElem?_cons_succ, Option.some.injEq] at ho; subst ho
      have e52 := (hr 52 (by decide)).trans (rfl : _ = (.ptr 5 k 0 : AV))
      refine FOp.list ?_
      simp only [go_sem, e52]
      first | done | fail
    rcases i with _ | i
    · simp only [List.getElem?_toArray, List.getElem?_cons_zero, List.getElem?_cons_succ, Option.some.injEq] at ho; subst ho
      have e53 := (hr 53 (by decide)).trans (rfl : _ = (.ptr 5 k 0 : AV))
      refine FOp.list ?_
      simp only [go_sem, e53]
      first | done | fail
    rcases i with _ | i
    · simp only [List.getElem?_toArray, List.getElem?_cons_zero, List.getElem?_cons_succ, Option.some.injEq] at ho; subst ho
      have e54 := (hr 54 (by decide)).trans (rfl : _ = (.ptr 5 k 5 : AV))
      obtain ⟨kq, hkq⟩ := how
      refine FOp.list ?_
      simp only [go_sem, e54, hkq, hxk]
      first | done | fail
    rcases i with _ | i
    · simp only [List.getElem?_toArray, List.getElem?_cons_zero, List.getElem?_cons_succ, Option.some.injEq] at ho; subst ho
      have e5 := (hr 5 (by decide)).trans (rfl : _ = (.ptr 1 0 0 : AV))
      obtain ⟨kq, hkq⟩ := how
      refine FOp.list ?_
      simp only [go_sem, e5, hkq, hxk]
      first | done | fail
    rcases i with _ | i
    · simp only [List.getElem?_toArray, List.getElem?_cons_zero, List.getElem?_cons_succ, Option.some.injEq] at ho; subst ho
      have e55 := (hr 55 (by decide)).trans (rfl : _ = (.mu 6 8 0 w.sent.length (w.sent.length + m2) : AV))
      have e56 := (hr 56 (by decide)).trans (rfl : _ = (exV x : AV))
      obtain ⟨tm, ow0, tk0, gl0, rsv0, up0⟩ := s
      obtain ⟨kq, hkq⟩ := how
      simp only [] at hkq hrs htk hg
      subst hkq; subst hrs; subst htk; subst hg
      refine FOp.list ?_
      simp only [go_sem, e55, e56]
      refine ACall.snapOne (gsent_c w.sent x (by have := hw0.2.2.2; omega)) (by kernel_rfl) rfl (.cons (.one (.mu' rfl (by simp) (cl_od _))) (.cons (.one (.clean rfl)) .nil)) ?_
      simp only [go_sem, hix]
      try simp
    rcases i with _ | i
    · simp only [List.getElem?_toArray, List.getElem?_cons_zero, List.getElem?_cons_succ, Option.some.injEq] at ho; subst ho
      have e57 := (hr 57 (by decide)).trans (rfl : _ = (i64 (p : Int) : AV))
      refine FOp.list ?_
      simp only [go_sem, e57]
      first | done | fail
    · exact absurd ho (by simp)
  · intro k i o hk ho s hg how htk hrs hup hpp hr
    · exact absurd hk (by simp)
  simp only [go_sem, Go.Abs.setAll, Go.Abs.dstsOf, List.map_cons, List.map_nil])
 | (
  refine AWP.here 24 91 12 rfl ?_
  refine AWP.regionL ?_
  refine AWPL.at 12 8 rfl ?_
  simp only [go_sem, ha, hxk3, hwp]
  refine del_call (p := p) (m := m2) (l := w.sent) rfl rfl (by push_cast; rfl) rfl hpl (by have := hw0.2.2.2; omega) ?_
  simp only [go_sem, ha, hxk3]
  (try refine AWPL.at 3 3 rfl ?_)
  (try simp only [go_sem, ha, hxk3])
  (try refine AWPL.of ?_)
  (try simp only [go_sem]))
 | (
  refine AWP.here 5 15 5 rfl ?_
  obtain ⟨v, hx⟩ : ∃ v, g.venues[i]? = some v := ⟨_, List.getElem?_eq_getElem (by omega)⟩
  have hv := hg.2.2 v (List.mem_of_getElem? hx)
  have hx2 : (g.venues.map vnV ++ spare 8 m)[i]? = some (vnV v) := by rw [List.getElem?_append_left (by simpa using get_lt hx), List.getElem?_map, hx]; rfl
  have hvw : i = k → v = w := fun e => by subst e; rw [hx] at hx0; exact Option.some.inj hx0
  (first | have hki := dec_f hbk | (have hki := dec_t hbk; have hx3 : ((g.venues.map vnV ++ spare 8 m).set k (vnU w m2))[i]? = some (vnV v) := (List.getElem?_set_ne (by omega)).trans hx2))
  refine AWP.region ?_; simp only [go_sem])
 | (
  refine AWP.here 7 29 11 rfl ?_
  (first | rw [row_same hx] | rw [row_same3 (by omega) hx] | fail)
  refine AWP.region ?_; simp only [go_sem])
 | (
  refine AWP.here 8 39 11 rfl ?_
  (first | rw [row_same hx] | rw [row_same3 (by omega) hx] | fail)
  refine AWP.region ?_; simp only [go_sem])
 | (
  refine AWP.here 10 57 2 rfl ?_
  (first | rw [row_same hx] | rw [row_same3 (by omega) hx] | skip)
  (try (obtain rfl := hvw hik1; subst hik1))
  refine AWP.region ?_; simp only [go_sem])
 | (
  refine AWP.here 9 49 9 rfl ?_
  (first | rw [row_same hx] | rw [row_same3 (by omega) hx] | fail)
  rcases Nat.decEq i k with hik0 | hik1 <;> (first | (exfalso; omega) | (refine AWP.region ?_; simp only [go_sem])))
 | (
  refine AWP.here 11 58 5 rfl ?_
  (first | (exfalso; have hki := dec_f hbk; omega) | (have hki := dec_t hbk; refine AWP.region ?_; simp only [go_sem])))
 | (
  refine AWP.here 3 5 4 rfl ?_
  refine AWP.regionL ?_
  refine AWPL.mkMu ap55 ?_
  simp only [go_sem]
  refine AWPL.at 3 1 rfl ?_
  simp only [go_sem]
  refine AWPL.appMu sr55 ap55 rfl rfl rfl (by simp; omega) (by simp; omega) ?_
  intro m
  simp only [go_sem]
  refine AWPL.of ?_
  simp only [go_sem])
 | (refine AWP.here 1 14 4 rfl ?_; refine AWP.regionL ?_; refine AWPL.at 4 1 rfl ?_; simp only [go_sem, ha])
 | (refine AWP.region ?_; simp only [go_sem, ha])
 | (refine hK _ ?_; clear hK K)
 | refine AWP.block ?_
 | refine AWP.cond rfl (fun c => ?_) (fun c => ?_) <;> first | exact Bool.noConfusion c | (try simp only [dD] at c)
 | refine AWP.skip ?_
 | (refine AWP.exit ?_; simp only [go_sem, ha])
 | (refine ACall.one (gisat_c g (k : Int) hgi) (by kernel_rfl) rfl ?_; simp only [go_sem, ha])
 | (refine ACall.one (come_c w.book x hw0.1 hw0.2.1 hw0.2.2.1) (by kernel_rfl) rfl ?_; simp only [hcf]; simp only [go_sem, ha])
 | (have h0 := hik1; clear h0; refine ACall.take (oclone_c v.sent hv.2.2.2) (by kernel_rfl) rfl (.cons (.one (.clean rfl)) .nil) ?_; rintro r t ⟨rfl, rfl⟩; refine ⟨0, 8, _, rfl, by simp, pl_od _, fun m3 => ?_⟩; simp only [go_sem, List.length_map])
 | (refine ACall.one (oclone_p v.book.orders hv.1) (by kernel_rfl) rfl ?_; simp only [go_sem])
 | (refine ACall.one (oclone_p v.sent hv.2.2.2) (by kernel_rfl) rfl ?_; simp only [go_sem])
 | (refine ACall.one (dclone_p v.book.fills hv.2.1) (by kernel_rfl) rfl ?_; simp only [go_sem])
 | (refine ACall.one (sclone_p v.book.ids hv.2.2.1) (by kernel_rfl) rfl ?_; simp only [go_sem])
 | (refine ACall.one (limclone_p g.limits hg2) (by kernel_rfl) rfl ?_; simp only [go_sem])
 | (refine AWPL.call (rs := [.cell 2 58]) Tryz.func76 rfl Tryz.ntmps76 rfl (by kernel_rfl) rfl rfl ?_; simp only [go_sem])
 | (refine AWPL.call (rs := [.tmp 2]) Tryz.func144 rfl Tryz.ntmps144 rfl (by kernel_rfl) rfl rfl ?_; simp only [go_sem])
 | (refine AGuard.splitN (fun h => ?_) (fun h => ?_) <;> simp only [h, go_sem, ha] <;> (try simp only [dD] at h))
 | (refine AGet.haveM (by assumption) ?_; (try simp only [go_sem, ha]))
 | (refine AGet.have' (by assumption) ?_; (try simp only [go_sem, ha]))
 | ((first | with_reducible refine And.intro ?_ ?_); (focus (first | omega | (simp; done) | fail)); (try simp only [hb, go_sem, ha]))
 | (
  refine AWP.here 3 13 1 rfl ?_
  refine AWP.loopM (ι := Bool × Nat × Nat) [3, 4, 13, 14, 15, 16, 17, 18, 19, 20, 21, 22, 23, 24, 25, 26, 27, 28, 29, 30, 31, 32, 33, 34, 35, 36, 37, 38, 39, 40, 41, 42, 43, 44, 45, 46, 47, 48, 49, 50, 51, 52, 53, 54, 55, 56, 57] (fun ⟨bk, i, m2⟩ => [(12, i64 i)]) (fun ⟨bk, i, m2⟩ => [some [.agg [vnsV g.venues, lmsV g.limits, bl g.kill, i64 g.now, i64 g.pat]], some [exV x], some [.agg [.nilS, .nilS, bl false, i64 0, i64 0]], some [.agg [.mu 5 8 0 g.venues.length (g.venues.length + m), lmsV g.limits, bl g.kill, i64 g.now, i64 g.pat]], some [.agg [.nilS, .nilS, bl false, i64 0, i64 0]], some (bif bk then ((g.venues.map vnV ++ spare 8 m).set k (vnU w m2)) else (g.venues.map vnV ++ spare 8 m))] ++ (bif bk then [some (w.sent.map odV ++ spare 8 m2)] else [])) (fun ⟨bk, i, m2⟩ => ([] : List Nat)) (fun ⟨bk, i, m2⟩ => i ≤ g.venues.length ∧ bk = decide (k < i)) (fun ⟨bk, i, m2⟩ => g.venues.length - i) ((false, 0, 0)) ?_ ?_ ?_
  · (try simp only [go_sem]); (try simp only [cond_true, cond_false, List.cons_append, List.nil_append, List.append_nil, List.set_set]); (repeat' (first | exact .inr bel_vns | refine And.intro ?_ ?_ | trivial | exact .inr (oblA rfl) | fail)); done
  · exact ⟨by omega, by simp⟩
  rintro ⟨bk, i, m2⟩ ⟨h1, hbk⟩
  simp only [go_sem]
  cases bk <;> simp only [cond_true, cond_false, List.cons_append, List.nil_append, List.append_nil])
 | (
  refine ⟨(false, i + 1, m2), ?_, ?_, ?_⟩
  · (try simp only [go_sem]); (try rw [wrap64_id (by omega) (by omega)]); (try simp only [cond_true, cond_false, List.cons_append, List.nil_append, List.append_nil, List.set_set]); (repeat' (first | exact .inr bel_vns | refine And.intro ?_ ?_ | exact .inr rfl | trivial | exact .inr (oblA rfl) | exact .inr ⟨by simp, by simp⟩)); done
  · (try dsimp only); (first | exact ⟨by omega, dec_ff (by omega)⟩ | fail)
  · (try simp only []); omega)
 | (
  refine ⟨(true, i + 1, m3), ?_, ?_, ?_⟩
  · (try simp only [go_sem]); (try rw [wrap64_id (by omega) (by omega)]); (try simp only [cond_true, cond_false, List.cons_append, List.nil_append, List.append_nil, List.set_set]); (repeat' (first | exact .inr (bel_vnu (by decide)) | exact .inr bel_odr | refine And.intro ?_ ?_ | exact .inr rfl | trivial | exact .inr (oblA rfl) | fail)); done
  · (try dsimp only); (first | exact ⟨by omega, dec_tt (by omega)⟩)
  · (try simp only []); omega)
 | (
  refine ⟨(true, i + 1, m2), ?_, ?_, ?_⟩
  · (try simp only [go_sem]); (try rw [wrap64_id (by omega) (by omega)]); (try simp only [cond_true, cond_false, List.cons_append, List.nil_append, List.append_nil, List.set_set]); (repeat' (first | exact .inr (bel_vnu (by decide)) | exact .inr bel_odr | refine And.intro ?_ ?_ | exact .inr rfl | trivial | exact .inr (oblA rfl) | fail)); done
  · (try dsimp only); (first | exact ⟨by omega, dec_tt (by omega)⟩)
  · (try simp only []); omega)
 | (
  refine AWP.ret ?_
  refine AEnd.is ?_; simp only [go_sem, out_v, out_s, out_n, v_int, v_bool, v_str] <;> (first | (rw [told_d ha hx0 hcf hop hsn]; simp [withG]; done) | skip))
 | (refine AWP.ret ?_; refine AInPost.ret rfl ?_; simp only [go_sem, ha])
 | (refine AWP.ret ?_; simp only [inb_ret, athen_ret]; refine AInPost.ret rfl ?_; simp only [go_sem, ha])
 | (refine AWPL.of ?_; simp only [go_sem, ha])
 | ((fail_if_success (have := hbb)); (with_reducible intro bb hbb))
 | (exfalso; omega)
 | refine AWP.fin (by assumption) ?_
 | fail)
end Go.Proofs.YtajeeghgiilhiaaGreat
end
section
namespace Go.Proofs.YtajeeghgiilhiaaGreat
open Go Go.Abs Go.RowKit Go.Bk
theorem gtold_c (g : Gt) (n : Int) (x : Ex) (hg : GtSm g) : ACalls E 30 [gtV g, i64 n, exV x] (fun r t => r = .tup [gtV (toldG g n x).1, i64 (toldG g n x).2.1, i64 (toldG g n x).2.2] ∧ t = []) := by
 cases ha : isAtB g n with
 | false => rw [told_no ha]; exact gtold_n g n x hg ha
 | true =>
   obtain ⟨k, w, rfl, hx⟩ := isAt_get ha
   obtain ⟨nb, kk, hcf⟩ : ∃ nb kk, comeF w.book x = (nb, kk) := ⟨_, _, rfl⟩
   by_cases h1 : kk = 1
   · subst h1
     by_cases ho : x.kind = 1 ∨ x.kind = 4
     · cases hs : sentF w.sent x with
       | none => exact gtold_b g k w x hg hx ha nb 1 hcf (.inl rfl) ho hs
       | some p => exact gtold_d g k w x hg hx ha nb p hcf ho hs
     · exact gtold_c1 g k w x hg hx ha nb hcf ho
   · by_cases h3 : kk = 3
     · subst h3
       by_cases ho : x.kind = 1 ∨ x.kind = 4
       · cases hs : sentF w.sent x with
         | none => exact gtold_b g k w x hg hx ha nb 3 hcf (.inr rfl) ho hs
         | some p => exact gtold_c3 g k w x hg hx ha nb p hcf (fun _ => hs)
       · exact gtold_c3 g k w x hg hx ha nb 0 hcf (fun h => absurd h ho)
     · exact gtold_0 g k w x hg hx ha nb kk hcf ⟨h1, h3⟩
end Go.Proofs.YtajeeghgiilhiaaGreat
end
section
namespace Go.Bk
open Go Go.Abs
theorem stbP_perm (l : List Po) : (stbP l).Perm l := by
 obtain ⟨hp, _⟩ := Go.Stb.stable_spec swo_P l.toArray
 have := hp.2.2
 rw [show (Go.Stb.stable ltP l.toArray).extract 0 l.toArray.size = Go.Stb.stable ltP l.toArray by rw [← hp.1]; simp, show l.toArray.extract 0 l.toArray.size = l.toArray by simp] at this
 exact this
theorem stbP_len (l : List Po) : (stbP l).length = l.length := (stbP_perm l).length_eq
theorem stbP_sorted (l : List Po) : (stbP l).Pairwise (fun p q => ltP q p = false) := by
 obtain ⟨hp, hs⟩ := Go.Stb.stable_spec swo_P l.toArray
 rw [List.pairwise_iff_getElem]
 intro i j hi hj hij
 unfold stbP at *
 rw [Array.length_toList] at hi hj
 have := hs i j (by omega) hij (by rw [← hp.1]; exact hj)
 rwa [getElem!_pos _ i hi, getElem!_pos _ j hj] at this
theorem merge_spec {ls : List (List Po)} (h : ls.all riseP = true) : Merged (mergeF ls).1 ls.flatten := by
 unfold mergeF; rw [if_pos h]
 exact (grp_spec _ _ (by rw [stbP_len]; exact Nat.le_refl _) (stbP_sorted _)).perm (stbP_perm _)
theorem merge_bad {ls : List (List Po)} (h : ¬ ls.all riseP = true) : mergeF ls = ([], 1) := by unfold mergeF; rw [if_neg h]
theorem merge_ok {ls : List (List Po)} (h : ls.all riseP = true) : (mergeF ls).2 = 0 := by unfold mergeF; rw [if_pos h]
def carryF (a b : List Po) : List Po × Int := if (mergeF [a, b]).2 ≠ 0 then ([], (mergeF [a, b]).2) else if (mergeF [a, b]).1.any (·.over) then ([], 9) else ((mergeF [a, b]).1, 0)
theorem rise_ok : ∀ {l : List Po}, riseP l = true → ∀ p ∈ l, okP p = true
 | p :: l, h, q, hq => by
   simp only [riseP, Bool.and_eq_true] at h
   rcases List.mem_cons.1 hq with rfl | hq
   · exact h.1.1
   · exact rise_ok h.2 q hq
theorem rise_rising : ∀ {l : List Po}, riseP l = true → Rising l
 | [], _ => List.Pairwise.nil
 | [p], _ => List.pairwise_singleton ..
 | p :: q :: l, h => by
   simp only [riseP, Bool.and_eq_true] at h
   have ih : Rising (q :: l) := rise_rising (by simp only [riseP, Bool.and_eq_true]; exact h.2)
   refine List.pairwise_cons.2 ⟨fun x hx => ?_, ih⟩
   rcases List.mem_cons.1 hx with rfl | hx
   · exact h.1.2
   · exact ltN_trans h.1.2 ((List.pairwise_cons.1 ih).1 x hx)
theorem same_one {l : List Po} (h : Rising l) {p : Po} (hp : p ∈ l) : sameF (nmP p) l = [p] := by
 induction l with
 | nil => exact absurd hp (by simp)
 | cons q l ih =>
   obtain ⟨h1, h2⟩ := List.pairwise_cons.1 h
   rcases List.mem_cons.1 hp with rfl | hp
   · unfold sameF
     rw [List.filter_cons_of_pos (by simp), List.filter_eq_nil_iff.2]
     intro x hx
     have := h1 x hx
     simp only [decide_eq_true_eq]
     intro e
     unfold ltP at this; rw [e, ltN_irrefl] at this; exact absurd this (by simp)
   · unfold sameF
     rw [List.filter_cons_of_neg]
     · exact ih h2 hp
     · have := h1 p hp
       simp only [decide_eq_true_eq]
       intro e
       unfold ltP at this; rw [e, ltN_irrefl] at this; exact absurd this (by simp)
def sumQ (l : List Po) (n : Nm) : Int := sumL ((sameF n l).map (·.qty))
def sumV (l : List Po) (n : Nm) : Int := sumL ((sameF n l).map (·.value))
theorem sumQ_app (a b : List Po) (n : Nm) : sumQ (a ++ b) n = sumQ a n + sumQ b n := by simp [sumQ, sameF, sumL_app]
theorem sumV_app (a b : List Po) (n : Nm) : sumV (a ++ b) n = sumV a n + sumV b n := by simp [sumV, sameF, sumL_app]
theorem sumF_val {l : List Int} (h : (sumF l).2 = true) : (sumF l).1 = sumL l := by
 unfold sumF at *
 split
 · rfl
 · rename_i h2; rw [if_neg h2] at h; exact absurd h (by simp)
theorem one_is {l : List Po} {n : Nm} (h : (oneF l n).over = false) : oneF l n = ⟨n.1, n.2, sumQ l n, sumV l n, false⟩ := by
 unfold oneF togF at *
 split at h
 · exact absurd h (by simp)
 · rename_i h1
   rw [if_neg h1]
   split at h
   · rename_i h2
     rw [if_pos h2]
     simp only [Bool.and_eq_true] at h2
     rw [sumF_val h2.1, sumF_val h2.2]; rfl
   · exact absurd h (by simp)
theorem merged_sum {l all : List Po} (hm : Merged l all) (ho : ∀ p ∈ l, p.over = false) (n : Nm) : sumQ l n = sumQ all n ∧ sumV l n = sumV all n ∧ ((∃ q ∈ l, nmP q = n) ↔ ∃ q ∈ all, nmP q = n) := by
 by_cases h : ∃ q ∈ all, nmP q = n
 · have hin : oneF all n ∈ l := (hm.mem _).2 ⟨by rw [oneF_nm]; exact h, by rw [oneF_nm]⟩
   have e := one_is (ho _ hin)
   have hs := same_one hm.rise hin
   rw [oneF_nm] at hs
   refine ⟨?_, ?_, ?_⟩
   · unfold sumQ at *; rw [hs, e]; simp [sumL, sumQ]
   · unfold sumV at *; rw [hs, e]; simp [sumL, sumV]
   · exact ⟨fun _ => h, fun _ => ⟨_, hin, oneF_nm⟩⟩
 · have h2 : ∀ q ∈ l, nmP q ≠ n := fun q hq e => by
     obtain ⟨⟨r, hr, e2⟩, _⟩ := (hm.mem q).1 hq
     exact h ⟨r, hr, e2.trans e⟩
   have s1 : sameF n l = [] := List.filter_eq_nil_iff.2 fun q hq => by simpa using h2 q hq
   have s2 : sameF n all = [] := List.filter_eq_nil_iff.2 fun q hq => by
     simp only [decide_eq_true_eq]; intro e; exact h ⟨q, hq, e⟩
   refine ⟨by unfold sumQ; rw [s1, s2], by unfold sumV; rw [s1, s2], ?_⟩
   exact ⟨fun ⟨q, hq, e⟩ => absurd e (h2 q hq), fun h3 => absurd h3 h⟩
theorem carry_ok {a b : List Po} (h : (carryF a b).2 = 0) : Merged (carryF a b).1 (a ++ b) ∧ ∀ p ∈ (carryF a b).1, p.over = false := by
 unfold carryF at *
 by_cases hr : [a, b].all riseP = true
 · rw [if_neg (by rw [merge_ok hr]; simp)] at *
   by_cases ho : (mergeF [a, b]).1.any (·.over) = true
   · rw [if_pos ho] at h; exact absurd h (by simp)
   · rw [if_neg ho]
     have := merge_spec hr
     simp only [List.flatten_cons, List.flatten_nil, List.append_nil] at this
     refine ⟨this, fun p hp => ?_⟩
     simp only [List.any_eq_true, not_exists, not_and, Bool.not_eq_true] at ho
     exact ho p hp
 · rw [if_pos (by rw [merge_bad hr]; simp), merge_bad hr] at h
   exact absurd h (by simp)
end Go.Bk
end
section
namespace Go.Bk
open Go Go.Abs
end Go.Bk
end
section
namespace Go.Bk
open Go Go.Abs
def srtN (l : List Nm) : List Nm := l.mergeSort fun x y => !ltN y x
def cG (l : List Nm) : Nat → List Nm
 | 0 => []
 | i + 1 => if 0 < i ∧ l[i]? = l[i - 1]? then cG l i else cG l i ++ (l[i]?).toList
def cmpct (l : List Nm) : List Nm := cG l l.length
theorem cG_mem {l : List Nm} : ∀ (i : Nat) (x : Nm), x ∈ cG l i ↔ x ∈ l.take i
 | 0, x => by simp [cG]
 | i + 1, x => by
   rw [cG]
   split
   · rename_i h
     rw [cG_mem i x]
     cases hx : l[i]? with
     | none => rw [List.take_add_one, hx]; simp
     | some y =>
       rw [take_next hx, List.mem_append, List.mem_singleton]
       constructor
       · exact .inl
       · rintro (h2 | rfl)
         · exact h2
         · refine List.mem_iff_getElem?.2 ⟨i - 1, ?_⟩
           rw [List.getElem?_take, if_pos (by omega), ← h.2, hx]
   · rw [List.mem_append, cG_mem i x, List.take_add_one, List.mem_append]
theorem cG_rise {l : List Nm} (hs : l.Pairwise fun x y => ltN y x = false) : ∀ (i : Nat), (cG l i).Pairwise (fun x y => ltN x y = true)
 | 0 => List.Pairwise.nil
 | i + 1 => by
   rw [cG]
   split
   · exact cG_rise hs i
   · rename_i h
     cases hx : l[i]? with
     | none => simpa using cG_rise hs i
     | some x =>
       refine List.pairwise_append.2 ⟨cG_rise hs i, by simp, fun y hy z hz => ?_⟩
       simp only [Option.toList_some, List.mem_singleton] at hz
       subst hz
       obtain ⟨k, hk⟩ := List.mem_iff_getElem?.1 ((cG_mem i y).1 hy)
       rw [List.getElem?_take] at hk
       split at hk
       · rename_i hki
         have hle : ∀ {a b : Nat} {u v : Nm}, a < b → l[a]? = some u → l[b]? = some v → ltN v u = false := fun {a b} {u v} hab hu hv => by
           obtain ⟨ha, rfl⟩ := List.getElem?_eq_some_iff.1 hu
           obtain ⟨hb, rfl⟩ := List.getElem?_eq_some_iff.1 hv
           exact List.pairwise_iff_getElem.1 hs a b ha hb hab
         obtain ⟨w, hw⟩ : ∃ w, l[i - 1]? = some w := ⟨_, List.getElem?_eq_getElem (by have := get_lt hx; omega)⟩
         have h1 : ltN z w = false := hle (by omega) hw hx
         have hzw : z ≠ w := fun e => h ⟨by omega, by rw [hx, hw, e]⟩
         have h2 : ltN w z = true := by
           rcases ltN_tri w z with h3 | h3 | h3
           · exact h3
           · exact absurd h3.symm hzw
           · rw [h3] at h1; exact absurd h1 (by simp)
         rcases Nat.lt_or_ge k (i - 1) with h3 | h3
         · have h4 : ltN w y = false := hle h3 hk hw
           rcases ltN_tri y w with h5 | h5 | h5
           · exact ltN_trans h5 h2
           · rw [h5]; exact h2
           · rw [h5] at h4; exact absurd h4 (by simp)
         · have : k = i - 1 := by omega
           subst this; rw [hk] at hw; cases hw; exact h2
       · exact absurd hk (by simp)
theorem srtN_sorted (l : List Nm) : (srtN l).Pairwise fun x y => ltN y x = false := by
 have h := List.pairwise_mergeSort (le := fun x y : Nm => !ltN y x) (fun a b c h1 h2 => by
   simp only [Bool.not_eq_true'] at *
   exact ltN_nt h2 h1) (fun a b => by
   rcases ltN_tri a b with h | h | h
   · simp [ltN_asym h]
   · subst h; simp [ltN_irrefl]
   · simp [ltN_asym h]) l
 exact h.imp fun {a b} h => by simpa using h
theorem srtN_mem {l : List Nm} {x : Nm} : x ∈ srtN l ↔ x ∈ l := (List.mergeSort_perm l _).mem_iff
def nmsB (b : Bk) : List Nm := b.fills.map fun f => (f.acc, f.sym)
def allP (b : Bk) : List Po := if rightBk b then (cmpct (srtN (nmsB b))).map (fun n => posF b n.1 n.2) else []
theorem cmpct_mem {l : List Nm} {x : Nm} : x ∈ cmpct l ↔ x ∈ l := by
 unfold cmpct; rw [cG_mem, List.take_length]
theorem nms_rise (l : List Nm) : (cmpct (srtN l)).Pairwise (fun x y => ltN x y = true) := cG_rise (srtN_sorted l) _
end Go.Bk
end
section
namespace Go.Bk
open Go Go.Abs
def finsB (b : Bk) : List Dn := b.fills.filter fun f => finalF b f
def restB (b : Bk) : List Dn := b.fills.filter fun f => !finalF b f
def doneB (b : Bk) : Bk := ⟨[], finsB b, b.ids, b.clock, 0⟩
def hasR (b : Bk) (car : List Po) (a s : Bs) : Po :=
 if (mergeF [[posF b a s], [getP car (a, s)]]).2 ≠ 0 then ⟨a, s, 0, 0, true⟩ else getP (mergeF [[posF b a s], [getP car (a, s)]]).1 (a, s)
def worstR (b : Bk) (car : List Po) (a s : Bs) : Ws :=
 if (getP car (a, s)).over then ofF b a s else plusW (ofF b a s) ((getP car (a, s)).qty, IntKind.i64.wrap (0 - (getP car (a, s)).qty))
end Go.Bk
end
section
namespace Go.Bk
open Go Go.Abs
inductive Drp (c : Int) : List Dn → List Dn → List Dn → Prop
 | nil : Drp c [] [] []
 | keep (f : Dn) {X F G : List Dn} : Drp c X F G → Drp c X (f :: F) (f :: G)
 | drop (f : Dn) {X F G : List Dn} : 10 < c - f.time → Drp c X F G → Drp c (f :: X) (f :: F) G
structure Twin (X : List Dn) (b n : Bk) : Prop where
 orders : n.orders = b.orders
 ids : n.ids = b.ids
 clock : n.clock = b.clock
 bad : n.bad = b.bad
 fills : Drp b.clock X b.fills n.fills
theorem Drp.mono {c d : Int} (h : c ≤ d) {X F G : List Dn} (hd : Drp c X F G) : Drp d X F G := by
 induction hd with
 | nil => exact .nil
 | keep f _ ih => exact .keep f ih
 | drop f hf _ ih => exact .drop f (by omega) ih
theorem Drp.snoc {c : Int} {X F G : List Dn} (hd : Drp c X F G) (f : Dn) : Drp c X (F ++ [f]) (G ++ [f]) := by
 induction hd with
 | nil => exact .keep f .nil
 | keep f _ ih => exact .keep f ih
 | drop f hf _ ih => exact .drop f hf ih
theorem Drp.refl {c : Int} : ∀ (F : List Dn), Drp c [] F F
 | [] => .nil
 | f :: F => .keep f (Drp.refl F)
theorem Drp.sub {c : Int} {X F G : List Dn} (hd : Drp c X F G) : G.Sublist F := by
 induction hd with
 | nil => exact .slnil
 | keep f _ ih => exact ih.cons_cons f
 | drop f _ _ ih => exact ih.cons f
theorem Drp.trans {c : Int} {X F G : List Dn} (h : Drp c X F G) : ∀ {Y H : List Dn}, Drp c Y G H → ∃ Z, Z.Perm (X ++ Y) ∧ Drp c Z F H := by
 induction h with
 | nil => intro Y H h2; exact ⟨Y, by simp, h2⟩
 | keep f _ ih =>
   intro Y H h2
   cases h2 with
   | keep _ h2 => obtain ⟨Z, h3, h4⟩ := ih h2; exact ⟨Z, h3, .keep f h4⟩
   | drop _ hf h2 => obtain ⟨Z, h3, h4⟩ := ih h2; exact ⟨f :: Z, (h3.cons f).trans List.perm_middle.symm, .drop f hf h4⟩
 | drop f hf _ ih => intro Y H h2; obtain ⟨Z, h3, h4⟩ := ih h2; exact ⟨f :: Z, h3.cons f, .drop f hf h4⟩
theorem Drp.filter {c : Int} (p : Dn → Bool) : ∀ (F : List Dn), (∀ f ∈ F, p f = false → 10 < c - f.time) → Drp c (F.filter fun f => !p f) F (F.filter p)
 | [], _ => .nil
 | f :: F, hp => by
   have ih := Drp.filter p F fun g hg => hp g (List.mem_cons_of_mem _ hg)
   cases h : p f with
   | true => rw [List.filter_cons_of_pos (p := p) h, List.filter_cons_of_neg (p := fun f => !p f) (by simp [h])]; exact .keep f ih
   | false => rw [List.filter_cons_of_neg (p := p) (by simp [h]), List.filter_cons_of_pos (p := fun f => !p f) (by simp [h])]; exact .drop f (hp f (by simp) h) ih
theorem Drp.perm {c : Int} {X F G : List Dn} (h : Drp c X F G) : F.Perm (X ++ G) := by
 induction h with
 | nil => exact .nil
 | keep f _ ih => exact (ih.cons f).trans List.perm_middle.symm
 | drop f _ _ ih => exact ih.cons f
theorem atF_cons {f : Dn} {F : List Dn} {id : Bs} : atF (f :: F) id = if f.id = id then some 0 else (atF F id).map (· + 1) := by
 unfold atF; rw [List.findIdx?_cons]; simp only [decide_eq_true_eq]
theorem atF_none_of {F : List Dn} {id : Bs} (h : id ∉ F.map (·.id)) : atF F id = none := by
 unfold atF; rw [List.findIdx?_eq_none_iff]
 intro f hf
 simp only [decide_eq_false_iff_not]
 intro e; exact h (List.mem_map.2 ⟨f, hf, e⟩)
theorem Drp.find {c : Int} {X F G : List Dn} (hd : Drp c X F G) (nd : (F.map (·.id)).Nodup) (id : Bs) :
   (∃ i j f, atF F id = some i ∧ atF G id = some j ∧ F.getD i zeroD = f ∧ G.getD j zeroD = f ∧ ∀ f', Drp c X (F.set i f') (G.set j f')) ∨
   (∃ i f, atF F id = some i ∧ atF G id = none ∧ F.getD i zeroD = f ∧ 10 < c - f.time) ∨ (atF F id = none ∧ atF G id = none) := by
 induction hd with
 | nil => exact .inr (.inr ⟨rfl, rfl⟩)
 | keep f h ih =>
   rw [List.map_cons, List.nodup_cons] at nd
   by_cases e : f.id = id
   · refine .inl ⟨0, 0, f, by rw [atF_cons, if_pos e], by rw [atF_cons, if_pos e], rfl, rfl, fun f' => .keep f' h⟩
   · rcases ih nd.2 with ⟨i, j, g, h1, h2, h3, h4, h5⟩ | ⟨i, g, h1, h2, h3, h4⟩ | ⟨h1, h2⟩
     · exact .inl ⟨i + 1, j + 1, g, by rw [atF_cons, if_neg e, h1]; rfl, by rw [atF_cons, if_neg e, h2]; rfl, by simpa using h3, by simpa using h4, fun f' => .keep f (h5 f')⟩
     · exact .inr (.inl ⟨i + 1, g, by rw [atF_cons, if_neg e, h1]; rfl, by rw [atF_cons, if_neg e, h2]; rfl, by simpa using h3, h4⟩)
     · exact .inr (.inr ⟨by rw [atF_cons, if_neg e, h1]; rfl, by rw [atF_cons, if_neg e, h2]; rfl⟩)
 | drop f hf h ih =>
   rw [List.map_cons, List.nodup_cons] at nd
   by_cases e : f.id = id
   · refine .inr (.inl ⟨0, f, by rw [atF_cons, if_pos e], atF_none_of ?_, rfl, hf⟩)
     intro hm
     obtain ⟨g, hg, e2⟩ := List.mem_map.1 hm
     exact nd.1 (List.mem_map.2 ⟨g, h.sub.subset hg, e2.trans e.symm⟩)
   · rcases ih nd.2 with ⟨i, j, g, h1, h2, h3, h4, h5⟩ | ⟨i, g, h1, h2, h3, h4⟩ | ⟨h1, h2⟩
     · exact .inl ⟨i + 1, j, g, by rw [atF_cons, if_neg e, h1]; rfl, h2, by simpa using h3, h4, fun f' => .drop f hf (h5 f')⟩
     · exact .inr (.inl ⟨i + 1, g, by rw [atF_cons, if_neg e, h1]; rfl, h2, by simpa using h3, h4⟩)
     · exact .inr (.inr ⟨by rw [atF_cons, if_neg e, h1]; rfl, h2⟩)
structure Alike2 (c : Int) (X F G : List Dn) (p q : Bk × Int) : Prop where
 code : p.2 = q.2
 orders : q.1.orders = p.1.orders
 ids : q.1.ids = p.1.ids
 clock : q.1.clock = p.1.clock
 bad : q.1.bad = p.1.bad
 clk : p.1.clock = c
 fills : Drp c X p.1.fills q.1.fills
 len : p.1.fills.length + G.length = q.1.fills.length + F.length
section
variable {o : List Od} {X F G : List Dn} {ids : List Bs} {cl bad : Int}
theorem Alike2.put (h : Drp cl X F G) (o' : List Od) (e : Int) : Alike2 cl X F G (⟨o', F, ids, cl, bad⟩, e) (⟨o', G, ids, cl, bad⟩, e) := ⟨rfl, rfl, rfl, rfl, rfl, rfl, h, by simp only []; omega⟩
theorem amend_twin (h : Drp cl X F G) (nd : (F.map (·.id)).Nodup) (x : Ex) (hx : ¬ x.time < cl) : Alike2 cl X F G (amendF ⟨o, F, ids, cl, bad⟩ x) (amendF ⟨o, G, ids, cl, bad⟩ x) := by
 unfold amendF
 rcases h.find nd x.ref with ⟨i, j, f, h1, h2, h3, h4, h5⟩ | ⟨i, f, h1, h2, h3, h4⟩ | ⟨h1, h2⟩
 · simp only [h1, h2, h3, h4]
   by_cases c1 : f.live = false ∨ 10 < x.time - f.time
   · rw [if_pos c1, if_pos c1]; exact .put h _ 6
   · rw [if_neg c1, if_neg c1]
     by_cases c2 : f.ord ≠ x.ord ∨ f.acc ≠ x.acc ∨ f.sym ≠ x.sym ∨ f.buy ≠ x.buy
     · rw [if_pos c2, if_pos c2]; exact .put h _ 3
     · rw [if_neg c2, if_neg c2]
       by_cases c3 : x.kind = 7
       · rw [if_pos c3, if_pos c3]
         exact ⟨rfl, rfl, rfl, rfl, rfl, rfl, h5 _, by simp only [List.length_set]; omega⟩
       · rw [if_neg c3, if_neg c3]
         by_cases c4 : f.qty < x.qty
         · rw [if_pos c4, if_pos c4]; exact .put h _ 4
         · rw [if_neg c4, if_neg c4]
           by_cases c5 : (findF o f.ord).2 = false ∨ fairF { (findF o f.ord).1 with buy := f.buy } x.price = false
           · rw [if_pos c5, if_pos c5]; exact .put h _ 5
           · rw [if_neg c5, if_neg c5]
             exact ⟨rfl, rfl, rfl, rfl, rfl, rfl, h5 _, by simp only [List.length_set]; omega⟩
 · simp only [h1, h2, h3]
   rw [if_pos (.inr (by omega))]
   exact .put h _ 6
 · simp only [h1, h2]
   exact .put h _ 6
theorem fill_twin (h : Drp cl X F G) (x : Ex) : Alike2 cl X F G (fillF ⟨o, F, ids, cl, bad⟩ x) (fillF ⟨o, G, ids, cl, bad⟩ x) := by
 unfold fillF
 dsimp only
 by_cases c1 : (fillO o x.ord x.qty x.price).2 = 0
 · rw [if_pos c1, if_pos c1]
   exact ⟨rfl, rfl, rfl, rfl, rfl, rfl, h.snoc _, by simp only [List.length_append]; omega⟩
 · rw [if_neg c1, if_neg c1]
   by_cases c2 : (fillO o x.ord x.qty x.price).2 = 1
   · rw [if_pos c2, if_pos c2]; exact .put h _ 4
   · rw [if_neg c2, if_neg c2]
     by_cases c3 : (fillO o x.ord x.qty x.price).2 = 9
     · rw [if_pos c3, if_pos c3]; exact .put h _ 5
     · rw [if_neg c3, if_neg c3]; exact .put h _ 2
theorem repl_twin (h : Drp cl X F G) (x : Ex) : Alike2 cl X F G (replaceF ⟨o, F, ids, cl, bad⟩ x) (replaceF ⟨o, G, ids, cl, bad⟩ x) := by
 unfold replaceF
 dsimp only
 by_cases c1 : (changeO o x.ref x.ord x.qty x.price).2 = 0
 · rw [if_pos c1, if_pos c1]; exact .put h _ 0
 · rw [if_neg c1, if_neg c1]
   by_cases c2 : (changeO o x.ref x.ord x.qty x.price).2 = 1
   · rw [if_pos c2, if_pos c2]; exact .put h _ 4
   · rw [if_neg c2, if_neg c2]; exact .put h _ 2
theorem apply_twin (h : Drp cl X F G) (nd : (F.map (·.id)).Nodup) (x : Ex) : Alike2 cl X F G (applyF ⟨o, F, ids, cl, bad⟩ x) (applyF ⟨o, G, ids, cl, bad⟩ x) := by
 unfold applyF
 dsimp only
 by_cases c1 : x.time < cl
 · rw [if_pos c1, if_pos c1]; exact .put h _ 1
 · rw [if_neg c1, if_neg c1]
   by_cases c2 : x.kind = 1
   · rw [if_pos c2, if_pos c2]
     by_cases c3 : (newO o (orderOf x)).2 = 0
     · rw [if_pos c3, if_pos c3]; exact .put h _ 0
     · rw [if_neg c3, if_neg c3]; exact .put h _ 2
   · rw [if_neg c2, if_neg c2]
     by_cases c3 : x.kind = 7 ∨ x.kind = 8
     · rw [if_pos c3, if_pos c3]; exact amend_twin h nd x c1
     · rw [if_neg c3, if_neg c3]
       generalize (if x.kind = 4 then x.ref else x.ord) = key
       by_cases c4 : (findF o key).2 = false ∨ (findF o key).1.opn = false
       · rw [if_pos c4, if_pos c4]; exact .put h _ 2
       · rw [if_neg c4, if_neg c4]
         by_cases c5 : (findF o key).1.acc ≠ x.acc ∨ (findF o key).1.sym ≠ x.sym ∨ (findF o key).1.buy ≠ x.buy
         · rw [if_pos c5, if_pos c5]; exact .put h _ 3
         · rw [if_neg c5, if_neg c5]
           by_cases c6 : x.kind = 2
           · rw [if_pos c6, if_pos c6]; exact fill_twin h x
           · rw [if_neg c6, if_neg c6]
             by_cases c7 : x.kind = 4
             · rw [if_pos c7, if_pos c7]; exact repl_twin h x
             · rw [if_neg c7, if_neg c7]
               by_cases c8 : (closeO o x.ord).2 = 0
               · rw [if_pos c8, if_pos c8]; exact .put h _ 0
               · rw [if_neg c8, if_neg c8]; exact .put h _ 2
theorem apply_late {b : Bk} {x : Ex} (h : (applyF b x).2 = 0) : b.clock ≤ x.time := (applyF_does h).1
theorem take_twin (h : Drp cl X F G) (nd : (F.map (·.id)).Nodup) (x : Ex) : (takeF ⟨o, F, ids, cl, bad⟩ x).2 = (takeF ⟨o, G, ids, cl, bad⟩ x).2 ∧ Twin X (takeF ⟨o, F, ids, cl, bad⟩ x).1 (takeF ⟨o, G, ids, cl, bad⟩ x).1 ∧ (takeF ⟨o, F, ids, cl, bad⟩ x).1.fills.length + G.length = (takeF ⟨o, G, ids, cl, bad⟩ x).1.fills.length + F.length := by
 unfold takeF
 dsimp only
 by_cases c1 : bad ≠ 0 ∨ 256 ≤ ids.length
 · rw [if_pos c1, if_pos c1]; exact ⟨rfl, ⟨rfl, rfl, rfl, rfl, h⟩, by simp only []; omega⟩
 · rw [if_neg c1, if_neg c1]
   by_cases c2 : hasF ids x.id = true
   · rw [if_pos c2, if_pos c2]; exact ⟨rfl, ⟨rfl, rfl, rfl, rfl, h⟩, by simp only []; omega⟩
   · rw [if_neg c2, if_neg c2]
     have ha := apply_twin (o := o) (ids := ids ++ [x.id]) (bad := bad) h nd x
     have hc := ha.code
     by_cases c3 : (applyF ⟨o, F, ids ++ [x.id], cl, bad⟩ x).2 ≠ 0
     · rw [if_pos c3, if_pos (by rw [← hc]; exact c3)]
       exact ⟨rfl, ⟨ha.orders, ha.ids, ha.clock, hc.symm, by simp only []; rw [ha.clk]; exact ha.fills⟩, ha.len⟩
     · rw [if_neg c3, if_neg (by rw [← hc]; exact c3)]
       exact ⟨rfl, ⟨ha.orders, ha.ids, rfl, ha.bad, ha.fills.mono (apply_late (Decidable.not_not.1 c3))⟩, ha.len⟩
end
theorem come_twin {X : List Dn} {b n : Bk} (h : Twin X b n) (hb : rightBk b = true) (hn : rightBk n = true) (x : Ex) : (comeF b x).2 = (comeF n x).2 ∧ Twin X (comeF b x).1 (comeF n x).1 ∧ (comeF b x).1.fills.length + n.fills.length = (comeF n x).1.fills.length + b.fills.length := by
 unfold comeF
 rw [hb, hn, Bool.true_and]
 have nd : (b.fills.map (·.id)).Nodup := by
   unfold rightBk at hb
   simp only [Bool.and_eq_true, decide_eq_true_eq] at hb
   exact hb.2
 obtain ⟨o, F, ids, cl, bad⟩ := b
 obtain ⟨o', G, ids', cl', bad'⟩ := n
 obtain ⟨h1, h2, h3, h4, h5⟩ := h
 simp only at h1 h2 h3 h4
 subst h1; subst h2; subst h3; subst h4
 by_cases c : execB x = true
 · rw [if_pos c, if_pos c]; exact take_twin h5 nd x
 · rw [if_neg c, if_neg c]; exact ⟨rfl, ⟨rfl, rfl, rfl, rfl, h5⟩, by simp only []; omega⟩
end Go.Bk
end
section
namespace Go.Bk
open Go Go.Abs
def nB (b : Bk) : Bk := ⟨b.orders, restB b, b.ids, b.clock, b.bad⟩
theorem final_old {b : Bk} {f : Dn} (h1 : 0 ≤ f.time) (h2 : f.time ≤ b.clock) (h3 : b.clock ≤ 4611686018427387904) : finalF b f = decide (10 < b.clock - f.time) := by
 unfold finalF
 rw [if_neg (by omega), wrap64_id (by omega) (by omega)]
theorem right_clock {b : Bk} (hr : rightBk b = true) : 0 ≤ b.clock ∧ b.clock ≤ 4611686018427387904 := by
 have := (rightBk_iff.1 hr).1
 omega
theorem sub_right {b n : Bk} (hr : rightBk b = true) (ho : rightO n.orders = true) (hi : n.ids = b.ids) (hc : n.clock = b.clock) (hb : 0 ≤ n.bad ∧ n.bad ≤ 6) (hs : n.fills.Sublist b.fills) : rightBk n = true := by
 obtain ⟨h1, h2, h3, h4⟩ := rightBk_iff.1 hr
 have hl := hs.length_le
 refine rightBk_iff.2 ⟨?_, by rw [hi]; exact h2, fun f hf => ?_, h4.sublist (hs.map _)⟩
 · rw [hi, hc]
   exact ⟨ho, by omega, h1.2.2.1, h1.2.2.2.1, h1.2.2.2.2.1, hb.1, hb.2⟩
 · have := h3 f (hs.subset hf)
   unfold fillB at *; rw [hi, hc]; exact this
theorem nB_right {b : Bk} (hr : rightBk b = true) : rightBk (nB b) = true := by
 have h := (rightBk_iff.1 hr).1
 exact sub_right hr h.1 rfl rfl ⟨h.2.2.2.2.2.1, h.2.2.2.2.2.2⟩ (List.filter_sublist (p := fun f => !finalF b f))
theorem done_right {b : Bk} (hr : rightBk b = true) : rightBk (doneB b) = true := sub_right (n := doneB b) hr (by show rightO [] = true; decide) rfl rfl ⟨Int.le_refl 0, by show (0:Int) ≤ 6; omega⟩ (List.filter_sublist (p := fun f => finalF b f))
theorem nB_twin {b : Bk} (hr : rightBk b = true) : Twin (finsB b) b (nB b) := ⟨rfl, rfl, rfl, rfl, by
 have hc := right_clock hr
 have h := Drp.filter (c := b.clock) (fun f => !finalF b f) b.fills fun f hf e => by
   have ha := right_amounts hr f hf
   rw [final_old ha.2.2.1 ha.2.2.2 hc.2] at e
   simpa using e
 simp only [Bool.not_not] at h
 exact h⟩
theorem sumF_num (l : List Int) : numB (sumF l).1 = true := numB_iff.2 (sumF_bnd' l)
theorem pos_okP (b : Bk) (a s : Bs) : okP (posF b a s) = true := by
 unfold posF posG
 split
 · split
   · simp [okP, sumF_num]
   · simp [okP, numB]
 · simp [okP, numB]
theorem pos_nm (b : Bk) (a s : Bs) : nmP (posF b a s) = (a, s) := by
 unfold posF posG
 split
 · split <;> rfl
 · rfl
theorem rise_of {l : List Po} (h1 : ∀ p ∈ l, okP p = true) (h2 : Rising l) : riseP l = true := by
 induction l with
 | nil => rfl
 | cons p l ih =>
   obtain ⟨h3, h4⟩ := List.pairwise_cons.1 h2
   have := ih (fun q hq => h1 q (List.mem_cons_of_mem _ hq)) h4
   have e := h1 p (by simp)
   cases l with
   | nil => simp only [riseP, e, Bool.and_true]
   | cons q l => have e2 := h3 q (by simp); simp only [riseP, e] at this ⊢; simp_all [ltP]
theorem all_rise (b : Bk) : riseP (allP b) = true := by
 unfold allP
 split
 · refine rise_of (fun p hp => ?_) ?_
   · obtain ⟨n, _, rfl⟩ := List.mem_map.1 hp
     exact pos_okP b n.1 n.2
   · unfold Rising
     rw [List.pairwise_map]
     refine (nms_rise _).imp fun {x y} h => ?_
     unfold ltP
     rw [pos_nm, pos_nm]; exact h
 · rfl
theorem pos_zero {b : Bk} (hr : rightBk b = true) {a s : Bs} (h : (a, s) ∉ nmsB b) : posF b a s = ⟨a, s, 0, 0, false⟩ := by
 have : matsF a s b.fills = [] := List.filter_eq_nil_iff.2 fun f hf => by
   rw [matB_iff]
   rintro ⟨_, h2, h3⟩
   exact h (List.mem_map.2 ⟨f, hf, by rw [h2, h3]⟩)
 unfold posF; rw [if_pos hr, this]; rfl
theorem get_all {b : Bk} (hr : rightBk b = true) (a s : Bs) : getP (allP b) (a, s) = posF b a s := by
 have hm : allP b = (cmpct (srtN (nmsB b))).map fun n => posF b n.1 n.2 := by unfold allP; rw [if_pos hr]
 by_cases h : (a, s) ∈ nmsB b
 · have h2 : (a, s) ∈ cmpct (srtN (nmsB b)) := cmpct_mem.2 (srtN_mem.2 h)
   have h3 : posF b a s ∈ allP b := by rw [hm]; exact List.mem_map.2 ⟨_, h2, rfl⟩
   have hs := same_one (rise_rising (all_rise b)) h3
   rw [pos_nm] at hs
   unfold getP
   have hf : (allP b).find? (fun p => decide (nmP p = (a, s))) = some (posF b a s) := by
     have := List.find?_filter (p := fun p => decide (nmP p = (a, s))) (q := fun _ => true) (xs := allP b)
     unfold sameF at hs
     rw [← List.head?_filter, hs]; rfl
   rw [hf]
 · rw [pos_zero hr h]
   unfold getP
   have hf : (allP b).find? (fun p => decide (nmP p = (a, s))) = none := by
     rw [List.find?_eq_none]
     intro p hp
     rw [hm] at hp
     obtain ⟨n, hn, rfl⟩ := List.mem_map.1 hp
     rw [pos_nm]
     simp only [decide_eq_true_eq]
     intro e
     exact h (srtN_mem.1 (cmpct_mem.1 (by rw [← e]; exact hn)))
   rw [hf]
theorem two_get {p q : Po} {n : Nm} (hp : okP p = true) (hq : okP q = true) (np : nmP p = n) (nq : nmP q = n) : mergeF [[p], [q]] = ([togF n [p, q]], 0) := by
 have h : ([[p], [q]] : List (List Po)).all riseP = true := by simp [riseP, hp, hq]
 refine Prod.ext ?_ (merge_ok h)
 refine Merged.uniq (merge_spec h) ⟨List.pairwise_singleton .., fun x => ?_⟩
 have hsame : sameF n [p, q] = [p, q] := by unfold sameF; rw [List.filter_cons_of_pos (by simp [np]), List.filter_cons_of_pos (by simp [nq])]; rfl
 simp only [List.flatten_cons, List.flatten_nil, List.append_nil, List.cons_append, List.nil_append, List.mem_singleton]
 constructor
 · rintro rfl
   refine ⟨⟨p, by simp, by rw [togF_nm]; exact np⟩, ?_⟩
   rw [togF_nm]; unfold oneF; rw [hsame]
 · rintro ⟨⟨y, hy, e⟩, hx⟩
   have hn : nmP x = n := by
     rcases List.mem_cons.1 hy with rfl | hy
     · rw [← e]; exact np
     · rw [List.mem_singleton.1 hy] at e; rw [← e]; exact nq
   rw [hn] at hx; unfold oneF at hx; rw [hsame] at hx; exact hx
theorem has_eq {b : Bk} {car : List Po} {a s : Bs} (h : okP (getP car (a, s)) = true) (hn : nmP (getP car (a, s)) = (a, s)) : hasR b car a s = togF (a, s) [posF b a s, getP car (a, s)] := by
 unfold hasR
 generalize getP car (a, s) = q at *
 rw [two_get (pos_okP b a s) h (pos_nm b a s) hn, if_neg (by simp)]
 have e : nmP (togF (a, s) [posF b a s, q]) = (a, s) := togF_nm
 simp only [getP, List.find?_cons, e, decide_true]
theorem sumF_two {x y : Int} (hx : numB x = true) (hy : numB y = true) : sumF [x, y] = if numB (x + y) then (x + y, true) else (0, false) := by
 unfold sumF
 simp only [List.all_cons, List.all_nil, hx, hy, Bool.true_and, Bool.and_true, sumL, Int.add_zero]
theorem tog_two {p q : Po} {n : Nm} (hp : okP p = true) (hq : okP q = true) : togF n [p, q] = if p.over || q.over then ⟨n.1, n.2, 0, 0, true⟩ else if numB (p.qty + q.qty) && numB (p.value + q.value) then ⟨n.1, n.2, p.qty + q.qty, p.value + q.value, false⟩ else ⟨n.1, n.2, 0, 0, true⟩ := by
 simp only [okP, Bool.and_eq_true] at hp hq
 unfold togF
 simp only [List.any_cons, List.any_nil, Bool.or_false, List.map_cons, List.map_nil, sumF_two hp.1.1 hq.1.1, sumF_two hp.1.2 hq.1.2]
 by_cases c1 : (p.over || q.over) = true
 · rw [if_pos c1, if_pos c1]
 · rw [if_neg c1, if_neg c1]
   cases e1 : numB (p.qty + q.qty) <;> cases e2 : numB (p.value + q.value) <;> simp
end Go.Bk
end
section
namespace Go.Bk
open Go Go.Abs
def qS (a s : Bs) (X : List Dn) : Int := sumL ((matsF a s X).map sgn)
def vS (a s : Bs) (X : List Dn) : Int := sumL ((matsF a s X).map fun f => sgn f * f.price)
theorem qS_app {a s : Bs} (X Y : List Dn) : qS a s (X ++ Y) = qS a s X + qS a s Y := by unfold qS matsF; rw [List.filter_append, List.map_append, sumL_app]
theorem vS_app {a s : Bs} (X Y : List Dn) : vS a s (X ++ Y) = vS a s X + vS a s Y := by unfold vS matsF; rw [List.filter_append, List.map_append, sumL_app]
theorem qS_perm {a s : Bs} {X Y : List Dn} (h : X.Perm Y) : qS a s X = qS a s Y := by unfold qS matsF; exact sumL_perm ((h.filter _).map _)
theorem vS_perm {a s : Bs} {X Y : List Dn} (h : X.Perm Y) : vS a s X = vS a s Y := by unfold vS matsF; exact sumL_perm ((h.filter _).map _)
structure Held (C : List Po) (X : List Dn) : Prop where
 rise : riseP C = true
 is : ∀ a s, getP C (a, s) = ⟨a, s, qS a s X, vS a s X, false⟩
theorem held_nil : Held [] [] := ⟨rfl, fun a s => rfl⟩
theorem Held.perm {C : List Po} {X Y : List Dn} (h : Held C X) (hp : X.Perm Y) : Held C Y := ⟨h.rise, fun a s => by rw [h.is, qS_perm hp, vS_perm hp]⟩
theorem getP_cases (l : List Po) (n : Nm) : (getP l n ∈ l ∧ nmP (getP l n) = n) ∨ getP l n = ⟨n.1, n.2, 0, 0, false⟩ := by
 unfold getP
 cases h : l.find? (fun p => decide (nmP p = n)) with
 | none => exact .inr rfl
 | some p => exact .inl ⟨List.mem_of_find?_eq_some h, by simpa using List.find?_some h⟩
theorem getP_ok {l : List Po} (h : riseP l = true) (n : Nm) : okP (getP l n) = true := by
 rcases getP_cases l n with ⟨h1, _⟩ | h1
 · exact rise_ok h _ h1
 · rw [h1]; rfl
theorem getP_nm (l : List Po) (n : Nm) : nmP (getP l n) = n := by
 rcases getP_cases l n with ⟨_, h1⟩ | h1
 · exact h1
 · rw [h1]; rfl
theorem getP_over {l : List Po} (h : l.any (·.over) = false) (n : Nm) : (getP l n).over = false := by
 rcases getP_cases l n with ⟨h1, _⟩ | h1
 · have := List.any_eq_false.1 h _ h1
   simpa using this
 · rw [h1]
theorem valF_val {f : Dn} (h : (valF f).2 = true) : (valF f).1 = sgn f * f.price := by
 unfold valF mulF at *
 split
 · rfl
 · rename_i h2; rw [if_neg h2] at h; exact absurd h (by simp)
theorem pos_val {b : Bk} (hr : rightBk b = true) {a s : Bs} (h : (posF b a s).over = false) : posF b a s = ⟨a, s, qS a s b.fills, vS a s b.fills, false⟩ := by
 unfold posF at *
 rw [if_pos hr] at *
 unfold posG at *
 split
 · rename_i h2
   simp only [Bool.and_eq_true, List.all_eq_true] at h2
   rw [sumF_val h2.2.1, sumF_val h2.2.2]
   have e : (matsF a s b.fills).map (fun f => (valF f).1) = (matsF a s b.fills).map fun f => sgn f * f.price := List.map_congr_left fun f hf => valF_val (h2.1 f hf)
   rw [e]; rfl
 · rename_i h2; rw [if_neg h2] at h; exact absurd h (by simp)
theorem has_val {b : Bk} {C : List Po} {X : List Dn} (hr : rightBk b = true) (hh : Held C X) {a s : Bs} (h : (hasR b C a s).over = false) : hasR b C a s = ⟨a, s, qS a s b.fills + qS a s X, vS a s b.fills + vS a s X, false⟩ := by
 have e := (has_eq (b := b) (getP_ok hh.rise (a, s)) (getP_nm C (a, s))).trans (tog_two (pos_okP b a s) (getP_ok hh.rise (a, s)))
 rw [e] at h ⊢
 clear e
 split
 · rename_i h2; rw [if_pos h2] at h; exact absurd h (by simp)
 · rename_i h2
   rw [if_neg h2] at h
   simp only [Bool.or_eq_true, not_or, Bool.not_eq_true] at h2
   rw [pos_val hr h2.1, hh.is] at h ⊢
   split
   · rfl
   · rename_i h3; rw [if_neg h3] at h; exact absurd h (by simp)
theorem has_twin {b n : Bk} {C D : List Po} {X Y : List Dn} (hb : rightBk b = true) (hn : rightBk n = true) (ht : Twin X b n) (hc : Held C (X ++ Y)) (hd : Held D Y) {a s : Bs} (h1 : (hasR b D a s).over = false) (h2 : (hasR n C a s).over = false) : hasR b D a s = hasR n C a s := by
 rw [has_val hb hd h1, has_val hn hc h2, qS_app, vS_app, qS_perm ht.fills.perm, vS_perm ht.fills.perm, qS_app, vS_app]
 congr 1 <;> omega
theorem fill_one {fin : Bool} {a s : Bs} {f : Dn} (h : fin = true) : fillA fin a s f = (qS a s [f], -qS a s [f]) := by
 unfold fillA qS matsF
 by_cases c : f.live = true ∧ f.acc = a ∧ f.sym = s
 · rw [if_pos c, List.filter_cons_of_pos (matB_iff.2 c)]
   simp only [List.filter_nil, List.map_cons, List.map_nil, sumL, sgn, h]
   cases f.buy <;> simp
 · have : matB a s f = false := by cases hm : matB a s f with
     | false => rfl
     | true => exact absurd (matB_iff.1 hm) c
   rw [if_neg c, List.filter_cons_of_neg (by simp [this])]
   simp [sumL]
theorem qS_cons {a s : Bs} (f : Dn) (X : List Dn) : qS a s (f :: X) = qS a s [f] + qS a s X := qS_app [f] X
theorem fills_twin {b n : Bk} (hc : n.clock = b.clock) (hk : b.clock ≤ 4611686018427387904) {c : Int} (e : c = b.clock) {X F G : List Dn} (h : Drp c X F G) (hf : ∀ f ∈ F, 0 ≤ f.time ∧ f.time ≤ b.clock) {a s : Bs} : sumW (fillsA b a s F) = ((sumW (fillsA n a s G)).1 + qS a s X, (sumW (fillsA n a s G)).2 - qS a s X) := by
 induction h with
 | nil => rfl
 | keep f _ ih =>
   have ih := ih fun g hg => hf g (List.mem_cons_of_mem _ hg)
   have e2 : finalF b f = finalF n f := by unfold finalF; rw [hc]
   simp only [fillsA, List.map_cons, sumW] at *
   rw [ih, e2]
   refine Prod.ext ?_ ?_ <;> dsimp only <;> omega
 | @drop f X F G ht _ ih =>
   have ih := ih fun g hg => hf g (List.mem_cons_of_mem _ hg)
   have h1 := hf f (by simp)
   have e2 : finalF b f = true := by rw [final_old h1.1 h1.2 hk]; simp; omega
   simp only [fillsA, List.map_cons, sumW] at *
   rw [ih, fill_one e2, qS_cons f X]
   refine Prod.ext ?_ ?_ <;> dsimp only <;> omega
theorem worst_twin {b n : Bk} {C : List Po} {X : List Dn} (hb : rightBk b = true) (hn : rightBk n = true) (ht : Twin X b n) (hc : Held C X) (a s : Bs) : worstR n C a s = ofF b a s := by
 have hk := right_clock hb
 have hq := getP_ok hc.rise (a, s)
 unfold worstR
 rw [hc.is] at *
 simp only [okP, Bool.and_eq_true] at hq
 have hq := numB_iff.1 hq.1.1
 have h := of_bnd (b := n) (acc := a) (sym := s)
 rw [if_neg (by simp)]
 dsimp only
 rw [wrap64_id (by omega) (by omega), plus_eq h (m := 4611686018427387904) (by simp only [Bnd]; omega) (by omega)]
 unfold ofF
 rw [if_pos hn, if_pos hb]
 unfold ofE
 rw [ht.orders, fills_twin ht.clock hk.2 rfl ht.fills (fun f hf => ⟨(right_amounts hb f hf).2.2.1, (right_amounts hb f hf).2.2.2⟩)]
 refine Prod.ext ?_ ?_ <;> dsimp only <;> omega
theorem close_held {b : Bk} (hr : rightBk b = true) (h : (allP (doneB b)).any (·.over) = false) : Held (allP (doneB b)) (finsB b) := ⟨all_rise _, fun a s => by
 have h1 := getP_over h (a, s)
 rw [get_all (done_right hr) a s] at *
 rw [pos_val (done_right hr) h1]; rfl⟩
end Go.Bk
end
section
namespace Go.Bk
open Go Go.Abs
theorem get_mem {l : List Po} (h : riseP l = true) {p : Po} (hp : p ∈ l) : getP l (nmP p) = p := by
 have hs := same_one (rise_rising h) hp
 unfold getP
 have hf : l.find? (fun q => decide (nmP q = nmP p)) = some p := by
   unfold sameF at hs
   rw [← List.head?_filter, hs]; rfl
 rw [hf]
theorem get_sum {l : List Po} (h : riseP l = true) (ho : ∀ p ∈ l, p.over = false) (n : Nm) : getP l n = ⟨n.1, n.2, sumQ l n, sumV l n, false⟩ := by
 by_cases hm : ∃ p ∈ l, nmP p = n
 · obtain ⟨p, hp, rfl⟩ := hm
   have hs := same_one (rise_rising h) hp
   rw [get_mem h hp]
   unfold sumQ sumV
   rw [hs]
   have := ho p hp
   obtain ⟨a, s, q, v, o⟩ := p
   simp only at this
   simp [sumL, nmP, this]
 · have hs : sameF n l = [] := by
     unfold sameF
     rw [List.filter_eq_nil_iff]
     intro p hp
     simp only [decide_eq_true_eq]
     exact fun e => hm ⟨p, hp, e⟩
   have hf : l.find? (fun p => decide (nmP p = n)) = none := by
     rw [List.find?_eq_none]
     intro p hp
     simp only [decide_eq_true_eq]
     exact fun e => hm ⟨p, hp, e⟩
   unfold getP sumQ sumV
   rw [hf, hs]; rfl
theorem Held.overs {C : List Po} {X : List Dn} (h : Held C X) : ∀ p ∈ C, p.over = false := fun p hp => by
 have e := h.is (nmP p).1 (nmP p).2
 rw [show ((nmP p).1, (nmP p).2) = nmP p from rfl, get_mem h.rise hp] at e
 rw [e]
theorem Held.sums {C : List Po} {X : List Dn} (h : Held C X) (a s : Bs) : sumQ C (a, s) = qS a s X ∧ sumV C (a, s) = vS a s X := by
 have e := h.is a s
 rw [get_sum h.rise h.overs] at e
 injection e with _ _ e1 e2
 exact ⟨e1, e2⟩
theorem tog_okP (n : Nm) (l : List Po) : okP (togF n l) = true := by
 unfold togF
 split
 · simp [okP, numB]
 · split
   · simp [okP, sumF_num]
   · simp [okP, numB]
theorem merged_rise {l all : List Po} (h : Merged l all) : riseP l = true := by
 refine rise_of (fun p hp => ?_) h.rise
 have := ((h.mem p).1 hp).2
 rw [this]
 exact tog_okP _ _
theorem carry_held {C D : List Po} {X Y : List Dn} (hc : Held C X) (hd : Held D Y) (h : (carryF C D).2 = 0) : Held (carryF C D).1 (X ++ Y) := by
 obtain ⟨h1, h2⟩ := carry_ok h
 refine ⟨merged_rise h1, fun a s => ?_⟩
 rw [get_sum (merged_rise h1) h2]
 have hs := merged_sum h1 h2 (a, s)
 rw [hs.1, hs.2.1, sumQ_app, sumV_app, (hc.sums a s).1, (hc.sums a s).2, (hd.sums a s).1, (hd.sums a s).2, qS_app, vS_app]
structure Inv (W D : Bk) (C : List Po) : Prop where
 rw : rightBk W = true
 rd : rightBk D = true
 held : ∃ X, Twin X W D ∧ Held C X
theorem Inv.come {W D : Bk} {C : List Po} (h : Inv W D C) (x : Ex) : Inv (comeF W x).1 (comeF D x).1 C := by
 obtain ⟨X, ht, hc⟩ := h.held
 exact ⟨comeF_right h.rw, comeF_right h.rd, X, (come_twin ht h.rw h.rd x).2.1, hc⟩
theorem Twin.trans {X Y : List Dn} {W D N : Bk} (h : Twin X W D) (h2 : Twin Y D N) : ∃ Z, Z.Perm (X ++ Y) ∧ Twin Z W N := by
 have h3 := h2.fills
 rw [h.clock] at h3
 obtain ⟨Z, hz, hd⟩ := h.fills.trans h3
 exact ⟨Z, hz, h2.orders.trans h.orders, h2.ids.trans h.ids, h2.clock.trans h.clock, h2.bad.trans h.bad, hd⟩
theorem Inv.close {W D : Bk} {C : List Po} (h : Inv W D C) (ho : (allP (doneB D)).any (·.over) = false) (hc : (carryF C (allP (doneB D))).2 = 0) : Inv W (nB D) (carryF C (allP (doneB D))).1 := by
 obtain ⟨X, ht, hh⟩ := h.held
 obtain ⟨Z, hz, hd⟩ := ht.trans (nB_twin h.rd)
 exact ⟨h.rw, nB_right h.rd, Z, hd, (carry_held hh (close_held h.rd ho) hc).perm hz.symm⟩
theorem Inv.has {W D : Bk} {C : List Po} (h : Inv W D C) (a s : Bs) (h1 : (hasR W [] a s).over = false) (h2 : (hasR D C a s).over = false) : hasR W [] a s = hasR D C a s := by
 obtain ⟨X, ht, hh⟩ := h.held
 exact has_twin (Y := []) h.rw h.rd ht (by simpa using hh) held_nil h1 h2
theorem Inv.worst {W D : Bk} {C : List Po} (h : Inv W D C) (a s : Bs) : ofF W a s = worstR D C a s := by
 obtain ⟨X, ht, hh⟩ := h.held
 exact (worst_twin h.rw h.rd ht hh a s).symm
theorem Inv.bad {W D : Bk} {C : List Po} (h : Inv W D C) : D.bad = W.bad := by
 obtain ⟨X, ht, hh⟩ := h.held
 exact ht.bad
end Go.Bk
end
section
namespace Go.Bk
open Go Go.Abs
theorem all_take {l : List Int} {i : Nat} {x : Int} (hx : l[i]? = some x) (h : (l.take i).all numB = true) (h2 : numB x = true) : (l.take (i + 1)).all numB = true := by
 rw [take_next hx, List.all_append, h]; simp [h2]
theorem mul_no1 {a b : Int} (h : numB a = false) : mulF a b = (0, false) := by unfold mulF; rw [h]; rfl
theorem mul_no2 {a b : Int} (h : numB b = false) : mulF a b = (0, false) := by unfold mulF; rw [h]; simp
end Go.Bk
end
section
namespace Go.Proofs.YtajeeghgiilhiaaGreat
open Go Go.Abs Go.RowKit Go.Bk
end Go.Proofs.YtajeeghgiilhiaaGreat
end
section
namespace Go.Bk
open Go Go.Abs
end Go.Bk
end
section
namespace Go.Proofs.YtajeeghgiilhiaaGreat
open Go Go.Abs Go.RowKit Go.Bk
section
variable {u v n i j lo hi mi : Nat} {d : Array Po}
end
end Go.Proofs.YtajeeghgiilhiaaGreat
end
section
namespace Go.Proofs.YtajeeghgiilhiaaGreat
open Go Go.Abs Go.RowKit Go.Bk
section
variable {i k s x lo hi mi N : Nat} {d e1 e2 : Array Po}
end
end Go.Proofs.YtajeeghgiilhiaaGreat
end
section
namespace Go.Proofs.YtajeeghgiilhiaaGreat
open Go Go.Abs Go.RowKit Go.Bk
end Go.Proofs.YtajeeghgiilhiaaGreat
end
section
namespace Go.Proofs.YtajeeghgiilhiaaGreat
open Go Go.Abs Go.RowKit Go.Bk
end Go.Proofs.YtajeeghgiilhiaaGreat
end
section
namespace Go.Proofs.YtajeeghgiilhiaaGreat
open Go Go.Abs Go.RowKit Go.Bk
end Go.Proofs.YtajeeghgiilhiaaGreat
end
section
namespace Go.Proofs.YtajeeghgiilhiaaGreat
open Go Go.Abs Go.RowKit Go.Bk
theorem nl {v : Bool} {p : Prop} (h : v = true) (h2 : ¬ p) : ¬ (v = false ∨ p) := by simp [h, h2]
end Go.Proofs.YtajeeghgiilhiaaGreat
end
section
namespace Go.Proofs.YtajeeghgiilhiaaGreat
open Go Go.Abs Go.RowKit Go.Bk
end Go.Proofs.YtajeeghgiilhiaaGreat
end
section
namespace Go.Proofs.YtajeeghgiilhiaaGreat
open Go Go.Abs Go.RowKit Go.Bk
set_option maxHeartbeats 4000000 in
set_option maxRecDepth 8000 in
theorem r11same_c (p q : List Od) (hl : p.length ≤ 9223372036854775807) : ACalls E 60 [odsV p, odsV q] (fun r t => r = bl (decide (p = q)) ∧ t = []) := by
 refine ACalls.of_awp (n := 26) (rs := [.tmp 4]) Tryz.func60 rfl Tryz.ntmps60 rfl ?_
 repeat' (first
 | refine AWP.seqk fun K hK => ?_
 | (refine AWP.region ?_; simp only [go_sem])
 | (refine AWP.here 6 17 9 rfl ?_; refine AWP.regionO [0, 1, 2, 3, 4, 5, 6, 7, 8] [] (by kernel_rfl) (by kernel_rfl) rfl ?_; simp only [go_sem])
 | (refine hK _ ?_; clear hK K)
 | refine AWP.block ?_
 | refine AWP.cond rfl (fun c => ?_) (fun c => ?_) <;> first | (try simp only [dD] at c)
 | refine AWP.skip ?_
 | (refine AWP.exit ?_; simp only [go_sem])
 | ((first | refine AGet.nth ?_ (fun b hb => ?_) | with_reducible refine And.intro ?_ ?_); (focus (first | omega | (simp; done) | fail)); (try simp only [hb, go_sem]))
 | (
  refine AWP.here 4 11 4 rfl ?_
  refine AWP.loopN (ι := Nat) [4, 11, 12, 13, 14, 15, 16, 17, 18, 19, 20, 21, 22, 23, 24, 25] (fun (i : Nat) => [(5, i64 i)]) (fun (i : Nat) => i ≤ p.length ∧ p.length = q.length ∧ p.take i = q.take i) (fun (i : Nat) => p.length - i) (0) ?_ ?_ ?_
  · (try simp only [go_sem]); (repeat' (first | fail)); done
  · exact ⟨by omega, by omega, by simp⟩
  rintro i ⟨h1, h2, h3⟩
  simp only [go_sem])
 | (
  refine ⟨i + 1, ?_, ?_, ?_⟩
  · (try simp only [go_sem]); (try rw [wrap64_id (by omega) (by omega)]); (repeat' (first | exact .inr rfl | fail)); done
  · exact ⟨by omega, by omega, eq_next (a := p) (b := q) (by assumption) (by assumption) (by exact od_eq (by assumption)) h3⟩
  · (try simp only []); omega)
 | (
  refine AWP.ret ?_
  refine AEnd.is ?_; simp only [go_sem, out_v, out_s, out_n, v_int, v_bool, v_str] <;> (first
  | (rw [eq_no1 (by omega)]; done)
  | (rw [eq_no2 (a := p) (b := q) (by assumption) (by assumption) (by exact od_ne (by assumption))]; done)
  | (rw [eq_yes h2 (by omega) h3]; done)))
 | refine AWP.fin (by assumption) ?_)
set_option maxHeartbeats 8000000 in
set_option maxRecDepth 8000 in
theorem r12same_c (p q : Bk) (ho : p.orders.length ≤ 9223372036854775807) (hf : p.fills.length ≤ 9223372036854775807) (hi : p.ids.length ≤ 9223372036854775807) : ACalls E 15 [bkV p, bkV q] (fun r t => r = bl (decide (p = q)) ∧ t = []) := by
 refine ACalls.of_awp (n := 81) (rs := [.tmp 4]) Tryz.func15 rfl Tryz.ntmps15 rfl ?_
 repeat' (first
 | refine AWP.seqk fun K hK => ?_
 | (refine AWP.region ?_; simp only [go_sem])
 | (refine AWP.here 6 52 11 rfl ?_; refine AWP.regionO [0, 1, 2, 3, 4, 5, 6, 7, 8, 9, 10] [] (by kernel_rfl) (by kernel_rfl) rfl ?_; simp only [go_sem])
 | (refine AWP.here 11 70 11 rfl ?_; refine AWP.regionO [0, 1, 2, 3, 4, 5, 6, 7, 8, 9, 10] [] (by kernel_rfl) (by kernel_rfl) rfl ?_; simp only [go_sem])
 | (refine hK _ ?_; clear hK K)
 | refine AWP.block ?_
 | refine AWP.cond rfl (fun c => ?_) (fun c => ?_) <;> first | exact Bool.noConfusion c | (try simp only [dD] at c)
 | refine AWP.skip ?_
 | (refine AWP.exit ?_; simp only [go_sem])
 | (refine ACall.one (r11same_c p.orders q.orders ho) (by kernel_rfl) rfl ?_; simp only [go_sem])
 | (refine AGuard.split (fun h => ?_) (fun h => ?_) <;> simp only [h, go_sem] <;> (try simp only [dD] at h))
 | ((first | refine AGet.nth ?_ (fun b hb => ?_) | with_reducible refine And.intro ?_ ?_); (focus (first | omega | (simp; done) | fail)); (try simp only [hb, go_sem]))
 | (
  refine AWP.here 4 45 5 rfl ?_
  refine AWP.loopM (ι := Nat) [4, 45, 46, 47, 48, 49, 50, 51, 52, 53, 54, 55, 56, 57, 58, 59, 60, 61, 62] (fun (i : Nat) => [(5, i64 i)]) (fun (i : Nat) => [some [.agg [odsV p.orders, dnsV p.fills, .sl none 1 (p.ids.map str), i64 p.clock, i64 p.bad]], some [.agg [odsV q.orders, dnsV q.fills, .sl none 1 (q.ids.map str), i64 q.clock, i64 q.bad]]]) (fun (i : Nat) => []) (fun (i : Nat) => i ≤ p.fills.length ∧ p.fills.length = q.fills.length ∧ p.fills.take i = q.fills.take i) (fun (i : Nat) => p.fills.length - i) (0) ?_ ?_ ?_
  · (try simp only [go_sem]); (repeat' (first | refine And.intro ?_ ?_ | exact .inr (oblA rfl) | fail)); done
  · exact ⟨by omega, by omega, by simp⟩
  rintro i ⟨h1, h2, h3⟩
  simp only [go_sem])
 | (
  refine AWP.here 9 63 5 rfl ?_
  refine AWP.loopM (ι := Nat) [4, 63, 64, 65, 66, 67, 68, 69, 70, 71, 72, 73, 74, 75, 76, 77, 78, 79, 80] (fun (i : Nat) => [(6, i64 i)]) (fun (i : Nat) => [some [.agg [odsV p.orders, dnsV p.fills, .sl none 1 (p.ids.map str), i64 p.clock, i64 p.bad]], some [.agg [odsV q.orders, dnsV q.fills, .sl none 1 (q.ids.map str), i64 q.clock, i64 q.bad]]]) (fun (i : Nat) => []) (fun (i : Nat) => i ≤ p.ids.length ∧ p.ids.length = q.ids.length ∧ p.ids.take i = q.ids.take i) (fun (i : Nat) => p.ids.length - i) (0) ?_ ?_ ?_
  · (try simp only [go_sem]); (repeat' (first | refine And.intro ?_ ?_ | exact .inr (oblA rfl) | fail)); done
  · exact ⟨by omega, by omega, by simp⟩
  rintro i ⟨g1, g2, g3⟩
  simp only [go_sem])
 | (
  refine ⟨i + 1, ?_, ?_, ?_⟩
  · (try simp only [go_sem]); (try rw [wrap64_id (by omega) (by omega)]); (repeat' (first | refine And.intro ?_ ?_ | exact .inr rfl | exact .inr (oblA rfl) | fail)); done
  · exact ⟨by omega, by omega, eq_next (a := p.fills) (b := q.fills) (by assumption) (by assumption) (by exact dn_eq (by assumption)) h3⟩
  · (try simp only []); omega)
 | (
  refine ⟨i + 1, ?_, ?_, ?_⟩
  · (try simp only [go_sem]); (try rw [wrap64_id (by omega) (by omega)]); (repeat' (first | refine And.intro ?_ ?_ | exact .inr rfl | exact .inr (oblA rfl) | fail)); done
  · exact ⟨by omega, by omega, eq_next (a := p.ids) (b := q.ids) (by assumption) (by assumption) (by assumption) g3⟩
  · (try simp only []); omega)
 | (
  refine AWP.ret ?_
  refine AEnd.is ?_; simp only [go_sem, out_v, out_s, out_n, v_int, v_bool, v_str] <;> (first
  | (rw [same_b]; simp [*]; done)
  | (rw [same_b, eq_no1 (a := p.fills) (by omega)]; simp; done)
  | (rw [same_b, eq_no1 (a := p.ids) (by omega)]; simp; done)
  | (rw [same_b, eq_no2 (a := p.fills) (b := q.fills) (by assumption) (by assumption) (by exact dn_ne (by assumption))]; simp; done)
  | (rw [same_b, eq_no2 (a := p.ids) (b := q.ids) (by assumption) (by assumption) (by assumption)]; simp; done)
  | (rw [same_b, eq_yes h2 (by omega) h3, eq_yes g2 (by omega) g3]; simp [*]; done)
  | fail))
 | refine AWP.fin (by assumption) ?_)
end Go.Proofs.YtajeeghgiilhiaaGreat
end
section
namespace Go.Proofs.YtajeeghgiilhiaaGreat
open Go Go.Abs Go.RowKit Go.Bk
theorem vs1 {f : Dn} (h : f.buy = false) : (valF f).1 = -(mulF f.qty f.price).1 := by unfold valF; rw [sgn_sell h, mulF_neg]
structure GR (bk : Bk) (acc sym : Bs) (i : Nat) (qs vs : List Int) (ov : Bool) : Prop where
 le : i ≤ bk.fills.length
 q : qs = (upM bk acc sym i).map sgn
 v : vs = (upM bk acc sym i).map fun f => (valF f).1
 o : ov = (upM bk acc sym i).any fun f => !(valF f).2
section
variable {bk : Bk} {acc sym : Bs} {i : Nat} {qs vs : List Int} {ov : Bool} {f : Dn}
theorem GR.zero : GR bk acc sym 0 [] [] false := ⟨by omega, rfl, rfl, rfl⟩
theorem GR.no (h : GR bk acc sym i qs vs ov) (hb : bk.fills[i]? = some f) (hm : ¬ (f.live = true ∧ f.acc = acc ∧ f.sym = sym)) : GR bk acc sym (i + 1) qs vs ov := by
 have e := upM_no hb hm
 have := (List.getElem?_eq_some_iff.1 hb).1
 exact ⟨by omega, by rw [e]; exact h.q, by rw [e]; exact h.v, by rw [e]; exact h.o⟩
theorem GR.yes (h : GR bk acc sym i qs vs ov) (hb : bk.fills[i]? = some f) (hm : f.live = true ∧ f.acc = acc ∧ f.sym = sym) {q v : Int} {o : Bool} (hq : sgn f = q) (hv : (valF f).1 = v) (ho : o = (ov || !(valF f).2)) : GR bk acc sym (i + 1) (qs ++ [q]) (vs ++ [v]) o := by
 have e := upM_yes hb hm
 have := (List.getElem?_eq_some_iff.1 hb).1
 refine ⟨by omega, ?_, ?_, ?_⟩
 · rw [e, List.map_append, ← h.q, ← hq]; rfl
 · rw [e, List.map_append, ← h.v, ← hv]; rfl
 · rw [e, List.any_append, ← h.o, ho]; simp
end
end Go.Proofs.YtajeeghgiilhiaaGreat
end
section
namespace Go.Proofs.YtajeeghgiilhiaaGreat
open Go Go.Abs Go.RowKit Go.Bk
end Go.Proofs.YtajeeghgiilhiaaGreat
end
section
namespace Go.Proofs.YtajeeghgiilhiaaGreat
open Go Go.Abs Go.RowKit Go.Bk
structure GP (n : Nm) (F : List Po) (qs vs : List Int) (ov : Bool) : Prop where
 q : qs = (sameF n F).map (·.qty)
 v : vs = (sameF n F).map (·.value)
 o : ov = (sameF n F).any (·.over)
section
variable {n : Nm} {F l : List Po} {k : Nat} {x : Po} {qs vs : List Int} {ov : Bool} {ls : List (List Po)} {i : Nat}
theorem GP.zero : GP n [] [] [] false := ⟨rfl, rfl, rfl⟩
theorem GP.no {a s : Bs} (h : GP (a, s) (F ++ l.take k) qs vs ov) (hy : l[k]? = some x) (hn : ¬ (x.acc = a ∧ x.sym = s)) : GP (a, s) (F ++ l.take (k + 1)) qs vs ov := by
 have e : sameF (a, s) (F ++ l.take (k + 1)) = sameF (a, s) (F ++ l.take k) := by
   rw [take_next hy, ← List.append_assoc]
   unfold sameF
   rw [List.filter_append, List.filter_cons_of_neg (by simpa [nmP] using hn)]; simp
 exact ⟨by rw [e]; exact h.q, by rw [e]; exact h.v, by rw [e]; exact h.o⟩
theorem GP.yes {a s : Bs} (h : GP (a, s) (F ++ l.take k) qs vs ov) (hy : l[k]? = some x) (h1 : x.acc = a) (h2 : x.sym = s) {o : Bool} (ho : o = (ov || x.over)) : GP (a, s) (F ++ l.take (k + 1)) (qs ++ [x.qty]) (vs ++ [x.value]) o := by
 have e : sameF (a, s) (F ++ l.take (k + 1)) = sameF (a, s) (F ++ l.take k) ++ [x] := by
   rw [take_next hy, ← List.append_assoc]
   unfold sameF
   rw [List.filter_append, List.filter_cons_of_pos (by simp [nmP, h1, h2])]; simp
 refine ⟨by rw [e, List.map_append, ← h.q]; rfl, by rw [e, List.map_append, ← h.v]; rfl, by rw [e, List.any_append, ← h.o, ho]; simp⟩
end
end Go.Proofs.YtajeeghgiilhiaaGreat
end
section
namespace Go.Proofs.YtajeeghgiilhiaaGreat
open Go Go.Abs Go.RowKit Go.Bk
section
variable {bk : Bk} {acc sym : Bs} {y : Bool} {i : Nat} {f : Dn} {o : Od} {j : Nat}
end
end Go.Proofs.YtajeeghgiilhiaaGreat
end
