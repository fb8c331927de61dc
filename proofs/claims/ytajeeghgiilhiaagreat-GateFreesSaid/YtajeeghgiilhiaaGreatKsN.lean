/- Texts of one chain, put together (G16, G17, G18, FrB, G20, G21, RwBase, RwNum, RwFrees). -/
import Derived.Test.YtajeeghgiilhiaaGreatKsM
import Derived.Test.YtajeeghgiilhiaaGreatKsL
import Derived.Test.YtajeeghgiilhiaaGreatRows
import Derived.Test.YtajeeghgiilhiaaGreatKsJ
import Derived.Test.YtajeeghgiilhiaaGreatKsD
import Derived.ProofKit
import Derived.LaidMore
import Derived.OpenShut
import Derived.Stop.Joined
import Derived.HandedShaped
import Derived.Lib.SmallJoins
section
set_option linter.unusedVariables false
set_option linter.unusedSimpArgs false
namespace Go.Proofs.YtajeeghgiilhiaaGreat
open Go Go.Abs Go.RowKit Go.Bk

set_option maxHeartbeats 16000000 in
set_option maxRecDepth 8000 in
theorem gtold_c3 (g : Gt) (k : Nat) (w : Vn) (x : Ex) (hg : GtSm g) (hx0 : g.venues[k]? = some w) (ha : isAtB g (k : Int) = true) (nb : Bk) (p : Nat) (hcf : comeF w.book x = (nb, 3)) (hsn : (x.kind = 1 ∨ x.kind = 4) → sentF w.sent x = some p) : ACalls E 30 [gtV g, i64 (k : Int), exV x] (fun r t => r = .tup [gtV (toldG g (k : Int) x).1, i64 (toldG g (k : Int) x).2.1, i64 (toldG g (k : Int) x).2.2] ∧ t = []) := by -- #toldc
  have hgi := hg.fit
  have hg1 := hg.1
  have hg2 := hg.2.1
  have hkn := get_lt hx0
  have hw0 := hg.2.2 w (List.mem_of_getElem? hx0)
  have hil := hw0.2.2.1
  have hix := idx_spo hsn
  refine ACalls.of_awp (n := 104) (rs := [.cell 6 58, .tmp 7, .tmp 8]) Tryz.func30 rfl Tryz.ntmps30 rfl ?_
  repeat' (first
    | (
        refine AWP.cutTo hc1 ?_
        first
        | (refine AWP.renum [0, 1, 2, 3, 4, 6] (by decide) rfl rfl ?_; simp only [go_sem, vn_ren, List.length_map]; refine AWP.weaken ?_ (hc1 m); (try simp only [go_sem]); (repeat' (first | refine And.intro ?_ ?_ | exact .inl rfl | exact .inr rfl | exact .inr ⟨rfl, rfl⟩ | trivial | exact .inr (oblA rfl) | exact .inr ⟨rfl, oblA rfl⟩ | exact .inr bel_strs | exact .inr bel_vns | exact .inr ⟨rfl, bel_vns⟩ | exact .inr ⟨by simp, bel_vns⟩ | exact .inr ⟨rfl, bel_strs⟩ | exact .inr ⟨by simp, bel_strs⟩ | (simp; done) | exact .inr ⟨rfl, by simp⟩ | exact .inr ⟨by simp, by simp⟩)); done)
        | (have he : g.venues = [] := Classical.byContradiction fun hne => by
             have := hbb (by simpa using hne)
             simp_all
           refine AWP.nilOwn 3 0 8 _ rfl rfl ?_
           simp only [go_sem]
           refine AWP.weaken ?_ (hc1 0); (try simp only [go_sem, he, List.length_nil, List.map_nil, spare_zero]); (repeat' (first | refine And.intro ?_ ?_ | exact .inl rfl | exact .inr rfl | exact .inr ⟨rfl, rfl⟩ | trivial | exact .inr (oblA rfl) | exact .inr ⟨rfl, oblA rfl⟩ | exact .inr bel_strs | exact .inr bel_vns | exact .inr ⟨rfl, bel_vns⟩ | exact .inr ⟨by simp, bel_vns⟩ | exact .inr ⟨rfl, bel_strs⟩ | exact .inr ⟨by simp, bel_strs⟩ | (simp; done) | exact .inr ⟨rfl, by simp⟩ | exact .inr ⟨by simp, by simp⟩)); done))
    | refine AWP.seqk fun K hK => ?_
    | (
        refine AWP.here 1 5 5 rfl ?_
        first
        | (have h0 := hc1; clear h0; refine AWP.regionL ?_; refine AWPL.at 5 2 rfl ?_; simp only [go_sem])
        | ((fail_if_success (have h0 := hc1)); refine AWP.cutAt (ι := Nat) [5, 6, 7, 8] (fun (m : Nat) => []) (fun (m : Nat) => [some [.agg [vnsV g.venues, lmsV g.limits, bl g.kill, i64 g.now, i64 g.pat]], some [exV x], some [.agg [.nilS, .nilS, bl false, i64 0, i64 0]], some [.agg [.mu 5 8 0 g.venues.length (g.venues.length + m), lmsV g.limits, bl g.kill, i64 g.now, i64 g.pat]], some [.agg [.nilS, .nilS, bl false, i64 0, i64 0]], some (g.venues.map vnV ++ spare 8 m)]) (fun (m : Nat) => []) hK (fun m => ?_) (fun hc1 => ?_)))
    | (refine Cut.mk ?_; simp only [go_sem])
    | (
        refine AWP.here 4 21 5 rfl ?_
        have hxk : (g.venues.map vnV ++ spare 8 m)[k]? = some (vnV w) := by rw [List.getElem?_append_left (by simpa using get_lt hx0), List.getElem?_map, hx0]; rfl
        have hxk2 : ∀ z, ((g.venues.map vnV ++ spare 8 m).set k z)[k]? = some z := fun z => List.getElem?_set_self (by simp; omega)
        refine AWP.region ?_; simp only [go_sem, ha])
    | (
        refine AWP.here 5 26 12 rfl ?_
        refine AWP.regionO [0, 1, 2, 3, 4, 9, 5, 6, 7, 8, 10, 11] [11] (by kernel_rfl) (by kernel_rfl) rfl ?_; simp only [go_sem, ha, hxk])
    | (
        refine AWP.here 15 52 7 rfl ?_
        refine AWP.regionO [0, 1, 2, 3, 4, 5, 6] [] (by kernel_rfl) (by kernel_rfl) rfl ?_; simp only [go_sem, ha, hxk])
    | (
        refine AWP.here 20 78 5 rfl ?_
        refine AWP.region ?_; simp only [go_sem, ha, hxk])
    | (
        refine AWP.here 25 102 5 rfl ?_
        rw [show (g.venues.map vnV ++ spare 8 m).set k (.agg [odsV nb.orders, dnsV nb.fills, .sl none 1 (nb.ids.map str), i64 nb.clock, i64 nb.bad, odsV w.sent, i64 w.last, bl w.gap]) = (g.venues.set k ⟨nb, w.sent, w.last, w.gap⟩).map vnV ++ spare 8 m from row_put (v := ⟨nb, w.sent, w.last, w.gap⟩) hkn]
        refine AWP.publishLeaf 6 0 (jd := 5) (k := 8) (n := g.venues.length) (cap := g.venues.length + m) _ ((g.venues.set k ⟨nb, w.sent, w.last, w.gap⟩).map vnV ++ spare 8 m) (by decide) rfl rfl rfl (by simp [spare_len]) (by rw [vn_takeS]; exact cl_vn _) ?_
        rw [vn_takeS]
        simp only [go_sem, ha]
        refine AWP.region ?_; simp only [go_sem, ha])
    | (
        refine AWP.here 5 15 5 rfl ?_
        obtain ⟨v, hx⟩ : ∃ v, g.venues[i]? = some v := ⟨_, List.getElem?_eq_getElem (by omega)⟩
        have hv := hg.2.2 v (List.mem_of_getElem? hx)
        have hx2 : (g.venues.map vnV ++ spare 8 m)[i]? = some (vnV v) := by rw [List.getElem?_append_left (by simpa using get_lt hx), List.getElem?_map, hx]; rfl
        refine AWP.region ?_; simp only [go_sem])
    | (
        refine AWP.here 7 29 11 rfl ?_
        (try rw [row_same hx])
        refine AWP.region ?_; simp only [go_sem])
    | (
        refine AWP.here 8 39 11 rfl ?_
        (try rw [row_same hx])
        refine AWP.region ?_; simp only [go_sem])
    | (
        refine AWP.here 9 49 9 rfl ?_
        (try rw [row_same hx])
        refine AWP.region ?_; simp only [go_sem])
    | (
        refine AWP.here 10 57 2 rfl ?_
        (try rw [row_same hx])
        refine AWP.region ?_; simp only [go_sem])
    | (
        refine AWP.here 3 5 4 rfl ?_
        refine AWP.regionL ?_
        refine AWPL.mkMu ap55 ?_
        simp only [go_sem]
        refine AWPL.at 3 1 rfl ?_
        simp only [go_sem]
        refine AWPL.appMu sr55 ap55 rfl rfl rfl (by simp; omega) (by simp; omega) ?_
        intro m
        simp only [go_sem]
        refine AWPL.of ?_
        simp only [go_sem])
    | (refine AWP.here 1 14 4 rfl ?_; refine AWP.regionL ?_; refine AWPL.at 4 1 rfl ?_; simp only [go_sem, ha])
    | (refine AWP.here 1 5 5 rfl ?_; refine AWP.regionL ?_; refine AWPL.at 5 2 rfl ?_; simp only [go_sem])
    | (refine AWP.region ?_; simp only [go_sem, ha])
    | (refine AWP.here 5 26 12 rfl ?_; refine AWP.regionO [0, 1, 2, 3, 4, 9, 5, 6, 7, 8, 10, 11] [11] (by kernel_rfl) (by kernel_rfl) rfl ?_; simp only [go_sem, ha])
    | (refine AWP.here 15 52 7 rfl ?_; refine AWP.regionO [0, 1, 2, 3, 4, 5, 6] [] (by kernel_rfl) (by kernel_rfl) rfl ?_; simp only [go_sem, ha])
    | (refine AWP.here 17 60 14 rfl ?_; refine AWP.regionAnyT (.take 0 (.take 1 (.take 2 (.take 3 (.take 4 (.take 5 (.take 6 (.take 7 (.take 8 (.take 9 (.take 10 (.take 11 (.take 12 (.take 13 .done)))))))))))))) [[], [], [1], [1, 2], [1, 2, 3], [1, 2, 3, 4], [], [6], [6, 7], [1, 2, 3, 4, 5, 6, 7, 8], [0, 1, 2, 3, 4, 5, 6, 7, 8, 9], [0, 1, 2, 3, 4, 5, 6, 7, 8, 9, 10], [0, 1, 2, 3, 4, 5, 6, 7, 8, 9, 10, 11], [0, 1, 2, 3, 4, 5, 6, 7, 8, 9, 10, 11, 12]] [] (by kernel_rfl) (by kernel_rfl) ?_; simp only [go_sem, ha])
    | (refine hK _ ?_; clear hK K)
    | refine AWP.block ?_
    | refine AWP.cond rfl (fun c => ?_) (fun c => ?_) <;> first | exact Bool.noConfusion c | (try simp only [dD] at c)
    | refine AWP.skip ?_
    | (refine AWP.exit ?_; simp only [go_sem, ha])
    | (refine ACall.one (gisat_c g (k : Int) hgi) (by kernel_rfl) rfl ?_; simp only [go_sem, ha])
    | (refine ACall.one (come_c w.book x hw0.1 hw0.2.1 hw0.2.2.1) (by kernel_rfl) rfl ?_; simp only [hcf]; simp only [go_sem, ha])
    | (have hop : x.kind = 1 ∨ x.kind = 4 := (by omega); refine ACall.one (gsent_c w.sent x (by have := hw0.2.2.2; omega)) (by kernel_rfl) rfl ?_; simp only [hix hop]; simp only [go_sem, ha])
    | (refine ACall.one (del_call ) (by kernel_rfl) rfl ?_; simp only [go_sem, ha])
    | (refine ACall.one (oclone_p v.book.orders hv.1) (by kernel_rfl) rfl ?_; simp only [go_sem])
    | (refine ACall.one (oclone_p v.sent hv.2.2.2) (by kernel_rfl) rfl ?_; simp only [go_sem])
    | (refine ACall.one (dclone_p v.book.fills hv.2.1) (by kernel_rfl) rfl ?_; simp only [go_sem])
    | (refine ACall.one (sclone_p v.book.ids hv.2.2.1) (by kernel_rfl) rfl ?_; simp only [go_sem])
    | (refine ACall.one (limclone_p g.limits hg2) (by kernel_rfl) rfl ?_; simp only [go_sem])
    | (refine AWPL.call (rs := [.cell 2 58]) Tryz.func76 rfl Tryz.ntmps76 rfl (by kernel_rfl) rfl rfl ?_; simp only [go_sem])
    | (refine AWPL.call (rs := [.tmp 2]) Tryz.func144 rfl Tryz.ntmps144 rfl (by kernel_rfl) rfl rfl ?_; simp only [go_sem])
    | (refine AGuard.splitN (fun h => ?_) (fun h => ?_) <;> simp only [h, go_sem, ha] <;> (try simp only [dD] at h))
    | (refine AGuard.split (fun h => ?_) (fun h => ?_) <;> simp only [h, go_sem, ha] <;> (try simp only [dD] at h))
    | (refine AGet.haveM (by assumption) ?_; (try simp only [go_sem, ha]))
    | (refine AGet.have' (by assumption) ?_; (try simp only [go_sem, ha]))
    | ((first | refine AGet.nth ?_ (fun b hb => ?_) | refine AGet.nth1 ?_ (fun b hb => ?_) | with_reducible refine And.intro ?_ ?_); (focus (first | omega | assumption | exact List.length_pos_iff.2 (by assumption) | (simp only [List.length_append, List.length_cons, List.length_nil, List.length_map, List.length_take, List.length_drop] at *; omega) | (rw [wrap64_id (by omega) (by omega)]; omega) | (simp; done) | (simp [spare_len]; done) | (exact ⟨by omega, by omega⟩))); (try simp only [hb, go_sem, ha]))
    | exact rfl
    | refine And.intro (a := ACall _ _ _ _ _ _ _ _) ?_ ?_
    | refine And.intro (a := AGet _ _) ?_ ?_
    | refine And.intro (a := AGuard _ _ _ _ _ _ _) ?_ ?_
    | (
        refine AWP.here 3 13 1 rfl ?_
        refine AWP.loopN (ι := Nat) [3, 4, 13, 14, 15, 16, 17, 18, 19, 20, 21, 22, 23, 24, 25, 26, 27, 28, 29, 30, 31, 32, 33, 34, 35, 36, 37, 38, 39, 40, 41, 42, 43, 44, 45, 46, 47, 48, 49, 50, 51, 52, 53, 54, 55, 56, 57] (fun (i : Nat) => [(12, i64 i)]) (fun (i : Nat) => i ≤ g.venues.length) (fun (i : Nat) => g.venues.length - i) (0) ?_ ?_ ?_
        · (try simp only [go_sem]); (repeat' (first | refine And.intro ?_ ?_ | exact .inl rfl | exact .inr rfl | exact .inr ⟨rfl, rfl⟩ | trivial | exact .inr (oblA rfl) | exact .inr ⟨rfl, oblA rfl⟩ | exact .inr bel_strs | exact .inr bel_vns | exact .inr ⟨rfl, bel_vns⟩ | exact .inr ⟨by simp, bel_vns⟩ | exact .inr ⟨rfl, bel_strs⟩ | exact .inr ⟨by simp, bel_strs⟩ | (simp; done) | exact .inr ⟨rfl, by simp⟩ | exact .inr ⟨by simp, by simp⟩)); done
        · omega
        rintro i h1
        simp only [go_sem])
    | (
        refine ⟨i + 1, ?_, ?_, ?_⟩
        · (try simp only [go_sem]); (try rw [wrap64_id (by omega) (by omega)]); (repeat' (first | refine And.intro ?_ ?_ | exact .inl rfl | exact .inr rfl | exact .inr ⟨rfl, rfl⟩ | trivial | exact .inr (oblA rfl) | exact .inr ⟨rfl, oblA rfl⟩ | exact .inr bel_strs | exact .inr bel_vns | exact .inr ⟨rfl, bel_vns⟩ | exact .inr ⟨by simp, bel_vns⟩ | exact .inr ⟨rfl, bel_strs⟩ | exact .inr ⟨by simp, bel_strs⟩ | (simp; done) | exact .inr ⟨rfl, by simp⟩ | exact .inr ⟨by simp, by simp⟩)); done
        · omega
        · (try simp only []); omega)
    | (
        refine AWP.ret ?_
        refine AEnd.is ?_; simp only [go_sem, out_v, out_s, out_n, v_int, v_bool, v_str] <;> (first | (rw [told_c3 ha hx0 hcf hsn]; simp [withG]; done) | skip))
    | (refine AWP.ret ?_; refine AInPost.ret rfl ?_; simp only [go_sem, ha])
    | (refine AWP.ret ?_; simp only [inb_ret, athen_ret]; refine AInPost.ret rfl ?_; simp only [go_sem, ha])
    | (refine AWP.ret ?_; (try simp only [inb_ret, athen_ret]); refine AInPost.ret rfl ?_; (try simp only [go_sem, ha]))
    | (refine AWPL.of ?_; simp only [go_sem, ha])
    | ((fail_if_success (have := hbb)); (with_reducible intro bb hbb))
    | (exfalso; omega)
    | refine AWP.fin (by assumption) ?_
    | fail)

set_option maxHeartbeats 16000000 in
set_option maxRecDepth 8000 in
theorem gtold_c1 (g : Gt) (k : Nat) (w : Vn) (x : Ex) (hg : GtSm g) (hx0 : g.venues[k]? = some w) (ha : isAtB g (k : Int) = true) (nb : Bk) (hcf : comeF w.book x = (nb, 1)) (hnop : ¬ (x.kind = 1 ∨ x.kind = 4)) : ACalls E 30 [gtV g, i64 (k : Int), exV x] (fun r t => r = .tup [gtV (toldG g (k : Int) x).1, i64 (toldG g (k : Int) x).2.1, i64 (toldG g (k : Int) x).2.2] ∧ t = []) := by -- #toldd
  have hgi := hg.fit
  have hg1 := hg.1
  have hg2 := hg.2.1
  have hkn := get_lt hx0
  have hw0 := hg.2.2 w (List.mem_of_getElem? hx0)
  have hil := hw0.2.2.1
  refine ACalls.of_awp (n := 104) (rs := [.cell 6 58, .tmp 7, .tmp 8]) Tryz.func30 rfl Tryz.ntmps30 rfl ?_
  repeat' (first
    | (
        refine AWP.cutTo hc1 ?_
        first
        | (refine AWP.renum [0, 1, 2, 3, 4, 6] (by decide) rfl rfl ?_; simp only [go_sem, vn_ren, List.length_map]; refine AWP.weaken ?_ (hc1 m); (try simp only [go_sem]); (repeat' (first | refine And.intro ?_ ?_ | exact .inl rfl | exact .inr rfl | exact .inr ⟨rfl, rfl⟩ | trivial | exact .inr (oblA rfl) | exact .inr ⟨rfl, oblA rfl⟩ | exact .inr bel_strs | exact .inr bel_vns | exact .inr ⟨rfl, bel_vns⟩ | exact .inr ⟨by simp, bel_vns⟩ | exact .inr ⟨rfl, bel_strs⟩ | exact .inr ⟨by simp, bel_strs⟩ | (simp; done) | exact .inr ⟨rfl, by simp⟩ | exact .inr ⟨by simp, by simp⟩)); done)
        | (have he : g.venues = [] := Classical.byContradiction fun hne => by
             have := hbb (by simpa using hne)
             simp_all
           refine AWP.nilOwn 3 0 8 _ rfl rfl ?_
           simp only [go_sem]
           refine AWP.weaken ?_ (hc1 0); (try simp only [go_sem, he, List.length_nil, List.map_nil, spare_zero]); (repeat' (first | refine And.intro ?_ ?_ | exact .inl rfl | exact .inr rfl | exact .inr ⟨rfl, rfl⟩ | trivial | exact .inr (oblA rfl) | exact .inr ⟨rfl, oblA rfl⟩ | exact .inr bel_strs | exact .inr bel_vns | exact .inr ⟨rfl, bel_vns⟩ | exact .inr ⟨by simp, bel_vns⟩ | exact .inr ⟨rfl, bel_strs⟩ | exact .inr ⟨by simp, bel_strs⟩ | (simp; done) | exact .inr ⟨rfl, by simp⟩ | exact .inr ⟨by simp, by simp⟩)); done))
    | refine AWP.seqk fun K hK => ?_
    | (
        refine AWP.here 1 5 5 rfl ?_
        first
        | (have h0 := hc1; clear h0; refine AWP.regionL ?_; refine AWPL.at 5 2 rfl ?_; simp only [go_sem])
        | ((fail_if_success (have h0 := hc1)); refine AWP.cutAt (ι := Nat) [5, 6, 7, 8] (fun (m : Nat) => []) (fun (m : Nat) => [some [.agg [vnsV g.venues, lmsV g.limits, bl g.kill, i64 g.now, i64 g.pat]], some [exV x], some [.agg [.nilS, .nilS, bl false, i64 0, i64 0]], some [.agg [.mu 5 8 0 g.venues.length (g.venues.length + m), lmsV g.limits, bl g.kill, i64 g.now, i64 g.pat]], some [.agg [.nilS, .nilS, bl false, i64 0, i64 0]], some (g.venues.map vnV ++ spare 8 m)]) (fun (m : Nat) => []) hK (fun m => ?_) (fun hc1 => ?_)))
    | (refine Cut.mk ?_; simp only [go_sem])
    | (
        refine AWP.here 4 21 5 rfl ?_
        have hxk : (g.venues.map vnV ++ spare 8 m)[k]? = some (vnV w) := by rw [List.getElem?_append_left (by simpa using get_lt hx0), List.getElem?_map, hx0]; rfl
        have hxk2 : ∀ z, ((g.venues.map vnV ++ spare 8 m).set k z)[k]? = some z := fun z => List.getElem?_set_self (by simp; omega)
        refine AWP.region ?_; simp only [go_sem, ha])
    | (
        refine AWP.here 5 26 12 rfl ?_
        refine AWP.regionO [0, 1, 2, 3, 4, 9, 5, 6, 7, 8, 10, 11] [11] (by kernel_rfl) (by kernel_rfl) rfl ?_; simp only [go_sem, ha, hxk])
    | (
        refine AWP.here 20 78 5 rfl ?_
        refine AWP.region ?_; simp only [go_sem, ha, hxk])
    | (
        refine AWP.here 22 84 6 rfl ?_
        refine AWP.region ?_; simp only [go_sem, ha, hxk2])
    | (
        refine AWP.here 25 102 5 rfl ?_
        (try rw [List.set_set])
        rw [show (g.venues.map vnV ++ spare 8 m).set k (.agg [odsV nb.orders, dnsV nb.fills, .sl none 1 (nb.ids.map str), i64 nb.clock, i64 nb.bad, odsV w.sent, i64 g.now, bl w.gap]) = (g.venues.set k ⟨nb, w.sent, g.now, w.gap⟩).map vnV ++ spare 8 m from row_put (v := ⟨nb, w.sent, g.now, w.gap⟩) hkn]
        refine AWP.publishLeaf 6 0 (jd := 5) (k := 8) (n := g.venues.length) (cap := g.venues.length + m) _ ((g.venues.set k ⟨nb, w.sent, g.now, w.gap⟩).map vnV ++ spare 8 m) (by decide) rfl rfl rfl (by simp [spare_len]) (by rw [vn_takeS]; exact cl_vn _) ?_
        rw [vn_takeS]
        simp only [go_sem, ha]
        refine AWP.region ?_; simp only [go_sem, ha])
    | (
        refine AWP.here 5 15 5 rfl ?_
        obtain ⟨v, hx⟩ : ∃ v, g.venues[i]? = some v := ⟨_, List.getElem?_eq_getElem (by omega)⟩
        have hv := hg.2.2 v (List.mem_of_getElem? hx)
        have hx2 : (g.venues.map vnV ++ spare 8 m)[i]? = some (vnV v) := by rw [List.getElem?_append_left (by simpa using get_lt hx), List.getElem?_map, hx]; rfl
        refine AWP.region ?_; simp only [go_sem])
    | (
        refine AWP.here 7 29 11 rfl ?_
        (try rw [row_same hx])
        refine AWP.region ?_; simp only [go_sem])
    | (
        refine AWP.here 8 39 11 rfl ?_
        (try rw [row_same hx])
        refine AWP.region ?_; simp only [go_sem])
    | (
        refine AWP.here 9 49 9 rfl ?_
        (try rw [row_same hx])
        refine AWP.region ?_; simp only [go_sem])
    | (
        refine AWP.here 10 57 2 rfl ?_
        (try rw [row_same hx])
        refine AWP.region ?_; simp only [go_sem])
    | (
        refine AWP.here 3 5 4 rfl ?_
        refine AWP.regionL ?_
        refine AWPL.mkMu ap55 ?_
        simp only [go_sem]
        refine AWPL.at 3 1 rfl ?_
        simp only [go_sem]
        refine AWPL.appMu sr55 ap55 rfl rfl rfl (by simp; omega) (by simp; omega) ?_
        intro m
        simp only [go_sem]
        refine AWPL.of ?_
        simp only [go_sem])
    | (refine AWP.here 1 14 4 rfl ?_; refine AWP.regionL ?_; refine AWPL.at 4 1 rfl ?_; simp only [go_sem, ha])
    | (refine AWP.here 1 5 5 rfl ?_; refine AWP.regionL ?_; refine AWPL.at 5 2 rfl ?_; simp only [go_sem])
    | (refine AWP.region ?_; simp only [go_sem, ha])
    | (refine AWP.here 5 26 12 rfl ?_; refine AWP.regionO [0, 1, 2, 3, 4, 9, 5, 6, 7, 8, 10, 11] [11] (by kernel_rfl) (by kernel_rfl) rfl ?_; simp only [go_sem, ha])
    | (refine AWP.here 15 52 7 rfl ?_; refine AWP.regionO [0, 1, 2, 3, 4, 5, 6] [] (by kernel_rfl) (by kernel_rfl) rfl ?_; simp only [go_sem, ha])
    | (refine AWP.here 17 60 14 rfl ?_; refine AWP.regionAnyT (.take 0 (.take 1 (.take 2 (.take 3 (.take 4 (.take 5 (.take 6 (.take 7 (.take 8 (.take 9 (.take 10 (.take 11 (.take 12 (.take 13 .done)))))))))))))) [[], [], [1], [1, 2], [1, 2, 3], [1, 2, 3, 4], [], [6], [6, 7], [1, 2, 3, 4, 5, 6, 7, 8], [0, 1, 2, 3, 4, 5, 6, 7, 8, 9], [0, 1, 2, 3, 4, 5, 6, 7, 8, 9, 10], [0, 1, 2, 3, 4, 5, 6, 7, 8, 9, 10, 11], [0, 1, 2, 3, 4, 5, 6, 7, 8, 9, 10, 11, 12]] [] (by kernel_rfl) (by kernel_rfl) ?_; simp only [go_sem, ha])
    | (refine hK _ ?_; clear hK K)
    | refine AWP.block ?_
    | refine AWP.cond rfl (fun c => ?_) (fun c => ?_) <;> first | exact Bool.noConfusion c | (try simp only [dD] at c)
    | refine AWP.skip ?_
    | (refine AWP.exit ?_; simp only [go_sem, ha])
    | (refine ACall.one (gisat_c g (k : Int) hgi) (by kernel_rfl) rfl ?_; simp only [go_sem, ha])
    | (refine ACall.one (come_c w.book x hw0.1 hw0.2.1 hw0.2.2.1) (by kernel_rfl) rfl ?_; simp only [hcf]; simp only [go_sem, ha])
    | (refine ACall.one (gsent_c _ _ (by first | assumption | omega | (simp only [List.length_take]; omega))) (by kernel_rfl) rfl ?_; simp only [go_sem, ha])
    | (refine ACall.one (del_call ) (by kernel_rfl) rfl ?_; simp only [go_sem, ha])
    | (refine ACall.one (oclone_p v.book.orders hv.1) (by kernel_rfl) rfl ?_; simp only [go_sem])
    | (refine ACall.one (oclone_p v.sent hv.2.2.2) (by kernel_rfl) rfl ?_; simp only [go_sem])
    | (refine ACall.one (dclone_p v.book.fills hv.2.1) (by kernel_rfl) rfl ?_; simp only [go_sem])
    | (refine ACall.one (sclone_p v.book.ids hv.2.2.1) (by kernel_rfl) rfl ?_; simp only [go_sem])
    | (refine ACall.one (limclone_p g.limits hg2) (by kernel_rfl) rfl ?_; simp only [go_sem])
    | (refine AWPL.call (rs := [.cell 2 58]) Tryz.func76 rfl Tryz.ntmps76 rfl (by kernel_rfl) rfl rfl ?_; simp only [go_sem])
    | (refine AWPL.call (rs := [.tmp 2]) Tryz.func144 rfl Tryz.ntmps144 rfl (by kernel_rfl) rfl rfl ?_; simp only [go_sem])
    | (refine AGuard.splitN (fun h => ?_) (fun h => ?_) <;> simp only [h, go_sem, ha] <;> (try simp only [dD] at h))
    | (refine AGuard.split (fun h => ?_) (fun h => ?_) <;> simp only [h, go_sem, ha] <;> (try simp only [dD] at h))
    | (refine AGet.haveM (by assumption) ?_; (try simp only [go_sem, ha]))
    | (refine AGet.have' (by assumption) ?_; (try simp only [go_sem, ha]))
    | ((first | refine AGet.nth ?_ (fun b hb => ?_) | refine AGet.nth1 ?_ (fun b hb => ?_) | with_reducible refine And.intro ?_ ?_); (focus (first | omega | assumption | exact List.length_pos_iff.2 (by assumption) | (simp only [List.length_append, List.length_cons, List.length_nil, List.length_map, List.length_take, List.length_drop] at *; omega) | (rw [wrap64_id (by omega) (by omega)]; omega) | (simp; done) | (simp [spare_len]; done) | (exact ⟨by omega, by omega⟩))); (try simp only [hb, go_sem, ha]))
    | exact rfl
    | refine And.intro (a := ACall _ _ _ _ _ _ _ _) ?_ ?_
    | refine And.intro (a := AGet _ _) ?_ ?_
    | refine And.intro (a := AGuard _ _ _ _ _ _ _) ?_ ?_
    | (
        refine AWP.here 3 13 1 rfl ?_
        refine AWP.loopN (ι := Nat) [3, 4, 13, 14, 15, 16, 17, 18, 19, 20, 21, 22, 23, 24, 25, 26, 27, 28, 29, 30, 31, 32, 33, 34, 35, 36, 37, 38, 39, 40, 41, 42, 43, 44, 45, 46, 47, 48, 49, 50, 51, 52, 53, 54, 55, 56, 57] (fun (i : Nat) => [(12, i64 i)]) (fun (i : Nat) => i ≤ g.venues.length) (fun (i : Nat) => g.venues.length - i) (0) ?_ ?_ ?_
        · (try simp only [go_sem]); (repeat' (first | refine And.intro ?_ ?_ | exact .inl rfl | exact .inr rfl | exact .inr ⟨rfl, rfl⟩ | trivial | exact .inr (oblA rfl) | exact .inr ⟨rfl, oblA rfl⟩ | exact .inr bel_strs | exact .inr bel_vns | exact .inr ⟨rfl, bel_vns⟩ | exact .inr ⟨by simp, bel_vns⟩ | exact .inr ⟨rfl, bel_strs⟩ | exact .inr ⟨by simp, bel_strs⟩ | (simp; done) | exact .inr ⟨rfl, by simp⟩ | exact .inr ⟨by simp, by simp⟩)); done
        · omega
        rintro i h1
        simp only [go_sem])
    | (
        refine ⟨i + 1, ?_, ?_, ?_⟩
        · (try simp only [go_sem]); (try rw [wrap64_id (by omega) (by omega)]); (repeat' (first | refine And.intro ?_ ?_ | exact .inl rfl | exact .inr rfl | exact .inr ⟨rfl, rfl⟩ | trivial | exact .inr (oblA rfl) | exact .inr ⟨rfl, oblA rfl⟩ | exact .inr bel_strs | exact .inr bel_vns | exact .inr ⟨rfl, bel_vns⟩ | exact .inr ⟨by simp, bel_vns⟩ | exact .inr ⟨rfl, bel_strs⟩ | exact .inr ⟨by simp, bel_strs⟩ | (simp; done) | exact .inr ⟨rfl, by simp⟩ | exact .inr ⟨by simp, by simp⟩)); done
        · omega
        · (try simp only []); omega)
    | (
        refine AWP.ret ?_
        refine AEnd.is ?_; simp only [go_sem, out_v, out_s, out_n, v_int, v_bool, v_str] <;> (first | (rw [told_c1 ha hx0 hcf hnop]; simp [withG]; done) | skip))
    | (refine AWP.ret ?_; refine AInPost.ret rfl ?_; simp only [go_sem, ha])
    | (refine AWP.ret ?_; simp only [inb_ret, athen_ret]; refine AInPost.ret rfl ?_; simp only [go_sem, ha])
    | (refine AWP.ret ?_; (try simp only [inb_ret, athen_ret]); refine AInPost.ret rfl ?_; (try simp only [go_sem, ha]))
    | (refine AWPL.of ?_; simp only [go_sem, ha])
    | ((fail_if_success (have := hbb)); (with_reducible intro bb hbb))
    | (exfalso; omega)
    | refine AWP.fin (by assumption) ?_
    | fail)


end Go.Proofs.YtajeeghgiilhiaaGreat
end
section
set_option linter.unusedVariables false
set_option linter.unusedSimpArgs false
namespace Go.Proofs.YtajeeghgiilhiaaGreat
open Go Go.Abs Go.RowKit Go.Bk

set_option maxHeartbeats 16000000 in
set_option maxRecDepth 8000 in
theorem gtold_d (g : Gt) (k : Nat) (w : Vn) (x : Ex) (hg : GtSm g) (hx0 : g.venues[k]? = some w) (ha : isAtB g (k : Int) = true) (nb : Bk) (p : Nat) (hcf : comeF w.book x = (nb, 1)) (hop : x.kind = 1 ∨ x.kind = 4) (hsn : sentF w.sent x = some p) : ACalls E 30 [gtV g, i64 (k : Int), exV x] (fun r t => r = .tup [gtV (toldG g (k : Int) x).1, i64 (toldG g (k : Int) x).2.1, i64 (toldG g (k : Int) x).2.2] ∧ t = []) := by -- #tolde
  have hgi := hg.fit
  have hg1 := hg.1
  have hg2 := hg.2.1
  have hkn := get_lt hx0
  have hw0 := hg.2.2 w (List.mem_of_getElem? hx0)
  have hil := hw0.2.2.1
  have hix := idx_sp hsn
  have hpl := sn_lt hsn
  have hwp : IntKind.i64.wrap ((p : Int) + 1) = (p : Int) + 1 := wrap64_id (by omega) (by have := hw0.2.2.2; omega)
  refine ACalls.of_awp (n := 104) (rs := [.cell 6 58, .tmp 7, .tmp 8]) Tryz.func30 rfl Tryz.ntmps30 rfl ?_
  repeat' (first
    | (
        refine AWP.cutTo hc1 ?_
        first
        | (refine AWP.renum [0, 1, 2, 3, 4, 6] (by decide) rfl rfl ?_; simp only [go_sem, vn_ren, List.length_map]; refine AWP.weaken ?_ (hc1 m); (try simp only [go_sem]); (repeat' (first | refine And.intro ?_ ?_ | exact .inl rfl | exact .inr rfl | exact .inr ⟨rfl, rfl⟩ | trivial | exact .inr (oblA rfl) | exact .inr ⟨rfl, oblA rfl⟩ | exact .inr bel_strs | exact .inr bel_vns | exact .inr ⟨rfl, bel_vns⟩ | exact .inr ⟨by simp, bel_vns⟩ | exact .inr ⟨rfl, bel_strs⟩ | exact .inr ⟨by simp, bel_strs⟩ | (simp; done) | exact .inr ⟨rfl, by simp⟩ | exact .inr ⟨by simp, by simp⟩)); done)
        | (have he : g.venues = [] := Classical.byContradiction fun hne => by
             have := hbb (by simpa using hne)
             simp_all
           refine AWP.nilOwn 3 0 8 _ rfl rfl ?_
           simp only [go_sem]
           refine AWP.weaken ?_ (hc1 0); (try simp only [go_sem, he, List.length_nil, List.map_nil, spare_zero]); (repeat' (first | refine And.intro ?_ ?_ | exact .inl rfl | exact .inr rfl | exact .inr ⟨rfl, rfl⟩ | trivial | exact .inr (oblA rfl) | exact .inr ⟨rfl, oblA rfl⟩ | exact .inr bel_strs | exact .inr bel_vns | exact .inr ⟨rfl, bel_vns⟩ | exact .inr ⟨by simp, bel_vns⟩ | exact .inr ⟨rfl, bel_strs⟩ | exact .inr ⟨by simp, bel_strs⟩ | (simp; done) | exact .inr ⟨rfl, by simp⟩ | exact .inr ⟨by simp, by simp⟩)); done))
    | refine AWP.seqk fun K hK => ?_
    | (
        refine AWP.here 1 5 5 rfl ?_
        first
        | (have h0 := hc1; clear h0; refine AWP.regionL ?_; refine AWPL.at 5 2 rfl ?_; simp only [go_sem])
        | ((fail_if_success (have h0 := hc1)); refine AWP.cutAt (ι := Nat) [5, 6, 7, 8] (fun (m : Nat) => []) (fun (m : Nat) => [some [.agg [vnsV g.venues, lmsV g.limits, bl g.kill, i64 g.now, i64 g.pat]], some [exV x], some [.agg [.nilS, .nilS, bl false, i64 0, i64 0]], some [.agg [.mu 5 8 0 g.venues.length (g.venues.length + m), lmsV g.limits, bl g.kill, i64 g.now, i64 g.pat]], some [.agg [.nilS, .nilS, bl false, i64 0, i64 0]], some (g.venues.map vnV ++ spare 8 m)]) (fun (m : Nat) => []) hK (fun m => ?_) (fun hc1 => ?_)))
    | (refine Cut.mk ?_; simp only [go_sem])
    | (
        refine AWP.here 4 21 5 rfl ?_
        have hxk : ((g.venues.map vnV ++ spare 8 m).set k (vnU w m2))[k]? = some (vnU w m2) := List.getElem?_set_self (by simp; omega)
        have hxk2 : ∀ z, (((g.venues.map vnV ++ spare 8 m).set k (vnU w m2)).set k z)[k]? = some z := fun z => List.getElem?_set_self (by simp; omega)
        have hxk3 : ∀ y z, ((((g.venues.map vnV ++ spare 8 m).set k (vnU w m2)).set k y).set k z)[k]? = some z := fun y z => List.getElem?_set_self (by simp; omega)
        refine AWP.region ?_; simp only [go_sem, ha])
    | (
        refine AWP.here 5 26 12 rfl ?_
        refine AWP.regionO [0, 1, 2, 3, 4, 9, 5, 6, 7, 8, 10, 11] [11] (by kernel_rfl) (by kernel_rfl) rfl ?_; simp only [go_sem, ha, hxk])
    | (
        refine AWP.here 20 78 5 rfl ?_
        refine AWP.region ?_; simp only [go_sem, ha, hxk])
    | (
        refine AWP.here 22 84 6 rfl ?_
        refine AWP.region ?_; simp only [go_sem, ha, hxk2])
    | (
        refine AWP.here 25 102 5 rfl ?_
        refine AWP.publishAt 5 k 5 (jd := 6) (k := 8) (n := w.sent.length - 1) (cap := w.sent.length + m2) ((w.sent.eraseIdx p).map odV ++ spare 8 (m2 + 1)) (by decide) rfl (List.getElem?_set_self (by simp; omega)) rfl rfl (by simp [spare_len, List.length_eraseIdx_of_lt hpl]; try omega) (by rw [od_takeD hpl]; exact cl_od _) ?_
        rw [od_takeD hpl]
        simp only [go_sem, ha]
        rw [row_told hkn]
        refine AWP.publishLeaf 7 0 (jd := 5) (k := 8) (n := g.venues.length) (cap := g.venues.length + m) _ ((g.venues.set k ⟨nb, w.sent.eraseIdx p, g.now, w.gap⟩).map vnV ++ spare 8 m) (by decide) rfl rfl rfl (by simp [spare_len]) (by rw [vn_takeS]; exact cl_vn _) ?_
        rw [vn_takeS]
        simp only [go_sem, ha]
        refine AWP.region ?_; simp only [go_sem, ha])
    | (
        refine AWP.here 15 52 7 rfl ?_
        refine AWP.regionFlow [[], [0], [0, 1], [0, 1, 2], [], [0, 1, 2, 3, 4], [0, 1, 2, 3, 4, 5]] [.ptr 5 k 0, .ptr 5 k 0, .ptr 5 k 5, .mu 6 8 0 w.sent.length (w.sent.length + m2), exV x, i64 (p : Int), i64 (p : Int)] [] (fun _ => [some [gtV g], some [exV x], some [.agg [.nilS, .nilS, bl false, i64 0, i64 0]], some [.agg [.mu 5 8 0 g.venues.length (g.venues.length + m), lmsV g.limits, bl g.kill, i64 g.now, i64 g.pat]], some [.agg [.mu 5 8 0 g.venues.length (g.venues.length + m), lmsV g.limits, bl g.kill, i64 g.now, i64 g.pat]], some ((g.venues.map vnV ++ spare 8 m).set k (vnU w m2)), some (w.sent.map odV ++ spare 8 m2), some [.agg [.mu 5 8 0 g.venues.length (g.venues.length + m), lmsV g.limits, bl g.kill, i64 g.now, i64 g.pat]], some [bkV nb]]) (by kernel_rfl) (by kernel_rfl) rfl rfl rfl ?_ ?_ ?_
        · intro i o ho hi s hg how htk hrs hr
          rcases i with _ | i
          · simp only [List.getElem?_toArray, List.getElem?_cons_zero, List.getElem?_cons_succ, Option.some.injEq] at ho; subst ho
            have e10 := (hr 10 (by decide)).trans (rfl : _ = (.ptr 5 k 0 : AV))
            refine FOp.list ?_
            simp only [go_sem, e10]
            first | done | rfl | exact ⟨_, rfl⟩ | skip
          rcases i with _ | i
          · simp only [List.getElem?_toArray, List.getElem?_cons_zero, List.getElem?_cons_succ, Option.some.injEq] at ho; subst ho
            have e52 := (hr 52 (by decide)).trans (rfl : _ = (.ptr 5 k 0 : AV))
            refine FOp.list ?_
            simp only [go_sem, e52]
            first | done | rfl | exact ⟨_, rfl⟩ | skip
          rcases i with _ | i
          · simp only [List.getElem?_toArray, List.getElem?_cons_zero, List.getElem?_cons_succ, Option.some.injEq] at ho; subst ho
            have e53 := (hr 53 (by decide)).trans (rfl : _ = (.ptr 5 k 0 : AV))
            refine FOp.list ?_
            simp only [go_sem, e53]
            first | done | rfl | exact ⟨_, rfl⟩ | skip
          rcases i with _ | i
          · simp only [List.getElem?_toArray, List.getElem?_cons_zero, List.getElem?_cons_succ, Option.some.injEq] at ho; subst ho
            have e54 := (hr 54 (by decide)).trans (rfl : _ = (.ptr 5 k 5 : AV))
            obtain ⟨kq, hkq⟩ := how
            refine FOp.list ?_
            simp only [go_sem, e54, hkq, hxk]
            first | done | rfl | exact ⟨_, rfl⟩ | skip
          rcases i with _ | i
          · simp only [List.getElem?_toArray, List.getElem?_cons_zero, List.getElem?_cons_succ, Option.some.injEq] at ho; subst ho
            have e5 := (hr 5 (by decide)).trans (rfl : _ = (.ptr 1 0 0 : AV))
            obtain ⟨kq, hkq⟩ := how
            refine FOp.list ?_
            simp only [go_sem, e5, hkq, hxk]
            first | done | rfl | exact ⟨_, rfl⟩ | skip
          rcases i with _ | i
          · simp only [List.getElem?_toArray, List.getElem?_cons_zero, List.getElem?_cons_succ, Option.some.injEq] at ho; subst ho
            have e55 := (hr 55 (by decide)).trans (rfl : _ = (.mu 6 8 0 w.sent.length (w.sent.length + m2) : AV))
            have e56 := (hr 56 (by decide)).trans (rfl : _ = (exV x : AV))
            obtain ⟨tm, ow0, tk0, gl0, rsv0, up0⟩ := s
            obtain ⟨kq, hkq⟩ := how
            simp only [] at hkq hrs htk hg
            subst hkq; subst hrs; subst htk; subst hg
            refine FOp.list ?_
            simp only [go_sem, e55, e56]
            refine ACall.snapOne (gsent_c w.sent x (by have := hw0.2.2.2; omega)) (by kernel_rfl) rfl (.cons (.one (.mu' rfl (by simp) (cl_od _))) (.cons (.one (.clean rfl)) .nil)) ?_
            simp only [go_sem, hix]
            try simp
          rcases i with _ | i
          · simp only [List.getElem?_toArray, List.getElem?_cons_zero, List.getElem?_cons_succ, Option.some.injEq] at ho; subst ho
            have e57 := (hr 57 (by decide)).trans (rfl : _ = (i64 (p : Int) : AV))
            refine FOp.list ?_
            simp only [go_sem, e57]
            first | done | rfl | exact ⟨_, rfl⟩ | skip
          · exact absurd ho (by simp)
        · intro k i o hk ho s hg how htk hrs hup hpp hr
          · exact absurd hk (by simp)
        simp only [go_sem, Go.Abs.setAll, Go.Abs.dstsOf, List.map_cons, List.map_nil])
    | (
        refine AWP.here 24 91 12 rfl ?_
        refine AWP.regionL ?_
        refine AWPL.at 12 8 rfl ?_
        simp only [go_sem, ha, hxk3, hwp]
        refine del_call (p := p) (m := m2) (l := w.sent) rfl rfl (by push_cast; rfl) rfl hpl (by have := hw0.2.2.2; omega) ?_
        simp only [go_sem, ha, hxk3]
        (try refine AWPL.at 3 3 rfl ?_)
        (try simp only [go_sem, ha, hxk3])
        (try refine AWPL.of ?_)
        (try simp only [go_sem]))
    | (
        refine AWP.here 5 15 5 rfl ?_
        obtain ⟨v, hx⟩ : ∃ v, g.venues[i]? = some v := ⟨_, List.getElem?_eq_getElem (by omega)⟩
        have hv := hg.2.2 v (List.mem_of_getElem? hx)
        have hx2 : (g.venues.map vnV ++ spare 8 m)[i]? = some (vnV v) := by rw [List.getElem?_append_left (by simpa using get_lt hx), List.getElem?_map, hx]; rfl
        have hvw : i = k → v = w := fun e => by subst e; rw [hx] at hx0; exact Option.some.inj hx0
        (first | have hki := dec_f hbk | (have hki := dec_t hbk; have hx3 : ((g.venues.map vnV ++ spare 8 m).set k (vnU w m2))[i]? = some (vnV v) := (List.getElem?_set_ne (by omega)).trans hx2))
        refine AWP.region ?_; simp only [go_sem])
    | (
        refine AWP.here 7 29 11 rfl ?_
        (first | rw [row_same hx] | rw [row_same3 (by omega) hx] | skip)
        refine AWP.region ?_; simp only [go_sem])
    | (
        refine AWP.here 8 39 11 rfl ?_
        (first | rw [row_same hx] | rw [row_same3 (by omega) hx] | skip)
        refine AWP.region ?_; simp only [go_sem])
    | (
        refine AWP.here 10 57 2 rfl ?_
        (first | rw [row_same hx] | rw [row_same3 (by omega) hx] | skip)
        (try (obtain rfl := hvw hik1; subst hik1))
        refine AWP.region ?_; simp only [go_sem])
    | (
        refine AWP.here 9 49 9 rfl ?_
        (first | rw [row_same hx] | rw [row_same3 (by omega) hx] | skip)
        rcases Nat.decEq i k with hik0 | hik1 <;> (first | (exfalso; omega) | (refine AWP.region ?_; simp only [go_sem])))
    | (
        refine AWP.here 11 58 5 rfl ?_
        (first | (exfalso; have hki := dec_f hbk; omega) | (have hki := dec_t hbk; refine AWP.region ?_; simp only [go_sem])))
    | (
        refine AWP.here 3 5 4 rfl ?_
        refine AWP.regionL ?_
        refine AWPL.mkMu ap55 ?_
        simp only [go_sem]
        refine AWPL.at 3 1 rfl ?_
        simp only [go_sem]
        refine AWPL.appMu sr55 ap55 rfl rfl rfl (by simp; omega) (by simp; omega) ?_
        intro m
        simp only [go_sem]
        refine AWPL.of ?_
        simp only [go_sem])
    | (refine AWP.here 1 14 4 rfl ?_; refine AWP.regionL ?_; refine AWPL.at 4 1 rfl ?_; simp only [go_sem, ha])
    | (refine AWP.here 1 5 5 rfl ?_; refine AWP.regionL ?_; refine AWPL.at 5 2 rfl ?_; simp only [go_sem])
    | (refine AWP.region ?_; simp only [go_sem, ha])
    | (refine AWP.here 5 26 12 rfl ?_; refine AWP.regionO [0, 1, 2, 3, 4, 9, 5, 6, 7, 8, 10, 11] [11] (by kernel_rfl) (by kernel_rfl) rfl ?_; simp only [go_sem, ha])
    | (refine AWP.here 15 52 7 rfl ?_; refine AWP.regionO [0, 1, 2, 3, 4, 5, 6] [] (by kernel_rfl) (by kernel_rfl) rfl ?_; simp only [go_sem, ha])
    | (refine AWP.here 17 60 14 rfl ?_; refine AWP.regionAnyT (.take 0 (.take 1 (.take 2 (.take 3 (.take 4 (.take 5 (.take 6 (.take 7 (.take 8 (.take 9 (.take 10 (.take 11 (.take 12 (.take 13 .done)))))))))))))) [[], [], [1], [1, 2], [1, 2, 3], [1, 2, 3, 4], [], [6], [6, 7], [1, 2, 3, 4, 5, 6, 7, 8], [0, 1, 2, 3, 4, 5, 6, 7, 8, 9], [0, 1, 2, 3, 4, 5, 6, 7, 8, 9, 10], [0, 1, 2, 3, 4, 5, 6, 7, 8, 9, 10, 11], [0, 1, 2, 3, 4, 5, 6, 7, 8, 9, 10, 11, 12]] [] (by kernel_rfl) (by kernel_rfl) ?_; simp only [go_sem, ha])
    | (refine hK _ ?_; clear hK K)
    | refine AWP.block ?_
    | refine AWP.cond rfl (fun c => ?_) (fun c => ?_) <;> first | exact Bool.noConfusion c | (try simp only [dD] at c)
    | refine AWP.skip ?_
    | (refine AWP.exit ?_; simp only [go_sem, ha])
    | (refine ACall.one (gisat_c g (k : Int) hgi) (by kernel_rfl) rfl ?_; simp only [go_sem, ha])
    | (refine ACall.one (come_c w.book x hw0.1 hw0.2.1 hw0.2.2.1) (by kernel_rfl) rfl ?_; simp only [hcf]; simp only [go_sem, ha])
    | (refine ACall.one (gsent_c _ _ (by first | assumption | omega | (simp only [List.length_take]; omega))) (by kernel_rfl) rfl ?_; simp only [go_sem, ha])
    | (refine ACall.one (del_call ) (by kernel_rfl) rfl ?_; simp only [go_sem, ha])
    | (have h0 := hik1; clear h0; refine ACall.take (oclone_c v.sent hv.2.2.2) (by kernel_rfl) rfl (.cons (.one (.clean rfl)) .nil) ?_; rintro r t ⟨rfl, rfl⟩; refine ⟨0, 8, _, rfl, by simp, pl_od _, fun m3 => ?_⟩; simp only [go_sem, List.length_map])
    | (refine ACall.one (oclone_p v.book.orders hv.1) (by kernel_rfl) rfl ?_; simp only [go_sem])
    | (refine ACall.one (oclone_p v.sent hv.2.2.2) (by kernel_rfl) rfl ?_; simp only [go_sem])
    | (refine ACall.one (dclone_p v.book.fills hv.2.1) (by kernel_rfl) rfl ?_; simp only [go_sem])
    | (refine ACall.one (sclone_p v.book.ids hv.2.2.1) (by kernel_rfl) rfl ?_; simp only [go_sem])
    | (refine ACall.one (limclone_p g.limits hg2) (by kernel_rfl) rfl ?_; simp only [go_sem])
    | (refine AWPL.call (rs := [.cell 2 58]) Tryz.func76 rfl Tryz.ntmps76 rfl (by kernel_rfl) rfl rfl ?_; simp only [go_sem])
    | (refine AWPL.call (rs := [.tmp 2]) Tryz.func144 rfl Tryz.ntmps144 rfl (by kernel_rfl) rfl rfl ?_; simp only [go_sem])
    | (refine AGuard.splitN (fun h => ?_) (fun h => ?_) <;> simp only [h, go_sem, ha] <;> (try simp only [dD] at h))
    | (refine AGuard.split (fun h => ?_) (fun h => ?_) <;> simp only [h, go_sem, ha] <;> (try simp only [dD] at h))
    | (refine AGet.haveM (by assumption) ?_; (try simp only [go_sem, ha]))
    | (refine AGet.have' (by assumption) ?_; (try simp only [go_sem, ha]))
    | ((first | refine AGet.nth ?_ (fun b hb => ?_) | refine AGet.nth1 ?_ (fun b hb => ?_) | with_reducible refine And.intro ?_ ?_); (focus (first | omega | assumption | exact List.length_pos_iff.2 (by assumption) | (simp only [List.length_append, List.length_cons, List.length_nil, List.length_map, List.length_take, List.length_drop] at *; omega) | (rw [wrap64_id (by omega) (by omega)]; omega) | (simp; done) | (simp [spare_len]; done) | (exact ⟨by omega, by omega⟩))); (try simp only [hb, go_sem, ha]))
    | exact rfl
    | refine And.intro (a := ACall _ _ _ _ _ _ _ _) ?_ ?_
    | refine And.intro (a := AGet _ _) ?_ ?_
    | refine And.intro (a := AGuard _ _ _ _ _ _ _) ?_ ?_
    | (
        refine AWP.here 3 13 1 rfl ?_
        refine AWP.loopM (ι := Bool × Nat × Nat) [3, 4, 13, 14, 15, 16, 17, 18, 19, 20, 21, 22, 23, 24, 25, 26, 27, 28, 29, 30, 31, 32, 33, 34, 35, 36, 37, 38, 39, 40, 41, 42, 43, 44, 45, 46, 47, 48, 49, 50, 51, 52, 53, 54, 55, 56, 57] (fun ⟨bk, i, m2⟩ => [(12, i64 i)]) (fun ⟨bk, i, m2⟩ => [some [.agg [vnsV g.venues, lmsV g.limits, bl g.kill, i64 g.now, i64 g.pat]], some [exV x], some [.agg [.nilS, .nilS, bl false, i64 0, i64 0]], some [.agg [.mu 5 8 0 g.venues.length (g.venues.length + m), lmsV g.limits, bl g.kill, i64 g.now, i64 g.pat]], some [.agg [.nilS, .nilS, bl false, i64 0, i64 0]], some (bif bk then ((g.venues.map vnV ++ spare 8 m).set k (vnU w m2)) else (g.venues.map vnV ++ spare 8 m))] ++ (bif bk then [some (w.sent.map odV ++ spare 8 m2)] else [])) (fun ⟨bk, i, m2⟩ => ([] : List Nat)) (fun ⟨bk, i, m2⟩ => i ≤ g.venues.length ∧ bk = decide (k < i)) (fun ⟨bk, i, m2⟩ => g.venues.length - i) ((false, 0, 0)) ?_ ?_ ?_
        · (try simp only [go_sem]); (try simp only [cond_true, cond_false, List.cons_append, List.nil_append, List.append_nil, List.set_set]); (repeat' (first | exact .inr bel_vns | exact .inr ⟨rfl, bel_vns⟩ | exact .inr (bel_vnu (by decide)) | exact .inr ⟨rfl, bel_vnu (by decide)⟩ | exact .inr ⟨by simp, bel_vnu (by decide)⟩ | exact .inr bel_odr | exact .inr ⟨rfl, bel_odr⟩ | refine And.intro ?_ ?_ | exact .inl rfl | exact .inr rfl | exact .inr ⟨rfl, rfl⟩ | trivial | exact .inr (oblA rfl) | exact .inr ⟨rfl, oblA rfl⟩ | exact .inr bel_strs | exact .inr ⟨rfl, bel_strs⟩ | exact .inr ⟨by simp, bel_strs⟩ | (simp; done) | exact .inr ⟨rfl, by simp⟩ | exact .inr ⟨by simp, by simp⟩)); done
        · exact ⟨by omega, by simp⟩
        rintro ⟨bk, i, m2⟩ ⟨h1, hbk⟩
        simp only [go_sem]
        cases bk <;> simp only [cond_true, cond_false, List.cons_append, List.nil_append, List.append_nil])
    | (
        refine ⟨(false, i + 1, m2), ?_, ?_, ?_⟩
        · (try simp only [go_sem]); (try rw [wrap64_id (by omega) (by omega)]); (try simp only [cond_true, cond_false, List.cons_append, List.nil_append, List.append_nil, List.set_set]); (repeat' (first | exact .inr bel_vns | exact .inr ⟨rfl, bel_vns⟩ | exact .inr (bel_vnu (by decide)) | exact .inr ⟨rfl, bel_vnu (by decide)⟩ | exact .inr ⟨by simp, bel_vnu (by decide)⟩ | exact .inr bel_odr | exact .inr ⟨rfl, bel_odr⟩ | refine And.intro ?_ ?_ | exact .inl rfl | exact .inr rfl | exact .inr ⟨rfl, rfl⟩ | trivial | exact .inr (oblA rfl) | exact .inr ⟨rfl, oblA rfl⟩ | exact .inr bel_strs | exact .inr ⟨rfl, bel_strs⟩ | exact .inr ⟨by simp, bel_strs⟩ | (simp; done) | exact .inr ⟨rfl, by simp⟩ | exact .inr ⟨by simp, by simp⟩)); done
        · (try dsimp only); (first | exact ⟨by omega, dec_ff (by omega)⟩ | exact ⟨by omega, dec_tt (by omega)⟩)
        · (try simp only []); omega)
    | (
        refine ⟨(true, i + 1, m3), ?_, ?_, ?_⟩
        · (try simp only [go_sem]); (try rw [wrap64_id (by omega) (by omega)]); (try simp only [cond_true, cond_false, List.cons_append, List.nil_append, List.append_nil, List.set_set]); (repeat' (first | exact .inr bel_vns | exact .inr ⟨rfl, bel_vns⟩ | exact .inr (bel_vnu (by decide)) | exact .inr ⟨rfl, bel_vnu (by decide)⟩ | exact .inr ⟨by simp, bel_vnu (by decide)⟩ | exact .inr bel_odr | exact .inr ⟨rfl, bel_odr⟩ | refine And.intro ?_ ?_ | exact .inl rfl | exact .inr rfl | exact .inr ⟨rfl, rfl⟩ | trivial | exact .inr (oblA rfl) | exact .inr ⟨rfl, oblA rfl⟩ | exact .inr bel_strs | exact .inr ⟨rfl, bel_strs⟩ | exact .inr ⟨by simp, bel_strs⟩ | (simp; done) | exact .inr ⟨rfl, by simp⟩ | exact .inr ⟨by simp, by simp⟩)); done
        · (try dsimp only); (first | exact ⟨by omega, dec_ff (by omega)⟩ | exact ⟨by omega, dec_tt (by omega)⟩)
        · (try simp only []); omega)
    | (
        refine ⟨(true, i + 1, m2), ?_, ?_, ?_⟩
        · (try simp only [go_sem]); (try rw [wrap64_id (by omega) (by omega)]); (try simp only [cond_true, cond_false, List.cons_append, List.nil_append, List.append_nil, List.set_set]); (repeat' (first | exact .inr bel_vns | exact .inr ⟨rfl, bel_vns⟩ | exact .inr (bel_vnu (by decide)) | exact .inr ⟨rfl, bel_vnu (by decide)⟩ | exact .inr ⟨by simp, bel_vnu (by decide)⟩ | exact .inr bel_odr | exact .inr ⟨rfl, bel_odr⟩ | refine And.intro ?_ ?_ | exact .inl rfl | exact .inr rfl | exact .inr ⟨rfl, rfl⟩ | trivial | exact .inr (oblA rfl) | exact .inr ⟨rfl, oblA rfl⟩ | exact .inr bel_strs | exact .inr ⟨rfl, bel_strs⟩ | exact .inr ⟨by simp, bel_strs⟩ | (simp; done) | exact .inr ⟨rfl, by simp⟩ | exact .inr ⟨by simp, by simp⟩)); done
        · (try dsimp only); (first | exact ⟨by omega, dec_ff (by omega)⟩ | exact ⟨by omega, dec_tt (by omega)⟩)
        · (try simp only []); omega)
    | (
        refine AWP.ret ?_
        refine AEnd.is ?_; simp only [go_sem, out_v, out_s, out_n, v_int, v_bool, v_str] <;> (first | (rw [told_d ha hx0 hcf hop hsn]; simp [withG]; done) | skip))
    | (refine AWP.ret ?_; refine AInPost.ret rfl ?_; simp only [go_sem, ha])
    | (refine AWP.ret ?_; simp only [inb_ret, athen_ret]; refine AInPost.ret rfl ?_; simp only [go_sem, ha])
    | (refine AWP.ret ?_; (try simp only [inb_ret, athen_ret]); refine AInPost.ret rfl ?_; (try simp only [go_sem, ha]))
    | (refine AWPL.of ?_; simp only [go_sem, ha])
    | ((fail_if_success (have := hbb)); (with_reducible intro bb hbb))
    | (exfalso; omega)
    | refine AWP.fin (by assumption) ?_
    | fail)


end Go.Proofs.YtajeeghgiilhiaaGreat
end
section
set_option linter.unusedVariables false
set_option linter.unusedSimpArgs false
namespace Go.Proofs.YtajeeghgiilhiaaGreat
open Go Go.Abs Go.RowKit Go.Bk
theorem gtold_c (g : Gt) (n : Int) (x : Ex) (hg : GtSm g) : ACalls E 30 [gtV g, i64 n, exV x] (fun r t => r = .tup [gtV (toldG g n x).1, i64 (toldG g n x).2.1, i64 (toldG g n x).2.2] ∧ t = []) := by
  cases ha : isAtB g n with
  | false => rw [told_no ha]; exact gtold_n g n x hg ha
  | true =>
    obtain ⟨k, w, rfl, hx⟩ := isAt_get ha
    obtain ⟨nb, kk, hcf⟩ : ∃ nb kk, comeF w.book x = (nb, kk) := ⟨_, _, rfl⟩
    by_cases h1 : kk = 1
    · subst h1
      by_cases ho : x.kind = 1 ∨ x.kind = 4
      · cases hs : sentF w.sent x with
        | none => exact gtold_b g k w x hg hx ha nb 1 hcf (.inl rfl) ho hs
        | some p => exact gtold_d g k w x hg hx ha nb p hcf ho hs
      · exact gtold_c1 g k w x hg hx ha nb hcf ho
    · by_cases h3 : kk = 3
      · subst h3
        by_cases ho : x.kind = 1 ∨ x.kind = 4
        · cases hs : sentF w.sent x with
          | none => exact gtold_b g k w x hg hx ha nb 3 hcf (.inr rfl) ho hs
          | some p => exact gtold_c3 g k w x hg hx ha nb p hcf (fun _ => hs)
        · exact gtold_c3 g k w x hg hx ha nb 0 hcf (fun h => absurd h ho)
      · exact gtold_0 g k w x hg hx ha nb kk hcf ⟨h1, h3⟩


end Go.Proofs.YtajeeghgiilhiaaGreat
end
section
/- One order at a gate of one venue: let in, told, filled, busted, cancelled; what may come at the worst. No program. -/
set_option linter.unusedVariables false
set_option linter.unusedSimpArgs false
namespace Go.Bk
open Go Go.Abs
def LimA : Lm := ⟨[97], [115], 1099511627776, 1099511627776, 1099511627776, 1099511627776⟩
def Gz : Gt := ⟨[zeroV], [], false, 0, 100⟩
def Ga : Gt := ⟨[zeroV], [LimA], false, 0, 100⟩
def Gv (v : Vn) : Gt := ⟨[v], [LimA], false, 0, 100⟩
theorem fr_new : newG 1 100 = (Gz, 0) := rfl
theorem fr_lim : limitG Gz LimA = (Ga, 0) := rfl
theorem fr_at {v : Vn} (h : rightV v 0 = true) : isAtB (Gv v) 0 = true := by
  have h1 : rightL [LimA] = true := by decide
  simp [isAtB, rightG, Gv, h1, timeB, h]
section
variable {buy : Bool} {q p f : Int} (hq : 1 ≤ q ∧ q ≤ 1073741824) (hp : 0 ≤ p ∧ p ≤ 999)
abbrev Oq (buy : Bool) (q p d : Int) (opn : Bool) : Od := ⟨[111], [97], [115], buy, q, p, d, opn⟩
abbrev Xq (id ref : Bs) (kind : Int) (buy : Bool) (q p : Int) : Ex := ⟨id, ref, [111], [97], [115], kind, buy, q, p, 0⟩
abbrev Dq (buy : Bool) (f p : Int) (live : Bool) : Dn := ⟨[102], [111], [97], [115], buy, f, p, 0, live⟩
include hq hp
theorem fr_may {d : Int} {o : Bool} (hd : 0 ≤ d ∧ d ≤ q) : mayB (Oq buy q p d o) = true := by
  simp [mayB, namedB, smallB]; omega
theorem fr_right {d : Int} {o : Bool} (hd : 0 ≤ d ∧ d ≤ q) : rightO [Oq buy q p d o] = true := by
  simp [rightO, rightGo, fr_may hq hp hd, placeF]
theorem fr_order : orderG Ga 0 (Oq buy q p 0 false) = (Gv ⟨emptyB, [Oq buy q p 0 true], 0, false⟩, 0, 0) := by
  have hw : whyG Ga zeroV (openO (Oq buy q p 0 false)) = 0 := by
    have h1 : getL [LimA] [97] [115] = (LimA, true) := by decide
    have h2 : worstG Ga [97] [115] = (0, 0) := by decide
    have hm : 0 ≤ q * p ∧ q * p ≤ 1099511627776 := by
      have a1 : 0 ≤ q * p := Int.mul_nonneg (by omega) hp.1
      have a2 : q * p ≤ 1073741824 * 999 := Int.mul_le_mul hq.2 hp.2 hp.1 (by decide)
      omega
    show (if Ga.kill then 8 else if stateV zeroV 0 100 ≠ 0 then _ else whyL [LimA] (openO (Oq buy q p 0 false)) (worstG Ga [97] [115])) = 0
    have h3 : stateV zeroV 0 100 = 0 := by decide
    rw [h2, h3]
    have hmf : mulF q p = (q * p, true) := by
      unfold mulF numB; rw [if_pos (by simp; omega)]
    have haf : addF 0 q = (q, true) := by
      unfold addF numB; rw [if_pos (by simp; omega)]; simp
    unfold whyL
    simp only [openO, h1, hmf, haf]
    simp only [Ga, LimA]
    cases buy <;> simp <;> omega
  have := order_in (g := Ga) (k := 0) (o := Oq buy q p 0 false) (v := zeroV) (by decide) (fr_may hq hp (d := 0) (o := true) (by omega)) rfl (by simp only [knownB, hasB, zeroV]; rfl) hw
  exact this
/-- the book behind New -/
abbrev B1 (buy : Bool) (q p : Int) : Bk := ⟨[Oq buy q p 0 true], [], [[110]], 0, 0⟩
theorem fr_exec {id ref : Bs} {k : Int} {n : Int} (hi : nameB id = true) (hk : (k = 7 ∧ nameB ref = true) ∨ ((k = 1 ∨ k = 2 ∨ k = 3) ∧ ref = [])) (hn : 0 ≤ n ∧ n ≤ q) : execB (Xq id ref k buy n p) = true := by
  have e1 : nameB [111] = true := by decide
  have e2 : nameB [97] = true := by decide
  have e3 : nameB [115] = true := by decide
  have s1 : smallB n = true := by simp [smallB]; omega
  have s2 : smallB p = true := by simp [smallB]; omega
  have s3 : whenB 0 = true := by decide
  simp only [execB, hi, e1, e2, e3, s1, s2, s3, Bool.and_true, Bool.true_and]
  rcases hk with ⟨rfl, h⟩ | ⟨rfl | rfl | rfl, rfl⟩
  · simp [h]
  · simp
  · simp
  · simp
theorem fr_come1 : comeF emptyB (Xq [110] [] 1 buy q p) = (B1 buy q p, 1) := by
  have h1 : rightBk emptyB = true := by decide
  have h2 := fr_exec (buy := buy) hq hp (id := [110]) (ref := []) (k := 1) (n := q) (by decide) (.inr ⟨.inl rfl, rfl⟩) (by omega)
  unfold comeF
  rw [h1, h2]
  have hm : mayB ⟨[111], [97], [115], buy, q, p, 0, true⟩ = true := fr_may hq hp (d := 0) (o := true) (by omega)
  have hr : rightO [] = true := by decide
  simp [takeF, emptyB, hasF, idI, applyF, newO, hm, hr, placeF, orderOf]
theorem fr_find {d : Int} {o : Bool} (hd : 0 ≤ d ∧ d ≤ q) : findF [Oq buy q p d o] [111] = (Oq buy q p d o, true) := by
  simp [findF, fr_right hq hp hd, placeF]
theorem fr_bk {d : Int} {o : Bool} {fs : List Dn} {ids : List Bs} {bad : Int} (hd : 0 ≤ d ∧ d ≤ q) (hb : 0 ≤ bad ∧ bad ≤ 6) (hl : ids.length ≤ 256) (hn : ids.Nodup) (hf : fs = [] ∨ ∃ n l, fs = [Dq buy n p l] ∧ 0 ≤ n ∧ n ≤ q ∧ [102] ∈ ids) : rightBk ⟨[Oq buy q p d o], fs, ids, 0, bad⟩ = true := by
  have h1 := fr_right (buy := buy) (o := o) hq hp hd
  rcases hf with rfl | ⟨n, l, rfl, h2, h3, h4⟩
  · simp [rightBk, headB, h1, hl, hn, hb]
  · have s1 : smallB n = true := by simp [smallB]; omega
    have s2 : smallB p = true := by simp [smallB]; omega
    simp [rightBk, headB, h1, hl, hn, hb, fillB, s1, s2, h4]
/-- the book behind Fill -/
abbrev B2 (buy : Bool) (q p f : Int) : Bk := ⟨[Oq buy q p f (decide (f < q))], [Dq buy f p true], [[110], [102]], 0, 0⟩
theorem fr_come2 (hf : 1 ≤ f ∧ f ≤ q) : comeF (B1 buy q p) (Xq [102] [] 2 buy f p) = (B2 buy q p f, 1) := by
  have h1 := fr_bk (buy := buy) (d := 0) (o := true) (fs := []) (ids := [[110]]) (bad := 0) hq hp (by omega) (by omega) (by decide) (by decide) (.inl rfl)
  have h2 := fr_exec (buy := buy) hq hp (id := [102]) (ref := []) (k := 2) (n := f) (by decide) (.inr ⟨.inr (.inl rfl), rfl⟩) (by omega)
  unfold comeF
  rw [h1, h2]
  have h3 := fr_find (buy := buy) (d := 0) (o := true) hq hp (by omega)
  have h4 := fr_right (buy := buy) (d := 0) (o := true) hq hp (by omega)
  have h5 := fr_may (buy := buy) (d := 0) (o := true) hq hp (by omega)
  have s2 : smallB p = true := by simp [smallB]; omega
  have h6 : ¬ (f < 1 ∨ q < f) := by omega
  simp [takeF, hasF, idI, applyF, h3, fillF, fillO, h4, openF, placeF, leftF, h5, fairF, s2, h6, doneOf, Int.not_lt.2 hf.1, Int.not_lt.2 hf.2]
/-- the book behind Bust -/
abbrev B3 (buy : Bool) (q p f : Int) : Bk := ⟨[Oq buy q p f (decide (f < q))], [Dq buy f p false], [[110], [102], [98]], 0, 0⟩
theorem fr_come3 (hf : 1 ≤ f ∧ f ≤ q) : comeF (B2 buy q p f) (Xq [98] [102] 7 buy f p) = (B3 buy q p f, 1) := by
  have h1 := fr_bk (buy := buy) (d := f) (o := decide (f < q)) (fs := [Dq buy f p true]) (ids := [[110], [102]]) (bad := 0) hq hp (by omega) (by omega) (by decide) (by decide) (.inr ⟨_, _, rfl, by omega, by omega, by decide⟩)
  have h2 := fr_exec (buy := buy) hq hp (id := [98]) (ref := [102]) (k := 7) (n := f) (by decide) (.inl ⟨rfl, by decide⟩) (by omega)
  unfold comeF
  rw [h1, h2]
  have h7 : hasF [[110], [102]] [98] = false := by decide
  simp [takeF, h7, applyF, amendF, atF]
/-- the book behind Cancel -/
def B4 (b : Bk) (opn : Bool) : Bk := if opn then ⟨b.orders.map fun o => { o with opn := false }, b.fills, b.ids ++ [[99]], 0, 0⟩ else ⟨b.orders, b.fills, b.ids ++ [[99]], 0, 2⟩
theorem fr_come4 {d : Int} {o : Bool} {n : Int} {fs : List Dn} {ids : List Bs} (hd : 0 ≤ d ∧ d ≤ q) (hn : 0 ≤ n ∧ n ≤ q) (hl : ids.length < 256) (hnd : ids.Nodup) (h99 : [99] ∉ ids) (hf : fs = [] ∨ ∃ n l, fs = [Dq buy n p l] ∧ 0 ≤ n ∧ n ≤ q ∧ [102] ∈ ids) :
    comeF ⟨[Oq buy q p d o], fs, ids, 0, 0⟩ (Xq [99] [] 3 buy n p) = (B4 ⟨[Oq buy q p d o], fs, ids, 0, 0⟩ o, if o then 1 else 3) := by
  have h1 := fr_bk (buy := buy) (d := d) (o := o) (fs := fs) (ids := ids) (bad := 0) hq hp hd (by omega) (by omega) hnd hf
  have h2 := fr_exec (buy := buy) hq hp (id := [99]) (ref := []) (k := 3) (n := n) (by decide) (.inr ⟨.inr (.inr rfl), rfl⟩) hn
  unfold comeF
  rw [h1, h2]
  have h3 := fr_find (buy := buy) (d := d) (o := o) hq hp hd
  have h4 := fr_right (buy := buy) (d := d) (o := o) hq hp hd
  have h5 : hasF ids [99] = false := by
    unfold hasF idI
    rw [List.findIdx?_eq_none_iff.2 (fun s hs => by simp; rintro rfl; exact h99 hs)]
    rfl
  have h6 : ¬ 256 ≤ ids.length := by omega
  cases o <;> simp [takeF, h5, h6, applyF, h3, closeO, h4, openF, placeF, B4]
/-- what may come at the worst of such a gate -/
theorem fr_worst {d : Int} {o : Bool} {fs : List Dn} {ids : List Bs} {bad : Int} (hd : 0 ≤ d ∧ d ≤ q) (hb : 0 ≤ bad ∧ bad ≤ 6) (hl : ids.length ≤ 256) (hn : ids.Nodup) (hf : fs = [] ∨ ∃ n l, fs = [Dq buy n p l] ∧ 0 ≤ n ∧ n ≤ q ∧ [102] ∈ ids) (ho : o = false ∨ True) (X : Int) (hX : (fs = [] ∧ X = 0) ∨ (∃ n, fs = [Dq buy n p true] ∧ X = n) ∨ (∃ n, fs = [Dq buy n p false] ∧ X = 0)) (hcl : o = false) :
    (if buy then (worstG (Gv ⟨⟨[Oq buy q p d o], fs, ids, 0, bad⟩, [], 0, false⟩) [97] [115]).1 else (worstG (Gv ⟨⟨[Oq buy q p d o], fs, ids, 0, bad⟩, [], 0, false⟩) [97] [115]).2) = X := by
  have h1 := fr_bk (buy := buy) (d := d) (o := o) (fs := fs) (ids := ids) (bad := bad) hq hp hd hb hl hn hf
  have h2 : pendF [] [97] [115] = (0, 0) := by decide
  have hXb : 0 ≤ X ∧ X ≤ q := by
    rcases hX with ⟨_, rfl⟩ | ⟨n, rfl, rfl⟩ | ⟨n, _, rfl⟩
    · omega
    · rcases hf with hf | ⟨m, l, hf, h3, h4, _⟩
      · simp at hf
      · simp at hf; omega
    · omega
  subst hcl
  have hw : ∀ x : Int, 0 ≤ x → x ≤ 1073741824 → IntKind.i64.wrap x = x := fun x a b => wrap64_id (by omega) (by omega)
  simp only [worstG, Gv, worstN, List.length_cons, List.length_nil, List.take_succ_cons, List.take_zero, List.foldl_cons, List.foldl_nil, ofF, h1, if_true, h2]
  rcases hX with ⟨rfl, rfl⟩ | ⟨n, rfl, rfl⟩ | ⟨n, rfl, rfl⟩ <;> cases buy <;> simp [ofE, fillsA, sumW, ordA, leftF, sideW, plusW, fillA, finalF] <;> (try rw [hw X hXb.1 (by omega)]) <;> (try rw [hw X hXb.1 (by omega)]) <;> (try rfl) <;> (try decide)
end
end Go.Bk
end
section
set_option linter.unusedVariables false
set_option linter.unusedSimpArgs false
namespace Go.Proofs.YtajeeghgiilhiaaGreat
open Go Go.Abs Go.RowKit Go.Bk
def worstR (g : Gt) (a s : Bs) : Ws := if rightG g then worstG g a s else (0, 0)
theorem gWorst_r (g : Gt) (a s : Bs) (hg : GtIn g) : ACalls E 31 [gtV g, str a, str s] (fun r t => r = wV (worstR g a s) ∧ t = []) := gWorst_c g a s hg
theorem sm_one {v : Vn} {x : List Lm} {b : Bool} {n p : Int} (h : VnSm v) (hx : x.length ≤ 1000000) : GtSm ⟨[v], x, b, n, p⟩ := by
  refine ⟨by simp, hx, fun w hw => ?_⟩
  simp only [List.mem_singleton] at hw
  subst hw; exact h
def Lw : Lm := ⟨[97], [115], 10, 0, 10, 1000⟩
def Gw0 : Gt := ⟨[zeroV], [Lw], false, 0, 100⟩
abbrev Ow (id : Bs) (q : Int) : Od := ⟨id, [97], [115], true, q, 5, 0, false⟩
def Gw1 : Gt := ⟨[⟨emptyB, [⟨[111], [97], [115], true, 7, 5, 0, true⟩], 0, false⟩], [Lw], false, 0, 100⟩
theorem sm_z : VnSm zeroV := by refine ⟨?_, ?_, ?_, ?_⟩ <;> decide
theorem sm_Gz : GtSm Gz := sm_one sm_z (by decide)
theorem sm_Gw0 : GtSm Gw0 := sm_one sm_z (by decide)
theorem sm_Ga : GtSm Ga := sm_one sm_z (by decide)
theorem sm_Gw1 : GtSm Gw1 := sm_one (by refine ⟨?_, ?_, ?_, ?_⟩ <;> decide) (by decide)
theorem gnew_k  : ACalls E 27 [i64 1, i64 100] (fun r t => r = .tup [gtV Gz, i64 0] ∧ t = []) := by
  have h := gnew_c 1 100
  rw [fr_new] at h; exact h
theorem glimw_k  : ACalls E 28 [gtV Gz, lmV Lw] (fun r t => r = .tup [gtV Gw0, i64 0] ∧ t = []) := by
  have h := glimit_c Gz Lw sm_Gz (lsetn_c Lw)
  rw [show limitG Gz Lw = (Gw0, 0) from rfl] at h; exact h
theorem glima_k  : ACalls E 28 [gtV Gz, lmV LimA] (fun r t => r = .tup [gtV Ga, i64 0] ∧ t = []) := by
  have h := glimit_c Gz LimA sm_Gz (lsetn_c LimA)
  rw [fr_lim] at h; exact h
theorem gow1_k  : ACalls E 29 [gtV Gw0, i64 0, odV (Ow [111] 7)] (fun r t => r = .tup [gtV Gw1, i64 0, i64 0] ∧ t = []) := by
  have h := gorder_c Gw0 0 (Ow [111] 7) sm_Gw0
  rw [show orderG Gw0 0 (Ow [111] 7) = (Gw1, 0, 0) from rfl] at h; exact h
theorem gow2_k  : ACalls E 29 [gtV Gw1, i64 0, odV (Ow [112] 4)] (fun r t => r = .tup [gtV Gw1, i64 4, i64 0] ∧ t = []) := by
  have h := gorder_c Gw1 0 (Ow [112] 4) sm_Gw1
  rw [show orderG Gw1 0 (Ow [112] 4) = (Gw1, 4, 0) from rfl] at h; exact h
theorem gww_k  : ACalls E 31 [gtV Gw1, str [97], str [115]] (fun r t => r = wV (7, 0) ∧ t = []) := by
  have h := gWorst_r Gw1 [97] [115] sm_Gw1.fit
  rw [show worstR Gw1 [97] [115] = (7, 0) from rfl] at h; exact h

set_option maxHeartbeats 4000000 in
set_option maxRecDepth 8000 in
theorem awake19_c  : ACalls E 26 [] (fun r t => r = bl true ∧ t = []) := by -- checkroll/checkrolllaw19.awake
  refine ACalls.of_awp (n := 65) (rs := [.tmp 0]) Tryz.func26 rfl Tryz.ntmps26 rfl ?_
  repeat' (first
    | refine AWP.seqk fun K hK => ?_
    | (refine AWP.region ?_; simp only [go_sem])
    | (refine hK _ ?_; clear hK K)
    | refine AWP.block ?_
    | refine AWP.cond rfl (fun c => ?_) (fun c => ?_) <;> first | exact Bool.noConfusion c | (try simp only [dD] at c)
    | refine AWP.skip ?_
    | (refine AWP.exit ?_; simp only [go_sem])
    | (refine ACall.one (gnew_k) (by kernel_rfl) rfl ?_; simp only [go_sem])
    | (refine ACall.one (glimw_k) (by kernel_rfl) rfl ?_; simp only [go_sem])
    | (refine ACall.one (gow1_k) (by kernel_rfl) rfl ?_; simp only [go_sem])
    | (refine ACall.one (gow2_k) (by kernel_rfl) rfl ?_; simp only [go_sem])
    | (refine ACall.one (gww_k) (by kernel_rfl) rfl ?_; simp only [go_sem])
    | (refine AGuard.splitN (fun h => ?_) (fun h => ?_) <;> simp only [h, go_sem] <;> (try simp only [dD] at h))
    | (refine AGuard.split (fun h => ?_) (fun h => ?_) <;> simp only [h, go_sem] <;> (try simp only [dD] at h))
    | (refine AGet.haveM (by assumption) ?_; (try simp only [go_sem]))
    | (refine AGet.have' (by assumption) ?_; (try simp only [go_sem]))
    | ((first | refine AGet.nth ?_ (fun b hb => ?_) | refine AGet.nth1 ?_ (fun b hb => ?_) | with_reducible refine And.intro ?_ ?_); (focus (first | omega | assumption | exact List.length_pos_iff.2 (by assumption) | (simp only [List.length_append, List.length_cons, List.length_nil, List.length_map, List.length_take, List.length_drop] at *; omega) | (rw [wrap64_id (by omega) (by omega)]; omega) | (simp; done) | (simp [spare_len]; done) | (exact ⟨by omega, by omega⟩))); (try simp only [hb, go_sem]))
    | (
        refine AWP.ret ?_
        refine AEnd.is ?_; simp only [go_sem, out_v, out_s, out_n, v_int, v_bool, v_str] <;> (first | rfl | (simp; done) | skip))
    | refine AWP.fin (by assumption) ?_
    | fail)


end Go.Proofs.YtajeeghgiilhiaaGreat
end
section
set_option linter.unusedVariables false
set_option linter.unusedSimpArgs false
namespace Go.Proofs.YtajeeghgiilhiaaGreat
open Go Go.Abs Go.RowKit Go.Bk
theorem fr_rv {b : Bk} (hb : rightBk b = true) (h1 : b.orders.length ≤ 64) : rightV ⟨b, [], 0, false⟩ 0 = true := by
  have h2 : rightO [] = true := by decide
  simp [rightV, hb, h2, h1]
section
variable {buy : Bool} {q p : Int} (hq : 1 ≤ q ∧ q ≤ 1073741824) (hp : 0 ≤ p ∧ p ≤ 999)
include hq hp
theorem fr_told1 : toldG (Gv ⟨emptyB, [Oq buy q p 0 true], 0, false⟩) 0 (Xq [110] [] 1 buy q p) = (Gv ⟨B1 buy q p, [], 0, false⟩, 1, 0) := by
  have hr : rightV ⟨emptyB, [Oq buy q p 0 true], 0, false⟩ 0 = true := by
    have h1 : rightBk emptyB = true := by decide
    have h2 := fr_right (buy := buy) (d := 0) (o := true) hq hp (by omega)
    simp only [rightV, h1, h2]; simp [hasB, emptyB]
  exact told_d (k := 0) (x := Xq [110] [] 1 buy q p) (fr_at hr) rfl (fr_come1 hq hp) (.inl rfl) (p := 0) (by simp [sentF, fitsO])
theorem fr_told2 {f : Int} (hf : 1 ≤ f ∧ f ≤ q) : toldG (Gv ⟨B1 buy q p, [], 0, false⟩) 0 (Xq [102] [] 2 buy f p) = (Gv ⟨B2 buy q p f, [], 0, false⟩, 1, 0) :=
  told_c1 (k := 0) (x := Xq [102] [] 2 buy f p) (fr_at (fr_rv (fr_bk (d := 0) (o := true) (fs := []) (ids := [[110]]) (bad := 0) hq hp (by omega) (by omega) (by decide) (by decide) (.inl rfl)) (by simp))) rfl (fr_come2 hq hp hf) (by simp)
theorem fr_told3 {f : Int} (hf : 1 ≤ f ∧ f ≤ q) : toldG (Gv ⟨B2 buy q p f, [], 0, false⟩) 0 (Xq [98] [102] 7 buy f p) = (Gv ⟨B3 buy q p f, [], 0, false⟩, 1, 0) :=
  told_c1 (k := 0) (x := Xq [98] [102] 7 buy f p) (fr_at (fr_rv (fr_bk (d := f) (o := decide (f < q)) (fs := [Dq buy f p true]) (ids := [[110], [102]]) (bad := 0) hq hp (by omega) (by omega) (by decide) (by decide) (.inr ⟨_, _, rfl, by omega, by omega, by decide⟩)) (by simp))) rfl (fr_come3 hq hp hf) (by simp)
theorem fr_told4 {d n : Int} {o : Bool} {fs : List Dn} {ids : List Bs} (hd : 0 ≤ d ∧ d ≤ q) (hn : 0 ≤ n ∧ n ≤ q) (hl : ids.length < 200) (hnd : ids.Nodup) (h99 : [99] ∉ ids) (hf : fs = [] ∨ ∃ n l, fs = [Dq buy n p l] ∧ 0 ≤ n ∧ n ≤ q ∧ [102] ∈ ids) (X : Int) (hX : (fs = [] ∧ X = 0) ∨ (∃ n, fs = [Dq buy n p true] ∧ X = n) ∨ (∃ n, fs = [Dq buy n p false] ∧ X = 0)) :
    ∃ g k, toldG (Gv ⟨⟨[Oq buy q p d o], fs, ids, 0, 0⟩, [], 0, false⟩) 0 (Xq [99] [] 3 buy n p) = (g, k, 0) ∧ GtSm g ∧ (k = 1 ∨ k = 3) ∧ (if buy then (worstR g [97] [115]).1 else (worstR g [97] [115]).2) = X := by
  have hfl : fs.length ≤ 1 := by rcases hf with rfl | ⟨_, _, rfl, _⟩ <;> simp
  have hb := fr_bk (d := d) (o := o) (fs := fs) (ids := ids) (bad := 0) hq hp hd (by omega) (by omega) hnd hf
  have hat := fr_at (fr_rv hb (by simp))
  have hc := fr_come4 (d := d) (o := o) (n := n) (fs := fs) (ids := ids) hq hp hd hn (by omega) hnd h99 hf
  have hf2 : fs = [] ∨ ∃ n l, fs = [Dq buy n p l] ∧ 0 ≤ n ∧ n ≤ q ∧ [102] ∈ ids ++ [[99]] := by
    rcases hf with h | ⟨n, l, h1, h2, h3, h4⟩
    · exact .inl h
    · exact .inr ⟨n, l, h1, h2, h3, by simp [h4]⟩
  have hnd2 : (ids ++ [[99]]).Nodup := by
    rw [List.nodup_append]
    exact ⟨hnd, by simp, fun a ha b hb e => by simp at hb; subst hb; subst e; exact h99 ha⟩
  have hl2 : (ids ++ [[99]]).length ≤ 256 := by simp; omega
  have hwr : ∀ (o2 : Bool) (bad : Int), 0 ≤ bad ∧ bad ≤ 6 → rightG (Gv ⟨⟨[Oq buy q p d o2], fs, ids ++ [[99]], 0, bad⟩, [], 0, false⟩) = true := fun o2 bad hbad => by
    have h1 := fr_at (fr_rv (fr_bk (buy := buy) (d := d) (o := o2) (fs := fs) (ids := ids ++ [[99]]) hq hp hd hbad hl2 hnd2 hf2) (by simp))
    simp only [isAtB, Bool.and_eq_true] at h1
    exact h1.2
  have hsm : ∀ (o2 : Bool) (bad : Int), GtSm (Gv ⟨⟨[Oq buy q p d o2], fs, ids ++ [[99]], 0, bad⟩, [], 0, false⟩) := fun o2 bad => sm_one ⟨by simp, by simp only; omega, by simp; omega, by simp⟩ (by decide)
  cases o with
  | true =>
    refine ⟨_, _, told_c1 (k := 0) hat rfl hc (by simp), hsm false 0, .inl rfl, ?_⟩
    have hr := hwr false 0 (by omega)
    show (if buy then (worstR (Gv ⟨⟨[Oq buy q p d false], fs, ids ++ [[99]], 0, 0⟩, [], 0, false⟩) [97] [115]).1 else (worstR (Gv ⟨⟨[Oq buy q p d false], fs, ids ++ [[99]], 0, 0⟩, [], 0, false⟩) [97] [115]).2) = X
    simp only [worstR, hr, if_true]
    exact fr_worst hq hp hd (bad := 0) (by omega) hl2 hnd2 hf2 (.inr trivial) X hX rfl
  | false =>
    refine ⟨_, _, told_c3 (k := 0) (p := 0) hat rfl hc (fun h => absurd h (by simp)), hsm false 2, .inr rfl, ?_⟩
    have hr := hwr false 2 (by omega)
    show (if buy then (worstR (Gv ⟨⟨[Oq buy q p d false], fs, ids ++ [[99]], 0, 2⟩, [], 0, false⟩) [97] [115]).1 else (worstR (Gv ⟨⟨[Oq buy q p d false], fs, ids ++ [[99]], 0, 2⟩, [], 0, false⟩) [97] [115]).2) = X
    simp only [worstR, hr, if_true]
    exact fr_worst hq hp hd (bad := 2) (by omega) hl2 hnd2 hf2 (.inr trivial) X hX rfl
theorem gorda_k : ACalls E 29 [gtV Ga, i64 0, odV (Oq buy q p 0 false)] (fun r t => r = .tup [gtV (Gv ⟨emptyB, [Oq buy q p 0 true], 0, false⟩), i64 0, i64 0] ∧ t = []) := by
  have h := gorder_c Ga 0 (Oq buy q p 0 false) sm_Ga
  rw [fr_order hq hp] at h; exact h
theorem gtold1_k  : ACalls E 30 [gtV (Gv ⟨emptyB, [Oq buy q p 0 true], 0, false⟩), i64 0, exV (Xq [110] [] 1 buy q p)] (fun r t => r = .tup [gtV (Gv ⟨B1 buy q p, [], 0, false⟩), i64 1, i64 0] ∧ t = []) := by
  have h := gtold_c (Gv ⟨emptyB, [Oq buy q p 0 true], 0, false⟩) 0 (Xq [110] [] 1 buy q p) (sm_one ⟨by simp [emptyB], by simp [emptyB], by simp [emptyB], by simp⟩ (by decide))
  rw [fr_told1 hq hp] at h; exact h
theorem gtold2_k {f : Int} (hf : 1 ≤ f ∧ f ≤ q) : ACalls E 30 [gtV (Gv ⟨B1 buy q p, [], 0, false⟩), i64 0, exV (Xq [102] [] 2 buy f p)] (fun r t => r = .tup [gtV (Gv ⟨B2 buy q p f, [], 0, false⟩), i64 1, i64 0] ∧ t = []) := by
  have h := gtold_c (Gv ⟨B1 buy q p, [], 0, false⟩) 0 (Xq [102] [] 2 buy f p) (sm_one ⟨by simp, by simp, by simp, by simp⟩ (by decide))
  rw [fr_told2 hq hp hf] at h; exact h
theorem gtold3_k {f : Int} (hf : 1 ≤ f ∧ f ≤ q) : ACalls E 30 [gtV (Gv ⟨B2 buy q p f, [], 0, false⟩), i64 0, exV (Xq [98] [102] 7 buy f p)] (fun r t => r = .tup [gtV (Gv ⟨B3 buy q p f, [], 0, false⟩), i64 1, i64 0] ∧ t = []) := by
  have h := gtold_c (Gv ⟨B2 buy q p f, [], 0, false⟩) 0 (Xq [98] [102] 7 buy f p) (sm_one ⟨by simp, by simp, by simp, by simp⟩ (by decide))
  rw [fr_told3 hq hp hf] at h; exact h
theorem gtold4_a  : ACalls E 30 [gtV (Gv ⟨B1 buy q p, [], 0, false⟩), i64 0, exV (Xq [99] [] 3 buy q p)] (fun r t => (∃ g k, r = .tup [gtV g, i64 k, i64 0] ∧ GtSm g ∧ (k = 1 ∨ k = 3) ∧ (if buy then (worstR g [97] [115]).1 else (worstR g [97] [115]).2) = 0) ∧ t = []) := by
  obtain ⟨g, k, h1, h2, h3, h4⟩ := fr_told4 (buy := buy) (d := 0) (n := q) (o := true) (fs := []) (ids := [[110]]) hq hp (by omega) (by omega) (by decide) (by decide) (by decide) (.inl rfl) 0 (.inl ⟨rfl, rfl⟩)
  refine (gtold_c (Gv ⟨B1 buy q p, [], 0, false⟩) 0 (Xq [99] [] 3 buy q p) (sm_one ⟨by simp, by simp, by simp, by simp⟩ (by decide))).mono ?_
  rintro r t ⟨rfl, rfl⟩
  exact ⟨⟨g, k, by rw [h1], h2, h3, h4⟩, rfl⟩
theorem gtold4_b {f : Int} (hf : 1 ≤ f ∧ f ≤ q) : ACalls E 30 [gtV (Gv ⟨B2 buy q p f, [], 0, false⟩), i64 0, exV (Xq [99] [] 3 buy f p)] (fun r t => (∃ g k, r = .tup [gtV g, i64 k, i64 0] ∧ GtSm g ∧ (k = 1 ∨ k = 3) ∧ (if buy then (worstR g [97] [115]).1 else (worstR g [97] [115]).2) = f) ∧ t = []) := by
  obtain ⟨g, k, h1, h2, h3, h4⟩ := fr_told4 (buy := buy) (d := f) (n := f) (o := decide (f < q)) (fs := [Dq buy f p true]) (ids := [[110], [102]]) hq hp (by omega) (by omega) (by decide) (by decide) (by decide) (.inr ⟨_, _, rfl, by omega, by omega, by decide⟩) f (.inr (.inl ⟨_, rfl, rfl⟩))
  refine (gtold_c (Gv ⟨B2 buy q p f, [], 0, false⟩) 0 (Xq [99] [] 3 buy f p) (sm_one ⟨by simp, by simp, by simp, by simp⟩ (by decide))).mono ?_
  rintro r t ⟨rfl, rfl⟩
  exact ⟨⟨g, k, by rw [h1], h2, h3, h4⟩, rfl⟩
theorem gtold4_c {f : Int} (hf : 1 ≤ f ∧ f ≤ q) : ACalls E 30 [gtV (Gv ⟨B3 buy q p f, [], 0, false⟩), i64 0, exV (Xq [99] [] 3 buy f p)] (fun r t => (∃ g k, r = .tup [gtV g, i64 k, i64 0] ∧ GtSm g ∧ (k = 1 ∨ k = 3) ∧ (if buy then (worstR g [97] [115]).1 else (worstR g [97] [115]).2) = 0) ∧ t = []) := by
  obtain ⟨g, k, h1, h2, h3, h4⟩ := fr_told4 (buy := buy) (d := f) (n := f) (o := decide (f < q)) (fs := [Dq buy f p false]) (ids := [[110], [102], [98]]) hq hp (by omega) (by omega) (by decide) (by decide) (by decide) (.inr ⟨_, _, rfl, by omega, by omega, by decide⟩) 0 (.inr (.inr ⟨_, rfl, rfl⟩))
  refine (gtold_c (Gv ⟨B3 buy q p f, [], 0, false⟩) 0 (Xq [99] [] 3 buy f p) (sm_one ⟨by simp, by simp, by simp, by simp⟩ (by decide))).mono ?_
  rintro r t ⟨rfl, rfl⟩
  exact ⟨⟨g, k, by rw [h1], h2, h3, h4⟩, rfl⟩
end

set_option maxHeartbeats 4000000 in
set_option maxRecDepth 8000 in
theorem frees_c (buy : Bool) (z1 z2 z3 : Int) (bust : Bool) (h10 : 0 ≤ z1) (h11 : z1 < 4294967296) (h20 : 0 ≤ z2) (h21 : z2 < 4294967296) (h30 : 0 ≤ z3) (h31 : z3 < 65536) : ACalls E 4 [bl buy, .v (.int .u32 z1), .v (.int .u32 z2), .v (.int .u16 z3), bl bust] (fun r t => r = bl true ∧ t = []) := by -- checkroll/checkrolllaw19.GateFrees
  have e1 : z1.tmod 1073741824 = z1 % 1073741824 := Int.tmod_eq_emod_of_nonneg h10
  have e3 : z3.tmod 1000 = z3 % 1000 := Int.tmod_eq_emod_of_nonneg h30
  obtain ⟨q, hqe, hq⟩ : ∃ q : Int, IntKind.i64.wrap (IntKind.i64.wrap (z1.tmod 1073741824) + 1) = q ∧ 1 ≤ q ∧ q ≤ 1073741824 := ⟨z1 % 1073741824 + 1, by rw [e1, wrap64_id (x := z1 % 1073741824) (by omega) (by omega), wrap64_id (by omega) (by omega)], by omega, by omega⟩
  have hq1 : IntKind.i64.wrap (q + 1) = q + 1 := wrap64_id (by omega) (by omega)
  have hwz : IntKind.i64.wrap z2 = z2 := wrap64_id (by omega) (by omega)
  obtain ⟨f, hfe, hf⟩ : ∃ f : Int, z2.tmod (q + 1) = f ∧ 0 ≤ f ∧ f ≤ q := ⟨z2 % (q + 1), Int.tmod_eq_emod_of_nonneg h20, Int.emod_nonneg _ (by omega), by have := Int.emod_lt_of_pos z2 (show 0 < q + 1 by omega); omega⟩
  obtain ⟨p, hpe, hp⟩ : ∃ p : Int, IntKind.i64.wrap (z3.tmod 1000) = p ∧ 0 ≤ p ∧ p ≤ 999 := ⟨z3 % 1000, by rw [e3, wrap64_id (by omega) (by omega)], by omega, by omega⟩
  refine ACalls.of_awp (n := 167) (rs := [.tmp 10]) Tryz.func4 rfl Tryz.ntmps4 rfl ?_
  repeat' (first
    | refine AWP.seqk fun K hK => ?_
    | (refine AWP.region ?_; simp only [go_sem, hqe, hq1, hwz, hfe, hpe])
    | (refine hK _ ?_; clear hK K)
    | refine AWP.block ?_
    | refine AWP.cond rfl (fun c => ?_) (fun c => ?_) <;> first | exact Bool.noConfusion c | (try simp only [dD] at c)
    | refine AWP.skip ?_
    | (refine AWP.exit ?_; simp only [go_sem, hqe, hq1, hwz, hfe, hpe])
    | (refine ACall.one (awake19_c) (by kernel_rfl) rfl ?_; simp only [go_sem, hqe, hq1, hwz, hfe, hpe])
    | (refine ACall.one (gnew_k) (by kernel_rfl) rfl ?_; simp only [go_sem, hqe, hq1, hwz, hfe, hpe])
    | (refine ACall.one (glima_k) (by kernel_rfl) rfl ?_; simp only [go_sem, hqe, hq1, hwz, hfe, hpe])
    | (refine ACall.one (gorda_k hq hp) (by kernel_rfl) rfl ?_; simp only [go_sem, hqe, hq1, hwz, hfe, hpe])
    | (refine ACall.one (gtold1_k hq hp) (by kernel_rfl) rfl ?_; simp only [go_sem, hqe, hq1, hwz, hfe, hpe])
    | (refine ACall.one (gtold2_k hq hp ⟨by omega, by omega⟩) (by kernel_rfl) rfl ?_; simp only [go_sem, hqe, hq1, hwz, hfe, hpe])
    | (refine ACall.one (gtold3_k hq hp ⟨by omega, by omega⟩) (by kernel_rfl) rfl ?_; simp only [go_sem, hqe, hq1, hwz, hfe, hpe])
    | (refine ACall.of (gtold4_a hq hp) (by kernel_rfl) rfl ?_; rintro r t ⟨⟨g4, k4, rfl, hs4, hk4, hw4⟩, rfl⟩; simp only [go_sem, hqe, hq1, hwz, hfe, hpe])
    | (refine ACall.of (gtold4_b hq hp ⟨by omega, by omega⟩) (by kernel_rfl) rfl ?_; rintro r t ⟨⟨g4, k4, rfl, hs4, hk4, hw4⟩, rfl⟩; simp only [go_sem, hqe, hq1, hwz, hfe, hpe])
    | (refine ACall.of (gtold4_c hq hp ⟨by omega, by omega⟩) (by kernel_rfl) rfl ?_; rintro r t ⟨⟨g4, k4, rfl, hs4, hk4, hw4⟩, rfl⟩; simp only [go_sem, hqe, hq1, hwz, hfe, hpe])
    | (refine ACall.one (gWorst_r g4 [97] [115] hs4.fit) (by kernel_rfl) rfl ?_; simp only [go_sem, hqe, hq1, hwz, hfe, hpe])
    | (refine AGuard.splitN (fun h => ?_) (fun h => ?_) <;> simp only [h, go_sem, hqe, hq1, hwz, hfe, hpe] <;> (try simp only [dD] at h))
    | (refine AGuard.split (fun h => ?_) (fun h => ?_) <;> simp only [h, go_sem, hqe, hq1, hwz, hfe, hpe] <;> (try simp only [dD] at h))
    | (refine AGet.haveM (by assumption) ?_; (try simp only [go_sem, hqe, hq1, hwz, hfe, hpe]))
    | (refine AGet.have' (by assumption) ?_; (try simp only [go_sem, hqe, hq1, hwz, hfe, hpe]))
    | ((first | refine AGet.nth ?_ (fun b hb => ?_) | refine AGet.nth1 ?_ (fun b hb => ?_) | with_reducible refine And.intro ?_ ?_); (focus (first | omega | assumption | exact List.length_pos_iff.2 (by assumption) | (simp only [List.length_append, List.length_cons, List.length_nil, List.length_map, List.length_take, List.length_drop] at *; omega) | (rw [wrap64_id (by omega) (by omega)]; omega) | (simp; done) | (simp [spare_len]; done) | (exact ⟨by omega, by omega⟩))); (try simp only [hb, go_sem, hqe, hq1, hwz, hfe, hpe]))
    | (
        refine AWP.ret ?_
        refine AEnd.is ?_; simp only [go_sem, out_v, out_s, out_n, v_int, v_bool, v_str] <;> (first | rfl | (exfalso; omega) | (have hw5 := hw4; simp only [c, if_true, if_false, Bool.false_eq_true] at hw5; simp [hw5]; done) | (have hw5 := hw4; simp only [c, if_true, if_false, Bool.false_eq_true] at hw5; simp [hw5]; omega) | (simp [*]; done) | skip))
    | (refine And.intro (by omega) ?_)
    | (exfalso; omega)
    | refine AWP.fin (by assumption) ?_
    | fail)


end Go.Proofs.YtajeeghgiilhiaaGreat
end
section
/- How a law's arguments are read: lists of executions, of bytes. -/
namespace Go.Proofs.YtajeeghgiilhiaaGreat
open Go.ChangeShapes Go.WideShapes Go.ChangeAt Go.RowKit Go.Joins Go.Abs Go.Bk
set_option linter.unusedVariables false
set_option linter.unusedSimpArgs false
section
variable {H : Type} {enc : TypeId × Value → H}
variable {w : World} {r : Reach} {b0 base : Nat} {spare : Nat → Bool} {held : Bool} {v : Value} {d : DataW H} {ps : List MemPlace}
end

theorem own : ownKnob Tryz.prog.godebug = none := by kernel_rfl
theorem laidOut : laidOutB Tryz.prog = true := by kernel_rfl
end Go.Proofs.YtajeeghgiilhiaaGreat
end
section
/- The reading of numbers and truth values. -/
namespace Go.Proofs.YtajeeghgiilhiaaGreat
open Go.ChangeShapes Go.WideShapes Go.ChangeAt Go.RowKit Go.Joins Go.Abs Go.Bk
set_option linter.unusedVariables false
set_option linter.unusedSimpArgs false
section
variable {H : Type} {enc : TypeId × Value → H}
variable {w : World} {r : Reach} {b0 base : Nat} {spare : Nat → Bool} {held : Bool} {v : Value} {d : DataW H} {ps : List MemPlace}
set_option maxRecDepth 100000 in
theorem arg_bl (hv : Value.okWide Tryz.prog w r b0 4 v) (hd : DataW.Trod enc Tryz.prog w base spare held 4 v d ps) : ∃ b : Bool, VR0 (imOf w) (bl b) v := arg_bool Tryz.underlying4 hv hd
set_option maxRecDepth 100000 in
theorem arg_u32 (hv : Value.okWide Tryz.prog w r b0 53 v) (hd : DataW.Trod enc Tryz.prog w base spare held 53 v d ps) : ∃ z : Int, (0 ≤ z ∧ z < 4294967296) ∧ VR0 (imOf w) (.v (.int .u32 z)) v := by
  obtain ⟨n, hn, hx⟩ := arg_int Tryz.underlying53 hv hd
  refine ⟨n, ?_, hx⟩
  simp only [Lit.wf, Bool.and_eq_true, decide_eq_true_eq] at hn
  simp only [IntKind.min, IntKind.max, IntKind.bits, IntKind.signed] at hn
  simp at hn
  omega
set_option maxRecDepth 100000 in
theorem arg_u16 (hv : Value.okWide Tryz.prog w r b0 54 v) (hd : DataW.Trod enc Tryz.prog w base spare held 54 v d ps) : ∃ z : Int, (0 ≤ z ∧ z < 65536) ∧ VR0 (imOf w) (.v (.int .u16 z)) v := by
  obtain ⟨n, hn, hx⟩ := arg_int Tryz.underlying54 hv hd
  refine ⟨n, ?_, hx⟩
  simp only [Lit.wf, Bool.and_eq_true, decide_eq_true_eq] at hn
  simp only [IntKind.min, IntKind.max, IntKind.bits, IntKind.signed] at hn
  simp at hn
  omega
end
end Go.Proofs.YtajeeghgiilhiaaGreat
end
section
/- GateFrees: an order that was let in, told of and cancelled unfilled leaves what may come at the worst as it was; filled, it counts as much as before, on its side: the law answers true for every input. No condition. -/
namespace Go.Proofs.YtajeeghgiilhiaaGreat
open Go.ChangeShapes Go.WideShapes Go.ChangeAt Go.RowKit Go.Joins Go.Abs Go.Bk
set_option linter.unusedVariables false
set_option linter.unusedSimpArgs false

set_option maxRecDepth 100000 in
theorem gateFrees_lifted (os : Os) (started : os.Started) (H : Type) (enc : TypeId × Value → H) :
    ReturnsInHanded {} Tryz.checked os 4 .any (Rows.gateFreesSpec.pre6 enc Tryz.prog Tryz.f4 Rows.gateFreesRow.domain false) (Rows.gateFreesSpec.post enc Tryz.prog Tryz.f4 false true false false) := by
  refine returnsInHanded_of_change (C := Tryz.checked) own started (by kernel_rfl) Tryz.func4
    (ChangeSpec.witness6 (enc := enc) (C := Tryz.checked) false ⟨#[], #[.bool false, .int .u32 0, .int .u32 0, .int .u16 0, .bool false], []⟩ 8 (by kernel_rfl) (by kernel_rfl) (by kernel_rfl) (by kernel_rfl)) ?_
  intro W base args ds gs before hval0 hW hcnd _
  have hval : ∀ (j : Nat) t v, Tryz.f4.params[j]? = some t → args[j]? = some v → Value.okWide Tryz.prog W .any base t v := hval0
  have hW' := hW
  obtain ⟨p, q, hA0, hV, rfl, hfz, hnd⟩ := hW
  have hA : DataW.TrodAll enc Tryz.prog W 0 (fun _ => true) true Tryz.f4.params.toList args.toList ds p := hA0
  rw [Tryz.params4] at hA hval
  obtain ⟨rfl, rfl⟩ := trodVars_none hV
  obtain ⟨v0, vs0, d0, ds0, p0, q0, e0, rfl, rfl, h0, hA⟩ := trodAll_cons hA
  obtain ⟨v1, vs1, d1, ds1, p1, q1, rfl, rfl, rfl, h1, hA⟩ := trodAll_cons hA
  obtain ⟨v2, vs2, d2, ds2, p2, q2, rfl, rfl, rfl, h2, hA⟩ := trodAll_cons hA
  obtain ⟨v3, vs3, d3, ds3, p3, q3, rfl, rfl, rfl, h3, hA⟩ := trodAll_cons hA
  obtain ⟨v4, vs4, d4, ds4, p4, q4, rfl, rfl, rfl, h4, hA⟩ := trodAll_cons hA
  obtain ⟨rfl, rfl, rfl⟩ := trodAll_nil hA
  have hargs : args = #[v0, v1, v2, v3, v4] := by apply Array.ext'; simpa using e0
  subst hargs
  obtain ⟨buy, x0⟩ := arg_bl (hval 0 4 v0 rfl rfl) h0
  obtain ⟨z1, h1, x1⟩ := arg_u32 (hval 1 53 v1 rfl rfl) h1
  obtain ⟨z2, h2, x2⟩ := arg_u32 (hval 2 53 v2 rfl rfl) h2
  obtain ⟨z3, h3, x3⟩ := arg_u16 (hval 3 54 v3 rfl rfl) h3
  obtain ⟨bust, x4⟩ := arg_bl (hval 4 4 v4 rfl rfl) h4
  exact (calls_law (E := E) trivial (fun g cs e => by simp [E] at e) (frees_c buy z1 z2 z3 bust h1.1 h1.2 h2.1 h2.2 h3.1 h3.2) (pw0_cons x0 (pw0_cons x1 (pw0_cons x2 (pw0_cons x3 (pw0_cons x4 pw0_nil)))))).mono fun e W' ⟨he, hB⟩ => ⟨_, he, law_post laidOut (by kernel_rfl) rfl rfl Tryz.underlying4 hW' hB rfl⟩

set_option maxRecDepth 100000 in
theorem gateFrees_holds : Rows.GateFreesSaid :=
  OpenClaim.holds_of_wide 4 Tryz.f4 rfl rfl rfl rfl rfl rfl rfl ⟨rfl, rfl, rfl, rfl, rfl⟩ rfl rfl rfl rfl rfl (by kernel_rfl) Tryz.func4 (by kernel_rfl)
    (of_decide_eq_true (by kernel_rfl)) (by unfold Func.isWrapper; first | (rw [if_pos (by decide +kernel)]; kernel_rfl) | (rw [if_neg (by decide +kernel)]; exact ⟨rfl, rfl⟩))
    (fun os started H enc _ => gateFrees_lifted os started H enc)
end Go.Proofs.YtajeeghgiilhiaaGreat
end
