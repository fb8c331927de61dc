import Derived.Test.YtlhdnenlgceeeaaQ13
import Derived.Test.YtlhdnenlgceeeaaBkQ
set_option linter.unusedVariables false
set_option linter.unusedSimpArgs false
namespace Go.Proofs.Ytlhdnenlgceeeaa
open Go Go.Abs Go.RowKit Go.Bk
theorem nl {v : Bool} {p : Prop} (h : v = true) (h2 : ¬ p) : ¬ (v = false ∨ p) := by simp [h, h2]

set_option maxHeartbeats 4000000 in
set_option maxRecDepth 8000 in
theorem r12amend_c (bk : Bk) (x : Ex) (hr : rightO bk.orders = true) (hs : smallB x.price = true) (hf : bk.fills.length ≤ 1000000) (hft : ∀ f ∈ bk.fills, 0 ≤ f.time ∧ f.time ≤ 4611686018427387904) : ACalls E 122 [bkV bk, exV x] (fun r t => r = .tup [bkV (amendF bk x).1, i64 (amendF bk x).2] ∧ t = []) := by -- checkroll/checkrollref12.amend
  have hol := right_len hr
  refine ACalls.of_awp (n := 132) (rs := [.cell 4 32, .tmp 5]) Try.func122 rfl Try.ntmps122 rfl ?_
  repeat' (first
    | refine AWP.seqk fun K hK => ?_
    | (refine AWP.region ?_; simp only [go_sem])
    | (refine AWP.here 2 14 23 rfl ?_; refine AWP.regionO [0, 1, 2, 3, 4, 5, 6, 7, 8, 9, 10, 11, 12, 13, 14, 15, 16, 17, 18, 19, 20, 21, 22] [] (by kernel_rfl) (by kernel_rfl) rfl ?_; simp only [go_sem])
    | (refine AWP.here 12 85 33 rfl ?_; refine AWP.regionO [0, 1, 2, 3, 4, 5, 6, 7, 8, 9, 10, 11, 12, 13, 14, 15, 16, 17, 18, 19, 20, 21, 22, 23, 24, 25, 26, 27, 28, 29, 30, 31, 32] [] (by kernel_rfl) (by kernel_rfl) rfl ?_; simp only [go_sem])
    | (refine hK _ ?_; clear hK K)
    | refine AWP.block ?_
    | refine AWP.cond rfl (fun c => ?_) (fun c => ?_) <;> first | exact Bool.noConfusion c | (try simp only [dD] at c)
    | refine AWP.skip ?_
    | (refine AWP.exit ?_; simp only [go_sem])
    | (refine ACall.one (r12at_c _ _ (by first | assumption | omega | (simp only [List.length_take]; omega))) (by kernel_rfl) rfl ?_; simp only [go_sem])
    | (refine ACall.one (r11at_c _ _ (by first | assumption | omega | (simp only [List.length_take]; omega))) (by kernel_rfl) rfl ?_; simp only [go_sem])
    | (refine ACall.of (r12with_c bk.fills n ⟨f.id, f.ord, f.acc, f.sym, f.buy, f.qty, f.price, f.time, false⟩ (by assumption) (by assumption)) (by kernel_rfl) rfl ?_; rintro r t ⟨rfl, rfl⟩; simp only [go_sem])
    | (refine ACall.of (r12with_c bk.fills n ⟨f.id, f.ord, f.acc, f.sym, true, f.qty, f.price, f.time, false⟩ (by assumption) (by assumption)) (by kernel_rfl) rfl ?_; rintro r t ⟨rfl, rfl⟩; simp only [go_sem])
    | (refine ACall.of (r12with_c bk.fills n ⟨f.id, f.ord, f.acc, f.sym, false, f.qty, f.price, f.time, false⟩ (by assumption) (by assumption)) (by kernel_rfl) rfl ?_; rintro r t ⟨rfl, rfl⟩; simp only [go_sem])
    | (refine ACall.of (r12with_c bk.fills n ⟨f.id, f.ord, f.acc, f.sym, f.buy, x.qty, x.price, f.time, f.live⟩ (by assumption) (by assumption)) (by kernel_rfl) rfl ?_; rintro r t ⟨rfl, rfl⟩; simp only [go_sem])
    | (refine ACall.of (r12with_c bk.fills n ⟨f.id, f.ord, f.acc, f.sym, f.buy, x.qty, x.price, f.time, true⟩ (by assumption) (by assumption)) (by kernel_rfl) rfl ?_; rintro r t ⟨rfl, rfl⟩; simp only [go_sem])
    | (refine ACall.of (r12with_c bk.fills n ⟨f.id, f.ord, f.acc, f.sym, true, x.qty, x.price, f.time, f.live⟩ (by assumption) (by assumption)) (by kernel_rfl) rfl ?_; rintro r t ⟨rfl, rfl⟩; simp only [go_sem])
    | (refine ACall.of (r12with_c bk.fills n ⟨f.id, f.ord, f.acc, f.sym, true, x.qty, x.price, f.time, true⟩ (by assumption) (by assumption)) (by kernel_rfl) rfl ?_; rintro r t ⟨rfl, rfl⟩; simp only [go_sem])
    | (refine ACall.of (r12with_c bk.fills n ⟨f.id, f.ord, f.acc, f.sym, false, x.qty, x.price, f.time, f.live⟩ (by assumption) (by assumption)) (by kernel_rfl) rfl ?_; rintro r t ⟨rfl, rfl⟩; simp only [go_sem])
    | (refine ACall.of (r12with_c bk.fills n ⟨f.id, f.ord, f.acc, f.sym, false, x.qty, x.price, f.time, true⟩ (by assumption) (by assumption)) (by kernel_rfl) rfl ?_; rintro r t ⟨rfl, rfl⟩; simp only [go_sem])
    | (refine AGuard.splitN (fun h => ?_) (fun h => ?_) <;> simp only [h, go_sem] <;> (try simp only [dD] at h))
    | (refine AGuard.split (fun h => ?_) (fun h => ?_) <;> simp only [h, go_sem] <;> (try simp only [dD] at h))
    | (refine AGet.haveM (by assumption) ?_; (try simp only [go_sem]))
    | (refine AGet.have' (by assumption) ?_; (try simp only [go_sem]))
    | ((first | refine AGet.nth ?_ (fun b hb => ?_) | refine AGet.nth1 ?_ (fun b hb => ?_) | with_reducible refine And.intro ?_ ?_); (focus (first | omega | assumption | exact List.length_pos_iff.2 (by assumption) | (simp only [List.length_append, List.length_cons, List.length_nil, List.length_map, List.length_take, List.length_drop] at *; omega) | (rw [wrap64_id (by omega) (by omega)]; omega) | (simp; done) | (simp [spare_len]; done) | (exact ⟨by omega, by omega⟩))); (try simp only [hb, go_sem]))
    | (
        refine AWP.ret ?_
        refine AEnd.is ?_; simp only [go_sem, out_v, out_s, out_n, v_int, v_bool, v_str] <;> (first
        | (rw [am_none (by assumption)]; simp; done)
        | (rw [am_6 hpf hfn (.inl (by assumption))]; simp; done)
        | (rw [am_6 hpf hfn (.inr (by omega))]; simp; done)
        | (rw [am_3 hpf hfn (nl (by assumption) (by omega)) (by first | exact .inl (by assumption) | exact .inr (.inl (by assumption)) | exact .inr (.inr (.inl (by assumption))) | exact .inr (.inr (.inr (by assumption))))]; simp; done)
        | (rw [am_7 hpf hfn (nl (by assumption) (by omega)) (by rintro (h | h | h | h) <;> exact h (by assumption)) (by assumption)]; simp; done)
        | (rw [am_4 hpf hfn (nl (by assumption) (by omega)) (by rintro (h | h | h | h) <;> exact h (by assumption)) (by assumption) (by assumption)]; simp; done)
        | (rw [am_5a hpf hfn hr (nl (by assumption) (by omega)) (by rintro (h | h | h | h) <;> exact h (by assumption)) (by assumption) (by assumption) (by assumption)]; simp; done)
        | (rw [am_5b hpf hfn hr (nl (by assumption) (by omega)) (by rintro (h | h | h | h) <;> exact h (by assumption)) (by assumption) (by assumption) hq ho (.inl ⟨by assumption, by assumption⟩)]; simp; done)
        | (rw [am_5b hpf hfn hr (nl (by assumption) (by omega)) (by rintro (h | h | h | h) <;> exact h (by assumption)) (by assumption) (by assumption) hq ho (.inr ⟨by assumption, by assumption⟩)]; simp; done)
        | (have hbuy : f.buy = true := by assumption
           rw [am_8 hpf hfn hr hs (nl (by assumption) (by omega)) (by rintro (h | h | h | h) <;> exact h (by assumption)) (by assumption) (by assumption) hq ho (.inl ⟨hbuy, by assumption⟩)]; simp [hbuy]; done)
        | (have hbuy : f.buy = false := by assumption
           rw [am_8 hpf hfn hr hs (nl (by assumption) (by omega)) (by rintro (h | h | h | h) <;> exact h (by assumption)) (by assumption) (by assumption) hq ho (.inr ⟨hbuy, by assumption⟩)]; simp [hbuy]; done)
        | skip))
    | (obtain ⟨n, f, hp, hpf, hfn, hn⟩ := at_get (l := bk.fills) (id := x.ref) (by assumption); have hfm := hft f (List.mem_of_getElem? hfn); have hw : IntKind.i64.wrap (f.time + 10) = f.time + 10 := wrap64_id (by omega) (by omega); simp only [hp, hfn, hw, go_sem, Int.toNat_natCast])
    | (obtain ⟨m, o, hq, hqf, ho, hm⟩ := place_get (l := bk.orders) (id := f.ord) (by assumption); simp only [hq, ho, go_sem, Int.toNat_natCast])
    | refine AWP.fin (by assumption) ?_)


end Go.Proofs.Ytlhdnenlgceeeaa
