import Derived.Test.YtlhdnenlgceeeaaQ14
import Derived.Test.YtlhdnenlgceeeaaQ4
set_option linter.unusedVariables false
set_option linter.unusedSimpArgs false
namespace Go.Proofs.Ytlhdnenlgceeeaa
open Go Go.Abs Go.RowKit Go.Bk
theorem open_cl {l : List Od} {id : Bs} {n : Nat} {o : Od} (hpf : placeF l id = some n) (ho : l[n]? = some o) (h : o.opn = false) : openF l id = none := by rw [open_of hpf ho, h]; rfl
theorem open_op {l : List Od} {id : Bs} {n : Nat} {o : Od} (hpf : placeF l id = some n) (ho : l[n]? = some o) (h : o.opn = true) : openF l id = some n := by rw [open_of hpf ho, h]; rfl

set_option maxHeartbeats 8000000 in
set_option maxRecDepth 8000 in
theorem r12apply_c (bk : Bk) (x : Ex) (hr : rightO bk.orders = true) (hs : smallB x.price = true) (hf : bk.fills.length ≤ 100000) (hft : ∀ f ∈ bk.fills, 0 ≤ f.time ∧ f.time ≤ 4611686018427387904) : ACalls E 81 [bkV bk, exV x] (fun r t => r = .tup [bkV (applyR bk x).1, i64 (applyR bk x).2] ∧ t = []) := by -- checkroll/checkrollref12.apply
  have hol := right_len hr
  refine ACalls.of_awp (n := 178) (rs := [.cell 4 32, .tmp 5]) Try.func81 rfl Try.ntmps81 rfl ?_
  repeat' (first
    | refine AWP.seqk fun K hK => ?_
    | (refine AWP.region ?_; simp only [go_sem])
    | (refine AWP.here 24 127 24 rfl ?_; refine AWP.regionAnyT (.take 1 (.take 2 (.take 4 (.take 5 (.take 6 (.take 7 (.take 8 (.take 9 (.take 10 (.take 11 (.take 12 (.take 13 (.take 14 (.take 15 (.take 16 (.take 17 (.take 18 (.take 19 (.fork (.alt 0 (.fork (.alt 3 (.take 20 (.take 21 (.take 22 (.take 23 .done)))) (.alt 20 (.take 3 (.take 21 (.take 22 (.take 23 .done)))) .ends))) (.alt 20 (.take 0 (.take 3 (.take 21 (.take 22 (.take 23 .done))))) .ends))))))))))))))))))))) [[], [], [1], [0, 1, 2], [], [4], [], [], [7], [], [9], [], [11], [], [13], [], [15], [], [17], [4, 5, 6, 7, 8, 9, 10, 11, 12, 13, 14, 15, 16, 17, 18], [4, 5, 6, 7, 8, 9, 10, 11, 12, 13, 14, 15, 16, 17, 18, 19], [0, 1, 2, 3, 4, 5, 6, 7, 8, 9, 10, 11, 12, 13, 14, 15, 16, 17, 18, 19, 20], [0, 1, 2, 3, 4, 5, 6, 7, 8, 9, 10, 11, 12, 13, 14, 15, 16, 17, 18, 19, 20, 21], [0, 1, 2, 3, 4, 5, 6, 7, 8, 9, 10, 11, 12, 13, 14, 15, 16, 17, 18, 19, 20, 21, 22]] [] (by kernel_rfl) (by kernel_rfl) ?_; simp only [go_sem])
    | (refine hK _ ?_; clear hK K)
    | refine AWP.block ?_
    | refine AWP.cond rfl (fun c => ?_) (fun c => ?_) <;> first | exact Bool.noConfusion c | (try simp only [dD] at c)
    | refine AWP.skip ?_
    | (refine AWP.exit ?_; simp only [go_sem])
    | (refine ACall.one (r11new_c bk.orders (orderOf x) (by omega)) (by kernel_rfl) rfl ?_; simp only [go_sem])
    | (refine ACall.one (r12amend_c ⟨bk.orders, bk.fills, bk.ids, x.time, bk.bad⟩ x hr hs (by show bk.fills.length ≤ _; omega) hft) (by kernel_rfl) rfl ?_; simp only [go_sem])
    | (refine ACall.one (r11at_c _ _ (by first | assumption | omega | (simp only [List.length_take]; omega))) (by kernel_rfl) rfl ?_; simp only [go_sem])
    | (refine ACall.of (r11close_c bk.orders x.ord (by omega)) (by kernel_rfl) rfl ?_; rintro r t (⟨hr2, _⟩ | ⟨_, hop2, _⟩ | ⟨n2, o2, _, hp2, hop2, ho2, hopn2, rfl, rfl⟩); (exact absurd hr (by rw [hr2]; simp)); (exact absurd hop2 (by rw [open_of hpf ho]; simp [*]; done)); obtain rfl : n = n2 := (by omega); obtain rfl : o = o2 := (by rw [ho] at ho2; exact Option.some.inj ho2); simp only [go_sem])
    | (refine ACall.of (r11close_c bk.orders x.ref (by omega)) (by kernel_rfl) rfl ?_; rintro r t (⟨hr2, _⟩ | ⟨_, hop2, _⟩ | ⟨n2, o2, _, hp2, hop2, ho2, hopn2, rfl, rfl⟩); (exact absurd hr (by rw [hr2]; simp)); (exact absurd hop2 (by rw [open_of hpf ho]; simp [*]; done)); obtain rfl : n = n2 := (by omega); obtain rfl : o = o2 := (by rw [ho] at ho2; exact Option.some.inj ho2); simp only [go_sem])
    | (refine ACall.one (r11fill_c bk.orders x.ord x.qty x.price (by omega)) (by kernel_rfl) rfl ?_; simp only [go_sem])
    | (refine ACall.one (r11fill_c bk.orders x.ref x.qty x.price (by omega)) (by kernel_rfl) rfl ?_; simp only [go_sem])
    | (refine ACall.one (r11change_c bk.orders x.ref x.ord x.qty x.price (by omega)) (by kernel_rfl) rfl ?_; simp only [go_sem])
    | (refine AGuard.splitN (fun h => ?_) (fun h => ?_) <;> simp only [h, go_sem] <;> (try simp only [dD] at h))
    | (refine AGuard.split (fun h => ?_) (fun h => ?_) <;> simp only [h, go_sem] <;> (try simp only [dD] at h))
    | (refine AGet.haveM (by assumption) ?_; (try simp only [go_sem]))
    | (refine AGet.have' (by assumption) ?_; (try simp only [go_sem]))
    | ((first | refine AGet.nth ?_ (fun b hb => ?_) | refine AGet.nth1 ?_ (fun b hb => ?_) | with_reducible refine And.intro ?_ ?_); (focus (first | omega | assumption | exact List.length_pos_iff.2 (by assumption) | (simp only [List.length_append, List.length_cons, List.length_nil, List.length_map, List.length_take, List.length_drop] at *; omega) | (rw [wrap64_id (by omega) (by omega)]; omega) | (simp; done) | (simp [spare_len]; done) | (exact ⟨by omega, by omega⟩))); (try simp only [hb, go_sem]))
    | exact rfl
    | refine And.intro (a := ACall _ _ _ _ _ _ _ _) ?_ ?_
    | refine And.intro (a := AGet _ _) ?_ ?_
    | refine And.intro (a := AGuard _ _ _ _ _ _ _) ?_ ?_
    | (
        refine AWP.ret ?_
        refine AEnd.is ?_; simp only [go_sem, out_v, out_s, out_n, v_int, v_bool, v_str] <;> (first
        | (exfalso; omega)
        | (rw [aR_1 (by assumption)]; simp; done)
        | (rw [aR_new (by assumption) (by assumption) (by assumption)]; simp; done)
        | (rw [aR_new2 (by assumption) (by assumption) (by assumption)]; simp; done)
        | (rw [aR_am (by assumption) (by assumption) (by assumption)]; simp; done)
        | (rw [aR_none (by assumption) (by assumption) (by assumption) (id := x.ord) (if_neg (by assumption)) (open_lt (by assumption))]; simp; done)
        | (rw [aR_none (by assumption) (by assumption) (by assumption) (id := x.ref) (if_pos (by assumption)) (open_lt (by assumption))]; simp; done)
        | (rw [aR_none (by assumption) (by assumption) (by assumption) (id := x.ord) (if_neg (by assumption)) (open_cl hpf ho (by assumption))]; simp; done)
        | (rw [aR_none (by assumption) (by assumption) (by assumption) (id := x.ref) (if_pos (by assumption)) (open_cl hpf ho (by assumption))]; simp; done)
        | (rw [aR_3 (by assumption) (by assumption) (by assumption) (id := x.ord) (if_neg (by assumption)) hop2 ho (by first | exact .inl (by assumption) | exact .inr (.inl (by assumption)) | exact .inr (.inr (by assumption)))]; simp; done)
        | (rw [aR_3 (by assumption) (by assumption) (by assumption) (id := x.ref) (if_pos (by assumption)) hop2 ho (by first | exact .inl (by assumption) | exact .inr (.inl (by assumption)) | exact .inr (.inr (by assumption)))]; simp; done)
        | (rw [aR_3 (by assumption) (by assumption) (by assumption) (id := x.ord) (if_neg (by assumption)) (open_op hpf ho (by assumption)) ho (by first | exact .inl (by assumption) | exact .inr (.inl (by assumption)) | exact .inr (.inr (by assumption)))]; simp; done)
        | (rw [aR_3 (by assumption) (by assumption) (by assumption) (id := x.ref) (if_pos (by assumption)) (open_op hpf ho (by assumption)) ho (by first | exact .inl (by assumption) | exact .inr (.inl (by assumption)) | exact .inr (.inr (by assumption)))]; simp; done)
        | (rw [aR_close (by assumption) (by assumption) (by assumption) (id := x.ord) (if_neg (by assumption)) hop2 ho (by rintro (h | h | h) <;> exact h (by assumption)) hr (by assumption) (by assumption)]; simp; done)
        | (rw [aR_close (by assumption) (by assumption) (by assumption) (id := x.ref) (if_pos (by assumption)) hop2 ho (by rintro (h | h | h) <;> exact h (by assumption)) hr (by assumption) (by assumption)]; simp; done)
        | (rw [aR_fill (by assumption) (by assumption) (by assumption) (id := x.ord) (if_neg (by assumption)) hop2 ho (by rintro (h | h | h) <;> exact h (by assumption)) (by assumption) (by assumption)]; simp [doneOf]; done)
        | (rw [aR_fillE (by assumption) (by assumption) (by assumption) (id := x.ord) (if_neg (by assumption)) hop2 ho (by rintro (h | h | h) <;> exact h (by assumption)) (by assumption) (by omega)]; simp [doneOf, errR, *]; done)
        | (rw [aR_change (by assumption) (by assumption) (by assumption) (id := x.ref) (if_pos (by assumption)) hop2 ho (by rintro (h | h | h) <;> exact h (by assumption)) (by assumption) (by assumption)]; simp; done)
        | (rw [aR_changeE (by assumption) (by assumption) (by assumption) (id := x.ref) (if_pos (by assumption)) hop2 ho (by rintro (h | h | h) <;> exact h (by assumption)) (by assumption) (by omega)]; simp [errR, *]; done)
        | skip))
    | (exfalso; omega)
    | (obtain ⟨n, o, hp, hpf, ho, hn⟩ := place_get (l := bk.orders) (id := x.ord) (by assumption); simp only [hp, ho, go_sem, Int.toNat_natCast])
    | (obtain ⟨n, o, hp, hpf, ho, hn⟩ := place_get (l := bk.orders) (id := x.ref) (by assumption); simp only [hp, ho, go_sem, Int.toNat_natCast])
    | (refine And.intro ?_ ?_)
    | refine AWP.fin (by assumption) ?_)


end Go.Proofs.Ytlhdnenlgceeeaa
