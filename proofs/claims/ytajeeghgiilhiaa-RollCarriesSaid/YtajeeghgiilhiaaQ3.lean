import Derived.Test.YtajeeghgiilhiaaQ2
import Derived.Test.YtajeeghgiilhiaaLe
set_option linter.unusedVariables false
set_option linter.unusedSimpArgs false
namespace Go.Proofs.Ytajeeghgiilhiaa
open Go Go.Abs Go.RowKit Go.Bk
theorem twice_next {l : List Bs} {i : Nat} {p b : Bs} (hp : l[i]? = some p) (hb : l[i + 1]? = some b) (h : ¬ b = p) : twiceB (l.drop (i + 1)) = twiceB (l.drop i) := by
  rw [drop_of hp, drop_of hb]; simp [twiceB, h]
theorem twice_yes {l : List Bs} {i : Nat} {p b : Bs} (hp : l[i]? = some p) (hb : l[i + 1]? = some b) (h : b = p) : twiceB (l.drop i) = true := by
  rw [drop_of hp, drop_of hb]; simp [twiceB, h]
theorem twice_end {l : List Bs} {i : Nat} (h : l.length ≤ i + 1) : twiceB (l.drop i) = false := by
  cases hd : l.drop i with
  | nil => rfl
  | cons x m =>
    have := congrArg List.length hd
    rw [List.length_drop, List.length_cons] at this
    have : m = [] := List.eq_nil_of_length_eq_zero (by omega)
    subst this; rfl
theorem half_eq {i j : Nat} (h1 : i ≤ 1000000) (h2 : j ≤ 1000000) : IntKind.i64.wrap ((IntKind.u64.wrap (IntKind.i64.wrap ((i : Int) + j))).fdiv (2 ^ (min 1 64))) = (((i + j) / 2 : Nat) : Int) := by
  have e0 : IntKind.i64.wrap ((i : Int) + j) = (i : Int) + j := wrap64_id (by omega) (by omega)
  have e1 : IntKind.u64.wrap ((i : Int) + j) = ((i : Int) + j) := by
    simp only [IntKind.wrap, IntKind.bits, IntKind.signed]
    have : ((i : Int) + j) % 2 ^ 64 = ((i : Int) + j) := by omega
    simp only [this]; simp
  rw [e0, e1, show (2 : Int) ^ (min 1 64) = 2 by decide, Int.fdiv_eq_ediv_of_nonneg _ (by omega)]
  rw [wrap64_id (by omega) (by omega)]; omega
theorem lows {l : List Bs} {x y : Bs} {i m : Nat} (hs : l.Pairwise (fun a b => a ≤ b)) (h3 : ∀ k y, k < i → l[k]? = some y → y < x) (hb : l[m]? = some y) (h : y < x) : ∀ k y, k < m + 1 → l[k]? = some y → y < x := by
  intro k z hk hz
  rcases Nat.lt_or_ge k m with h' | h'
  · obtain ⟨hk1, rfl⟩ := List.getElem?_eq_some_iff.1 hz
    obtain ⟨hm1, rfl⟩ := List.getElem?_eq_some_iff.1 hb
    exact List.lt_of_le_of_lt (List.pairwise_iff_getElem.1 hs k m hk1 hm1 h') h
  · have : k = m := by omega
    subst this
    rw [hb] at hz; cases hz; exact h
theorem highs {l : List Bs} {x y : Bs} {j m : Nat} (hs : l.Pairwise (fun a b => a ≤ b)) (h4 : ∀ k y, j ≤ k → l[k]? = some y → ¬ y < x) (hb : l[m]? = some y) (h : ¬ y < x) : ∀ k y, m ≤ k → l[k]? = some y → ¬ y < x := by
  intro k z hk hz hc
  rcases Nat.lt_or_ge m k with h' | h'
  · obtain ⟨hk1, rfl⟩ := List.getElem?_eq_some_iff.1 hz
    obtain ⟨hm1, rfl⟩ := List.getElem?_eq_some_iff.1 hb
    exact h (List.lt_of_le_of_lt (List.pairwise_iff_getElem.1 hs m k hm1 hk1 h') hc)
  · have : k = m := by omega
    subst this
    rw [hb] at hz; cases hz; exact h hc
theorem found_yes {l : List Bs} {x y : Bs} {i : Nat} (h3 : ∀ k y, k < i → l[k]? = some y → y < x) (h4 : ∀ k y, i ≤ k → l[k]? = some y → ¬ y < x) (hs : l.Pairwise (fun a b => a ≤ b)) (hb : l[i]? = some y) : decide (x ∈ l) = decide (y = x) := by
  by_cases h : y = x
  · subst h; simp [List.mem_of_getElem? hb]
  · have : ¬ x ∈ l := fun hm => by
      obtain ⟨k, hk⟩ := List.mem_iff_getElem?.1 hm
      rcases Nat.lt_trichotomy k i with h' | h' | h'
      · exact List.lt_irrefl x (h3 k x h' hk)
      · subst h'; rw [hk] at hb; cases hb; exact h rfl
      · obtain ⟨hk1, e1⟩ := List.getElem?_eq_some_iff.1 hk
        obtain ⟨hm1, e2⟩ := List.getElem?_eq_some_iff.1 hb
        have := List.pairwise_iff_getElem.1 hs i k hm1 hk1 h'
        rw [e1, e2] at this
        have h5 := h4 i y (Nat.le_refl _) hb
        exact h (List.le_antisymm this (List.not_lt.1 h5))
    simp [this, h]
theorem found_no {l : List Bs} {x : Bs} {i : Nat} (hi : l.length ≤ i) (h3 : ∀ k y, k < i → l[k]? = some y → y < x) : decide (x ∈ l) = false := by
  simp only [decide_eq_false_iff_not]
  intro hm
  obtain ⟨k, hk⟩ := List.mem_iff_getElem?.1 hm
  exact List.lt_irrefl x (h3 k x (by have := get_lt hk; omega) hk)

set_option maxHeartbeats 4000000 in
set_option maxRecDepth 8000 in
theorem twice_c (l : List Bs) (hl : l.length ≤ 9223372036854775807) : ACalls E 33 [.sl none 1 (l.map str)] (fun r t => r = bl (twiceB l) ∧ t = []) := by -- checkroll/book.twice
  refine ACalls.of_awp (n := 20) (rs := [.tmp 2]) Try.func33 rfl Try.ntmps33 rfl ?_
  repeat' (first
    | refine AWP.seqk fun K hK => ?_
    | (
        refine AWP.here 4 10 10 rfl ?_
        have hlt : i + 1 < l.length := by omega
        obtain ⟨p, hp⟩ : ∃ p, l[i]? = some p := ⟨_, List.getElem?_eq_getElem (by omega)⟩
        refine AWP.regionO [0, 1, 2, 3, 4, 5, 6, 7, 8, 9] [] (by kernel_rfl) (by kernel_rfl) rfl ?_; simp only [go_sem, hw, hp]
        refine AGet.nth hlt (fun b hb => ?_)
        simp only [hb, go_sem, hw, hp])
    | (refine AWP.region ?_; simp only [go_sem])
    | (refine AWP.here 4 10 10 rfl ?_; refine AWP.regionO [0, 1, 2, 3, 4, 5, 6, 7, 8, 9] [] (by kernel_rfl) (by kernel_rfl) rfl ?_; simp only [go_sem])
    | (refine hK _ ?_; clear hK K)
    | refine AWP.block ?_
    | refine AWP.cond rfl (fun c => ?_) (fun c => ?_) <;> first | exact Bool.noConfusion c | (try simp only [dD] at c)
    | refine AWP.skip ?_
    | (refine AWP.exit ?_; simp only [go_sem])
    | (refine AGet.haveM (by assumption) ?_; (try simp only [go_sem]))
    | (refine AGet.have' (by assumption) ?_; (try simp only [go_sem]))
    | ((first | refine AGet.nth ?_ (fun b hb => ?_) | refine AGet.nth1 ?_ (fun b hb => ?_) | with_reducible refine And.intro ?_ ?_); (focus (first | omega | assumption | exact List.length_pos_iff.2 (by assumption) | (simp only [List.length_append, List.length_cons, List.length_nil, List.length_map, List.length_take, List.length_drop] at *; omega) | (rw [wrap64_id (by omega) (by omega)]; omega) | (simp; done) | (simp [spare_len]; done) | (exact ⟨by omega, by omega⟩))); (try simp only [hb, go_sem]))
    | (
        refine AWP.here 2 4 4 rfl ?_
        refine AWP.loopN (ι := Nat) [2, 4, 5, 6, 7, 8, 9, 10, 11, 12, 13, 14, 15, 16, 17, 18, 19] (fun (i : Nat) => [(3, i64 (i + 1 : Nat))]) (fun (i : Nat) => i ≤ l.length ∧ twiceB (l.drop i) = twiceB l) (fun (i : Nat) => l.length - i) (0) ?_ ?_ ?_
        · (try simp only [go_sem]); (repeat' (first | refine And.intro ?_ ?_ | exact .inl rfl | exact .inr rfl | exact .inr ⟨rfl, rfl⟩ | trivial | (simp; done)))
        · exact ⟨by omega, rfl⟩
        rintro i ⟨h1, h2⟩
        simp only [go_sem]
        have hw : (IntKind.i64.wrap (((i + 1 : Nat) : Int) - 1)) = (i : Int) := by rw [wrap64_id (by omega) (by omega)]; omega)
    | (
        refine ⟨i + 1, ?_, ?_, ?_⟩
        · (try simp only [go_sem]); (try rw [wrap64_id (by omega) (by omega)]); (first | (simp; omega) | (simp; done))
        · exact ⟨by omega, by rw [← h2]; exact twice_next hp hb (by assumption)⟩
        · (try simp only []); omega)
    | (
        refine AWP.ret ?_
        refine AEnd.is ?_; simp only [go_sem, out_v, out_s, out_n, v_int, v_bool, v_str] <;> (first
        | (rw [← h2, twice_yes hp hb (by assumption)]; done)
        | (rw [← h2, twice_end (by omega)]; done)))
    | refine AWP.fin (by assumption) ?_)

set_option maxHeartbeats 4000000 in
set_option maxRecDepth 8000 in
theorem snan_c (s : Bs) : ACalls E 55 [str s] (fun r t => r = bl false ∧ t = []) := by -- slices.isNaN[string]
  refine ACalls.of_awp (n := 6) (rs := [.tmp 2]) Try.func55 rfl Try.ntmps55 rfl ?_
  repeat' (first
    | refine AWP.seqk fun K hK => ?_
    | (refine AWP.region ?_; simp only [go_sem])
    | (refine hK _ ?_; clear hK K)
    | refine AWP.block ?_
    | refine AWP.cond rfl (fun c => ?_) (fun c => ?_) <;> first | exact Bool.noConfusion c | (try simp only [dD] at c)
    | refine AWP.skip ?_
    | (refine AWP.exit ?_; simp only [go_sem])
    | (refine AGet.haveM (by assumption) ?_; (try simp only [go_sem]))
    | (refine AGet.have' (by assumption) ?_; (try simp only [go_sem]))
    | ((first | refine AGet.nth ?_ (fun b hb => ?_) | refine AGet.nth1 ?_ (fun b hb => ?_) | with_reducible refine And.intro ?_ ?_); (focus (first | omega | assumption | exact List.length_pos_iff.2 (by assumption) | (simp only [List.length_append, List.length_cons, List.length_nil, List.length_map, List.length_take, List.length_drop] at *; omega) | (rw [wrap64_id (by omega) (by omega)]; omega) | (simp; done) | (simp [spare_len]; done) | (exact ⟨by omega, by omega⟩))); (try simp only [hb, go_sem]))
    | (
        refine AWP.ret ?_
        refine AEnd.is ?_; simp only [go_sem, out_v, out_s, out_n, v_int, v_bool, v_str] <;> (simp; done))
    | refine AWP.fin (by assumption) ?_)

set_option maxHeartbeats 4000000 in
set_option maxRecDepth 8000 in
theorem cnan_c (s : Bs) : ACalls E 59 [str s] (fun r t => r = bl false ∧ t = []) := by -- cmp.isNaN[string]
  refine ACalls.of_awp (n := 6) (rs := [.tmp 2]) Try.func59 rfl Try.ntmps59 rfl ?_
  repeat' (first
    | refine AWP.seqk fun K hK => ?_
    | (refine AWP.region ?_; simp only [go_sem])
    | (refine hK _ ?_; clear hK K)
    | refine AWP.block ?_
    | refine AWP.cond rfl (fun c => ?_) (fun c => ?_) <;> first | exact Bool.noConfusion c | (try simp only [dD] at c)
    | refine AWP.skip ?_
    | (refine AWP.exit ?_; simp only [go_sem])
    | (refine AGet.haveM (by assumption) ?_; (try simp only [go_sem]))
    | (refine AGet.have' (by assumption) ?_; (try simp only [go_sem]))
    | ((first | refine AGet.nth ?_ (fun b hb => ?_) | refine AGet.nth1 ?_ (fun b hb => ?_) | with_reducible refine And.intro ?_ ?_); (focus (first | omega | assumption | exact List.length_pos_iff.2 (by assumption) | (simp only [List.length_append, List.length_cons, List.length_nil, List.length_map, List.length_take, List.length_drop] at *; omega) | (rw [wrap64_id (by omega) (by omega)]; omega) | (simp; done) | (simp [spare_len]; done) | (exact ⟨by omega, by omega⟩))); (try simp only [hb, go_sem]))
    | (
        refine AWP.ret ?_
        refine AEnd.is ?_; simp only [go_sem, out_v, out_s, out_n, v_int, v_bool, v_str] <;> (simp; done))
    | refine AWP.fin (by assumption) ?_)

set_option maxHeartbeats 4000000 in
set_option maxRecDepth 8000 in
theorem cless_c (s u : Bs) : ACalls E 54 [str s, str u] (fun r t => r = bl (decide (s < u)) ∧ t = []) := by -- cmp.Less[string]
  refine ACalls.of_awp (n := 17) (rs := [.tmp 4]) Try.func54 rfl Try.ntmps54 rfl ?_
  repeat' (first
    | refine AWP.seqk fun K hK => ?_
    | (refine AWP.region ?_; simp only [go_sem, Go.Proofs.bytesLess_eq])
    | (refine hK _ ?_; clear hK K)
    | refine AWP.block ?_
    | refine AWP.cond rfl (fun c => ?_) (fun c => ?_) <;> first | exact Bool.noConfusion c | (try simp only [dD] at c)
    | refine AWP.skip ?_
    | (refine AWP.exit ?_; simp only [go_sem, Go.Proofs.bytesLess_eq])
    | (refine ACall.one (cnan_c _) (by kernel_rfl) rfl ?_; simp only [go_sem, Go.Proofs.bytesLess_eq])
    | (refine AGuard.splitN (fun h => ?_) (fun h => ?_) <;> simp only [h, go_sem, Go.Proofs.bytesLess_eq] <;> (try simp only [dD] at h))
    | (refine AGuard.split (fun h => ?_) (fun h => ?_) <;> simp only [h, go_sem, Go.Proofs.bytesLess_eq] <;> (try simp only [dD] at h))
    | (refine AGet.haveM (by assumption) ?_; (try simp only [go_sem, Go.Proofs.bytesLess_eq]))
    | (refine AGet.have' (by assumption) ?_; (try simp only [go_sem, Go.Proofs.bytesLess_eq]))
    | ((first | refine AGet.nth ?_ (fun b hb => ?_) | refine AGet.nth1 ?_ (fun b hb => ?_) | with_reducible refine And.intro ?_ ?_); (focus (first | omega | assumption | exact List.length_pos_iff.2 (by assumption) | (simp only [List.length_append, List.length_cons, List.length_nil, List.length_map, List.length_take, List.length_drop] at *; omega) | (rw [wrap64_id (by omega) (by omega)]; omega) | (simp; done) | (simp [spare_len]; done) | (exact ⟨by omega, by omega⟩))); (try simp only [hb, go_sem, Go.Proofs.bytesLess_eq]))
    | (
        refine AWP.ret ?_
        refine AEnd.is ?_; simp only [go_sem, out_v, out_s, out_n, v_int, v_bool, v_str] <;> (simp [Go.Proofs.bytesLess_eq]; done))
    | refine AWP.fin (by assumption) ?_)

set_option maxHeartbeats 4000000 in
set_option maxRecDepth 8000 in
theorem bsearch_c (l : List Bs) (x : Bs) (hs : l.Pairwise (fun a b => a ≤ b)) (hl : l.length ≤ 1000000) : ACalls E 35 [.sl none 1 (l.map str), str x] (fun r t => (∃ n : Int, r = .tup [i64 n, bl (decide (x ∈ l))]) ∧ t = []) := by -- slices.BinarySearch[[]string,string]
  refine ACalls.of_awp (n := 54) (rs := [.tmp 4, .tmp 5]) Try.func35 rfl Try.ntmps35 rfl ?_
  repeat' (first
    | refine AWP.seqk fun K hK => ?_
    | (
        refine AWP.here 5 22 6 rfl ?_
        rw [half_eq (i := i) (j := j) (by omega) (by omega)]
        refine AWP.region ?_; simp only [go_sem])
    | (refine AWP.region ?_; simp only [go_sem])
    | (refine hK _ ?_; clear hK K)
    | refine AWP.block ?_
    | refine AWP.cond rfl (fun c => ?_) (fun c => ?_) <;> first | exact Bool.noConfusion c | (try simp only [dD] at c)
    | refine AWP.skip ?_
    | (refine AWP.exit ?_; simp only [go_sem])
    | (refine ACall.one (cless_c _ _) (by kernel_rfl) rfl ?_; simp only [go_sem])
    | (refine ACall.one (snan_c _) (by kernel_rfl) rfl ?_; simp only [go_sem])
    | (refine AGuard.splitN (fun h => ?_) (fun h => ?_) <;> simp only [h, go_sem] <;> (try simp only [dD] at h))
    | (refine AGuard.split (fun h => ?_) (fun h => ?_) <;> simp only [h, go_sem] <;> (try simp only [dD] at h))
    | (refine AGet.haveM (by assumption) ?_; (try simp only [go_sem]))
    | (refine AGet.have' (by assumption) ?_; (try simp only [go_sem]))
    | ((first | refine AGet.nth ?_ (fun b hb => ?_) | refine AGet.nth1 ?_ (fun b hb => ?_) | with_reducible refine And.intro ?_ ?_); (focus (first | omega | assumption | exact List.length_pos_iff.2 (by assumption) | (simp only [List.length_append, List.length_cons, List.length_nil, List.length_map, List.length_take, List.length_drop] at *; omega) | (rw [wrap64_id (by omega) (by omega)]; omega) | (simp; done) | (simp [spare_len]; done) | (exact ⟨by omega, by omega⟩))); (try simp only [hb, go_sem]))
    | (
        refine AWP.here 3 13 3 rfl ?_
        refine AWP.loopN (ι := Nat × Nat) [9, 13, 14, 15, 16, 17, 18, 19, 20, 21, 22, 23, 24, 25, 26, 27, 28, 29, 30] (fun ⟨i, j⟩ => [(7, i64 i), (8, i64 j)]) (fun ⟨i, j⟩ => i ≤ j ∧ j ≤ l.length ∧ (∀ k y, k < i → l[k]? = some y → y < x) ∧ (∀ k y, j ≤ k → l[k]? = some y → ¬ y < x)) (fun ⟨i, j⟩ => j - i) ((0, l.length)) ?_ ?_ ?_
        · (try simp only [go_sem]); (repeat' (first | refine And.intro ?_ ?_ | exact .inl rfl | exact .inr rfl | exact .inr ⟨rfl, rfl⟩ | trivial | (simp; done)))
        · exact ⟨by simp, by simp, by simp, fun k y h1 h2 => absurd (get_lt h2) (by simpa using h1)⟩
        rintro ⟨i, j⟩ ⟨h1, h2, h3, h4⟩
        simp only [go_sem])
    | (
        first
        | (refine ⟨((i + j) / 2 + 1, j), ?_, ?_, ?_⟩
           · (try simp only [go_sem]); (try rw [wrap64_id (by omega) (by omega)]); simp
           · exact ⟨by show (i + j) / 2 + 1 ≤ j; omega, h2, lows hs h3 hb (by assumption), h4⟩
           · show j - ((i + j) / 2 + 1) < j - i; omega)
        | (refine ⟨(i, (i + j) / 2), ?_, ?_, ?_⟩
           · (try simp only [go_sem]); (try simp)
           · exact ⟨by show i ≤ (i + j) / 2; omega, by show (i + j) / 2 ≤ l.length; omega, h3, highs hs h4 hb (by assumption)⟩
           · show (i + j) / 2 - i < j - i; omega))
    | (
        refine AWP.ret ?_
        simp only [go_sem]
        refine ⟨[], .tup [i64 i, bl (decide (x ∈ l))], rfl, ⟨rfl, ?_, trivial⟩, ⟨i, rfl⟩, rfl⟩
        refine congrArg (fun b => Value.bool b) ?_
        obtain rfl : i = j := by omega
        first | (rw [found_yes h3 h4 hs hb]; simp [*]; done) | exact (found_no (by omega) h3).symm)
    | refine AWP.fin (by assumption) ?_)


end Go.Proofs.Ytajeeghgiilhiaa
