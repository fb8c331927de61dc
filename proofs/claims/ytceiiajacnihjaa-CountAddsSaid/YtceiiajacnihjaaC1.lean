import Derived.Test.YtceiiajacnihjaaN0
import Derived.Test.YtceiiajacnihjaaLn
import Derived.Test.YtceiiajacnihjaaLe
import Derived.Test.YtceiiajacnihjaaPq
set_option linter.unusedVariables false
set_option linter.unusedSimpArgs false
namespace Go.Proofs.Ytceiiajacnihjaa
open Go Go.Abs Go.RowKit Go.Bk
theorem tup2_0 {im : Im} (a b : Value) : VR0 im (.tup [.v a, .v b]) (.tuple #[a, b]) := .tup [_, _] [_, _] rfl (fun i c u h1 h2 => by
  match i with
  | 0 => simp at h1 h2; subst h1; subst h2; exact .v _
  | 1 => simp at h1 h2; subst h1; subst h2; exact .v _
  | i + 2 => simp at h1)
theorem tup2 {c : Ctx} (a b : Value) : VR c (.tup [.v a, .v b]) (.tuple #[a, b]) := .base (tup2_0 a b)
theorem add64_run (x y c : Int) (hx : 0 ≤ x) (hx2 : x < M64) (hy : 0 ≤ y) (hy2 : y < M64) (hc : 0 ≤ c) (hc2 : c ≤ 1) (w : World) : (callFunc 32 #[.int .u64 x, .int .u64 y, .int .u64 c]).run E.P w = .ok (.value (.tuple #[.int .u64 ((x + y + c) % M64), .int .u64 ((x + y + c) / M64)])) w := by
  obtain ⟨x, rfl⟩ := Int.eq_ofNat_of_zero_le hx
  obtain ⟨y, rfl⟩ := Int.eq_ofNat_of_zero_le hy
  obtain ⟨c, rfl⟩ := Int.eq_ofNat_of_zero_le hc
  unfold M64 at *
  show (callFunc 32 _).run Try.prog w = _
  rw [run_callFunc_extern Try.func32 (by kernel_rfl) (by kernel_rfl) (by kernel_rfl) (e := add64Entry) (by kernel_rfl), run_add64 x y c (by omega) (by omega) (by omega) (by omega)]
  simp only [Result.andThen]
  (try congr 5 <;> omega)
theorem add_step1 {l : List Int} {i : Nat} {n : Int} (hn : l[i]? = some n) (w : World) : (callFunc 32 [.int .u64 (loW (sumL (l.take i))), .int .u64 (IntKind.u64.wrap n), .int .u64 0].toArray).run E.P w = .ok (.value (.tuple #[.int .u64 (loW (sumL (l.take (i + 1)))), .int .u64 ((loW (sumL (l.take i)) + n % M64) / M64)])) w := by
  have h1 := lo_rng (sumL (l.take i))
  have h2 : 0 ≤ n % M64 ∧ n % M64 < M64 := ⟨Int.emod_nonneg _ (by decide), Int.emod_lt_of_pos _ (by decide)⟩
  rw [u64_wrap]
  refine (add64_run _ _ 0 h1.1 h1.2 h2.1 h2.2 (by omega) (by omega) w).trans ?_
  rw [Int.add_zero, add_lo, take_next hn, sumL_app]
  simp [sumL]
theorem add_step2 {l : List Int} {i : Nat} {n : Int} (hn : l[i]? = some n) (hr : -4611686018427387904 ≤ n ∧ n ≤ 4611686018427387904) (w : World) : (callFunc 32 [.int .u64 (hiW (sumL (l.take i))), .int .u64 (IntKind.u64.wrap (n.fdiv (2 ^ (min 63 64)))), .int .u64 ((loW (sumL (l.take i)) + n % M64) / M64)].toArray).run E.P w =
    .ok (.value (.tuple #[.int .u64 (hiW (sumL (l.take (i + 1)))), .int .u64 ((hiW (sumL (l.take i)) + (n / 9223372036854775808) % M64 + (loW (sumL (l.take i)) + n % M64) / M64) / M64)])) w := by
  have h1 := hi_rng (sumL (l.take i))
  have h2 : 0 ≤ (n / 9223372036854775808) % M64 ∧ (n / 9223372036854775808) % M64 < M64 := ⟨Int.emod_nonneg _ (by decide), Int.emod_lt_of_pos _ (by decide)⟩
  have h3 := add_carry (sumL (l.take i)) n
  rw [u64_wrap, show (2 : Int) ^ (min 63 64) = 9223372036854775808 by decide, Int.fdiv_eq_ediv_of_nonneg _ (by omega)]
  refine (add64_run _ _ _ h1.1 h1.2 h2.1 h2.2 (by omega) (by omega) w).trans ?_
  rw [add_hi (by omega) (by omega), take_next hn, sumL_app]
  simp [sumL]
theorem all_num {l : List Int} {i : Nat} {n : Int} (hn : l[i]? = some n) (h : (l.take i).all numB = true) (h2 : numB n = true) : (l.take (i + 1)).all numB = true := by
  rw [take_next hn, List.all_append, h]; simp [h2]
def addF (a b : Int) : Int × Bool := if numB a && numB b && numB (a + b) then (a + b, true) else (0, false)
theorem add_num {a b : Int} (h1 : numB a = true) (h2 : numB b = true) : numB (IntKind.i64.wrap (a + b)) = numB (a + b) ∧ (numB (a + b) = true → IntKind.i64.wrap (a + b) = a + b) := by
  rw [numB_iff] at h1 h2
  by_cases h : a + b ≤ 9223372036854775807
  · have e : IntKind.i64.wrap (a + b) = a + b := wrap64_id (by omega) (by omega)
    rw [e]; exact ⟨rfl, fun _ => rfl⟩
  · have e : a = 4611686018427387904 ∧ b = 4611686018427387904 := by omega
    obtain ⟨rfl, rfl⟩ := e
    exact ⟨by decide, fun h => by revert h; decide⟩
theorem wrap_lo (s : Int) : IntKind.i64.wrap (loW s) = IntKind.i64.wrap s := by
  unfold IntKind.wrap loW
  have h3 : (s % M64) % (2 : Int) ^ IntKind.i64.bits = s % (2 : Int) ^ IntKind.i64.bits := by
    show (s % M64) % (2 : Int) ^ 64 = s % (2 : Int) ^ 64
    unfold M64; omega
  exact congrArg (fun r : Int => if (IntKind.i64.signed && decide (r ≥ 2 ^ (IntKind.i64.bits - 1))) = true then r - 2 ^ IntKind.i64.bits else r) h3
section
variable {l : List Int} {i : Nat} (hl : l.length ≤ 1000000) (hi : ¬ (i : Int) < l.length) (hi2 : i ≤ l.length) (ha : (l.take i).all numB = true)
include hl hi ha
theorem sum_fits (h : hiW (sumL (l.take i)) = IntKind.u64.wrap ((IntKind.i64.wrap (loW (sumL (l.take i)))).fdiv (2 ^ min 63 64))) : IntKind.i64.wrap (loW (sumL (l.take i))) = sumL (l.take i) := by
  have hb := sumL_bnd ha
  have hlen : (l.take i).length ≤ 1000000 := by rw [List.length_take]; omega
  rw [u64_wrap, show (2 : Int) ^ (min 63 64) = 9223372036854775808 by decide, Int.fdiv_eq_ediv_of_nonneg _ (by omega)] at h
  exact (fits (by omega) (by omega)).1 h
theorem sum_no1 (h : hiW (sumL (l.take i)) = IntKind.u64.wrap ((IntKind.i64.wrap (loW (sumL (l.take i)))).fdiv (2 ^ min 63 64))) (c : numB (IntKind.i64.wrap (loW (sumL (l.take i)))) = false) : sumF l = (0, false) := by
  rw [sum_fits hl hi ha h] at c
  rw [List.take_of_length_le (by omega)] at c ha
  exact sumF_over ha c
theorem sum_yes (h : hiW (sumL (l.take i)) = IntKind.u64.wrap ((IntKind.i64.wrap (loW (sumL (l.take i)))).fdiv (2 ^ min 63 64))) (c : numB (IntKind.i64.wrap (loW (sumL (l.take i)))) = true) : sumF l = (IntKind.i64.wrap (loW (sumL (l.take i))), true) := by
  rw [sum_fits hl hi ha h] at c ⊢
  rw [List.take_of_length_le (by omega)] at c ha ⊢
  exact sumF_yes ha c
theorem sum_no2 (h : ¬ hiW (sumL (l.take i)) = IntKind.u64.wrap ((IntKind.i64.wrap (loW (sumL (l.take i)))).fdiv (2 ^ min 63 64))) : sumF l = (0, false) := by
  have hb := sumL_bnd ha
  have hlen : (l.take i).length ≤ 1000000 := by rw [List.length_take]; omega
  rw [u64_wrap, show (2 : Int) ^ (min 63 64) = 9223372036854775808 by decide, Int.fdiv_eq_ediv_of_nonneg _ (by omega), fits (by omega) (by omega), wrap_lo] at h
  have hn : numB (sumL (l.take i)) = false := by
    rw [numB_no]; intro h2; exact h (wrap64_id (by omega) (by omega))
  rw [List.take_of_length_le (by omega)] at ha hn
  exact sumF_over ha hn
end
theorem eq_no1 {α : Type} [DecidableEq α] {a b : List α} (h : ¬ a.length = b.length) : decide (a = b) = false := decide_eq_false fun e => h (by rw [e])
theorem eq_no2 {α : Type} [DecidableEq α] {a b : List α} {i : Nat} {x y : α} (h1 : a[i]? = some x) (h2 : b[i]? = some y) (h : x ≠ y) : decide (a = b) = false := decide_eq_false fun e => h (by rw [e, h2, Option.some.injEq] at h1; exact h1.symm)
theorem eq_yes {α : Type} [DecidableEq α] {a b : List α} {i : Nat} (h0 : a.length = b.length) (hi : a.length ≤ i) (h : a.take i = b.take i) : decide (a = b) = true := by
  rw [List.take_of_length_le hi, List.take_of_length_le (by omega)] at h
  exact decide_eq_true h
theorem eq_next {α : Type} {a b : List α} {i : Nat} {x y : α} (h1 : a[i]? = some x) (h2 : b[i]? = some y) (h : x = y) (h3 : a.take i = b.take i) : a.take (i + 1) = b.take (i + 1) := by rw [take_next h1, take_next h2, h3, h]
theorem radd_a {a b : Int} (h : numB a = false) : addF a b = (0, false) := by simp [addF, h]
theorem radd_b {a b : Int} (h : numB b = false) : addF a b = (0, false) := by simp [addF, h]
theorem radd_hi {a b : Int} (h1 : numB a = true) (h2 : numB b = true) (h3 : 0 < b) (h : IntKind.i64.wrap (4611686018427387904 - b) < a) : addF a b = (0, false) := by
  have e1 := numB_iff.1 h1; have e2 := numB_iff.1 h2
  rw [wrap64_id (by omega) (by omega)] at h
  have : numB (a + b) = false := by rw [numB_no]; omega
  simp [addF, this]
theorem radd_lo {a b : Int} (h1 : numB a = true) (h2 : numB b = true) (h3 : b < 0) (h : a < IntKind.i64.wrap (-4611686018427387904 - b)) : addF a b = (0, false) := by
  have e1 := numB_iff.1 h1; have e2 := numB_iff.1 h2
  rw [wrap64_id (by omega) (by omega)] at h
  have : numB (a + b) = false := by rw [numB_no]; omega
  simp [addF, this]
theorem radd_y {a b : Int} (h1 : numB a = true) (h2 : numB b = true) (h3 : 0 < b → ¬ IntKind.i64.wrap (4611686018427387904 - b) < a) (h4 : b < 0 → ¬ a < IntKind.i64.wrap (-4611686018427387904 - b)) : addF a b = (IntKind.i64.wrap (a + b), true) := by
  have e1 := numB_iff.1 h1; have e2 := numB_iff.1 h2
  have h5 : -4611686018427387904 ≤ a + b ∧ a + b ≤ 4611686018427387904 := by
    rcases Int.lt_trichotomy b 0 with h | h | h
    · have := h4 h; rw [wrap64_id (by omega) (by omega)] at this; omega
    · omega
    · have := h3 h; rw [wrap64_id (by omega) (by omega)] at this; omega
  rw [wrap64_id (by omega) (by omega)]
  simp [addF, h1, h2, numB_iff.2 h5]

set_option maxHeartbeats 4000000 in
set_option maxRecDepth 8000 in
theorem numr_c (n : Int) : ACalls E 18 [i64 n] (fun r t => r = bl (numB n) ∧ t = []) := by -- checkroll/num.Right
  refine ACalls.of_awp (n := 9) (rs := [.tmp 2]) Try.func18 rfl Try.ntmps18 rfl ?_
  repeat' (first
    | refine AWP.seqk fun K hK => ?_
    | (refine AWP.region ?_; simp only [go_sem])
    | (refine hK _ ?_; clear hK K)
    | refine AWP.block ?_
    | refine AWP.cond rfl (fun c => ?_) (fun c => ?_) <;> first | exact Bool.noConfusion c | (try simp only [dD] at c)
    | refine AWP.skip ?_
    | (refine AWP.exit ?_; simp only [go_sem])
    | (refine AGuard.splitN (fun h => ?_) (fun h => ?_) <;> simp only [h, go_sem] <;> (try simp only [dD] at h))
    | (refine AGuard.split (fun h => ?_) (fun h => ?_) <;> simp only [h, go_sem] <;> (try simp only [dD] at h))
    | (refine AGet.haveM (by assumption) ?_; (try simp only [go_sem]))
    | (refine AGet.have' (by assumption) ?_; (try simp only [go_sem]))
    | ((first | refine AGet.nth ?_ (fun b hb => ?_) | refine AGet.nth1 ?_ (fun b hb => ?_) | with_reducible refine And.intro ?_ ?_); (focus (first | omega | assumption | exact List.length_pos_iff.2 (by assumption) | (simp only [List.length_append, List.length_cons, List.length_nil, List.length_map, List.length_take, List.length_drop] at *; omega) | (rw [wrap64_id (by omega) (by omega)]; omega) | (simp; done) | (simp [spare_len]; done) | (exact ⟨by omega, by omega⟩))); (try simp only [hb, go_sem]))
    | (
        refine AWP.ret ?_
        refine AEnd.is ?_; simp only [go_sem, out_v, out_s, out_n, v_int, v_bool, v_str] <;> (simp [numB, *] <;> omega))
    | refine AWP.fin (by assumption) ?_
    | fail)

set_option maxHeartbeats 4000000 in
set_option maxRecDepth 8000 in
theorem nadd_c (a b : Int) : ACalls E 27 [i64 a, i64 b] (fun r t => r = .tup [i64 (addF a b).1, bl (addF a b).2] ∧ t = []) := by -- checkroll/num.Add
  refine ACalls.of_awp (n := 24) (rs := [.tmp 4, .tmp 5]) Try.func27 rfl Try.ntmps27 rfl ?_
  repeat' (first
    | refine AWP.seqk fun K hK => ?_
    | (refine AWP.region ?_; simp only [go_sem])
    | (refine hK _ ?_; clear hK K)
    | refine AWP.block ?_
    | refine AWP.cond rfl (fun c => ?_) (fun c => ?_) <;> first | exact Bool.noConfusion c | (try simp only [dD] at c)
    | refine AWP.skip ?_
    | (refine AWP.exit ?_; simp only [go_sem])
    | (refine ACall.one (numr_c _) (by kernel_rfl) rfl ?_; simp only [go_sem])
    | (refine AGuard.splitN (fun h => ?_) (fun h => ?_) <;> simp only [h, go_sem] <;> (try simp only [dD] at h))
    | (refine AGuard.split (fun h => ?_) (fun h => ?_) <;> simp only [h, go_sem] <;> (try simp only [dD] at h))
    | (refine AGet.haveM (by assumption) ?_; (try simp only [go_sem]))
    | (refine AGet.have' (by assumption) ?_; (try simp only [go_sem]))
    | ((first | refine AGet.nth ?_ (fun b hb => ?_) | refine AGet.nth1 ?_ (fun b hb => ?_) | with_reducible refine And.intro ?_ ?_); (focus (first | omega | assumption | exact List.length_pos_iff.2 (by assumption) | (simp only [List.length_append, List.length_cons, List.length_nil, List.length_map, List.length_take, List.length_drop] at *; omega) | (rw [wrap64_id (by omega) (by omega)]; omega) | (simp; done) | (simp [spare_len]; done) | (exact ⟨by omega, by omega⟩))); (try simp only [hb, go_sem]))
    | (
        refine AWP.ret ?_
        refine AEnd.is ?_; simp only [go_sem, out_v, out_s, out_n, v_int, v_bool, v_str] <;> (first | (have e := add_num (a := a) (b := b) (by assumption) (by assumption); simp_all [addF]; done) | (simp_all [addF]; done) | skip))
    | refine AWP.fin (by assumption) ?_
    | fail)

set_option maxHeartbeats 4000000 in
set_option maxRecDepth 8000 in
theorem nsum_c (l : List Int) (hl : l.length ≤ 1000000) : ACalls E 19 [.sl none 1 (l.map i64)] (fun r t => r = .tup [i64 (sumF l).1, bl (sumF l).2] ∧ t = []) := by -- checkroll/num.Sum
  refine ACalls.of_awp (n := 49) (rs := [.tmp 2, .tmp 3]) Try.func19 rfl Try.ntmps19 rfl ?_
  repeat' (first
    | refine AWP.seqk fun K hK => ?_
    | (
        refine AWP.here 4 14 3 rfl ?_
        obtain ⟨n, hn⟩ : ∃ n, l[i]? = some n := ⟨_, List.getElem?_eq_getElem (by omega)⟩
        refine AWP.region ?_; simp only [go_sem])
    | (
        refine AWP.here 8 20 9 rfl ?_
        have hnr := numB_iff.1 (show numB n = true by assumption)
        refine AWP.regionL ?_
        refine AWPL.at 9 3 rfl ?_
        simp only [go_sem]
        refine AWPL.native [.int .u64 (loW (sumL (l.take i))), .int .u64 (IntKind.u64.wrap n), .int .u64 0] _ _ rfl (add_step1 hn) (fun c => tup2 _ _) ?_
        simp only [go_sem]
        refine AWPL.of ?_
        simp only [go_sem])
    | (
        refine AWP.here 9 27 10 rfl ?_
        refine AWP.regionL ?_
        refine AWPL.at 10 5 rfl ?_
        simp only [go_sem]
        refine AWPL.native [.int .u64 (hiW (sumL (l.take i))), .int .u64 (IntKind.u64.wrap (n.fdiv (2 ^ (min 63 64)))), .int .u64 ((loW (sumL (l.take i)) + n % M64) / M64)] _ _ rfl (add_step2 hn hnr) (fun c => tup2 _ _) ?_
        simp only [go_sem]
        refine AWPL.of ?_
        simp only [go_sem])
    | (refine AWP.region ?_; simp only [go_sem])
    | (refine hK _ ?_; clear hK K)
    | refine AWP.block ?_
    | refine AWP.cond rfl (fun c => ?_) (fun c => ?_) <;> first | exact Bool.noConfusion c | (try simp only [dD] at c)
    | refine AWP.skip ?_
    | (refine AWP.exit ?_; simp only [go_sem])
    | (refine ACall.one (numr_c _) (by kernel_rfl) rfl ?_; simp only [go_sem])
    | (refine AGuard.splitN (fun h => ?_) (fun h => ?_) <;> simp only [h, go_sem] <;> (try simp only [dD] at h))
    | (refine AGuard.split (fun h => ?_) (fun h => ?_) <;> simp only [h, go_sem] <;> (try simp only [dD] at h))
    | (refine AGet.haveM (by assumption) ?_; (try simp only [go_sem]))
    | (refine AGet.have' (by assumption) ?_; (try simp only [go_sem]))
    | ((first | refine AGet.nth ?_ (fun b hb => ?_) | refine AGet.nth1 ?_ (fun b hb => ?_) | with_reducible refine And.intro ?_ ?_); (focus (first | omega | assumption | exact List.length_pos_iff.2 (by assumption) | (simp only [List.length_append, List.length_cons, List.length_nil, List.length_map, List.length_take, List.length_drop] at *; omega) | (rw [wrap64_id (by omega) (by omega)]; omega) | (simp; done) | (simp [spare_len]; done) | (exact ⟨by omega, by omega⟩))); (try simp only [hb, go_sem]))
    | (
        refine AWP.here 3 13 1 rfl ?_
        refine AWP.loopN (ι := Nat) [2, 3, 7, 8, 13, 14, 15, 16, 17, 18, 19, 20, 21, 22, 23, 24, 25, 26, 27, 28, 29, 30, 31, 32, 33, 34, 35] (fun (i : Nat) => [(12, i64 i), (4, (.v (.int .u64 (hiW (sumL (l.take i)))))), (5, (.v (.int .u64 (loW (sumL (l.take i))))))]) (fun (i : Nat) => i ≤ l.length ∧ (l.take i).all numB = true) (fun (i : Nat) => l.length - i) (0) ?_ ?_ ?_
        · (try simp only [go_sem]); (repeat' (first | refine And.intro ?_ ?_ | exact .inl rfl | exact .inr rfl | exact .inr ⟨rfl, rfl⟩ | trivial | exact .inr (oblA rfl) | exact .inr ⟨rfl, oblA rfl⟩ | exact .inr bel_strs | exact .inr ⟨rfl, bel_strs⟩ | exact .inr ⟨by simp, bel_strs⟩ | (simp; done) | exact .inr ⟨rfl, by simp⟩ | exact .inr ⟨by simp, by simp⟩)); done
        · exact ⟨Nat.zero_le _, by simp⟩
        rintro i ⟨h1, h2⟩
        simp only [go_sem])
    | (
        refine ⟨i + 1, ?_, ?_, ?_⟩
        · (try simp only [go_sem]); (try rw [wrap64_id (by omega) (by omega)]); (try rw [step_hi hn hnr]); (repeat' (first | refine And.intro ?_ ?_ | exact .inl rfl | exact .inr rfl | exact .inr ⟨rfl, rfl⟩ | trivial | exact .inr (oblA rfl) | exact .inr ⟨rfl, oblA rfl⟩ | exact .inr bel_strs | exact .inr ⟨rfl, bel_strs⟩ | exact .inr ⟨by simp, bel_strs⟩ | (simp; done) | exact .inr ⟨rfl, by simp⟩ | exact .inr ⟨by simp, by simp⟩)); done
        · exact ⟨by omega, all_num hn h2 (by assumption)⟩
        · (try simp only []); omega)
    | (
        refine AWP.ret ?_
        refine AEnd.is ?_; simp only [go_sem, out_v, out_s, out_n, v_int, v_bool, v_str] <;> (first
        | (rw [sumF_no hn (by assumption)]; simp; done)
        | (rw [sum_no1 hl (by assumption) h2 (by assumption) (by assumption)]; simp; done)
        | (rw [sum_yes hl (by assumption) h2 (by assumption) (by assumption)]; simp; done)
        | (rw [sum_no2 hl (by assumption) h2 (by assumption)]; simp; done)
        | skip))
    | refine AWP.fin (by assumption) ?_
    | fail)

set_option maxHeartbeats 4000000 in
set_option maxRecDepth 8000 in
theorem r1right_c (n : Int) : ACalls E 41 [i64 n] (fun r t => r = bl (numB n) ∧ t = []) := by -- checkroll/checkrollref01.Right
  refine ACalls.of_awp (n := 9) (rs := [.tmp 2]) Try.func41 rfl Try.ntmps41 rfl ?_
  repeat' (first
    | refine AWP.seqk fun K hK => ?_
    | (refine AWP.region ?_; simp only [go_sem])
    | (refine hK _ ?_; clear hK K)
    | refine AWP.block ?_
    | refine AWP.cond rfl (fun c => ?_) (fun c => ?_) <;> first | exact Bool.noConfusion c | (try simp only [dD] at c)
    | refine AWP.skip ?_
    | (refine AWP.exit ?_; simp only [go_sem])
    | (refine AGuard.splitN (fun h => ?_) (fun h => ?_) <;> simp only [h, go_sem] <;> (try simp only [dD] at h))
    | (refine AGuard.split (fun h => ?_) (fun h => ?_) <;> simp only [h, go_sem] <;> (try simp only [dD] at h))
    | (refine AGet.haveM (by assumption) ?_; (try simp only [go_sem]))
    | (refine AGet.have' (by assumption) ?_; (try simp only [go_sem]))
    | ((first | refine AGet.nth ?_ (fun b hb => ?_) | refine AGet.nth1 ?_ (fun b hb => ?_) | with_reducible refine And.intro ?_ ?_); (focus (first | omega | assumption | exact List.length_pos_iff.2 (by assumption) | (simp only [List.length_append, List.length_cons, List.length_nil, List.length_map, List.length_take, List.length_drop] at *; omega) | (rw [wrap64_id (by omega) (by omega)]; omega) | (simp; done) | (simp [spare_len]; done) | (exact ⟨by omega, by omega⟩))); (try simp only [hb, go_sem]))
    | (
        refine AWP.ret ?_
        refine AEnd.is ?_; simp only [go_sem, out_v, out_s, out_n, v_int, v_bool, v_str] <;> (simp [numB, *] <;> omega))
    | refine AWP.fin (by assumption) ?_
    | fail)

set_option maxHeartbeats 4000000 in
set_option maxRecDepth 8000 in
theorem r1add_c (a b : Int) : ACalls E 29 [i64 a, i64 b] (fun r t => r = .tup [i64 (addF a b).1, bl (addF a b).2] ∧ t = []) := by -- checkroll/checkrollref01.Add
  refine ACalls.of_awp (n := 37) (rs := [.tmp 4, .tmp 5]) Try.func29 rfl Try.ntmps29 rfl ?_
  repeat' (first
    | refine AWP.seqk fun K hK => ?_
    | (refine AWP.region ?_; simp only [go_sem])
    | (refine hK _ ?_; clear hK K)
    | refine AWP.block ?_
    | refine AWP.cond rfl (fun c => ?_) (fun c => ?_) <;> first | exact Bool.noConfusion c | (try simp only [dD] at c)
    | refine AWP.skip ?_
    | (refine AWP.exit ?_; simp only [go_sem])
    | (refine ACall.one (r1right_c _) (by kernel_rfl) rfl ?_; simp only [go_sem])
    | (refine AGuard.splitN (fun h => ?_) (fun h => ?_) <;> simp only [h, go_sem] <;> (try simp only [dD] at h))
    | (refine AGuard.split (fun h => ?_) (fun h => ?_) <;> simp only [h, go_sem] <;> (try simp only [dD] at h))
    | (refine AGet.haveM (by assumption) ?_; (try simp only [go_sem]))
    | (refine AGet.have' (by assumption) ?_; (try simp only [go_sem]))
    | ((first | refine AGet.nth ?_ (fun b hb => ?_) | refine AGet.nth1 ?_ (fun b hb => ?_) | with_reducible refine And.intro ?_ ?_); (focus (first | omega | assumption | exact List.length_pos_iff.2 (by assumption) | (simp only [List.length_append, List.length_cons, List.length_nil, List.length_map, List.length_take, List.length_drop] at *; omega) | (rw [wrap64_id (by omega) (by omega)]; omega) | (simp; done) | (simp [spare_len]; done) | (exact ⟨by omega, by omega⟩))); (try simp only [hb, go_sem]))
    | (
        refine AWP.ret ?_
        refine AEnd.is ?_; simp only [go_sem, out_v, out_s, out_n, v_int, v_bool, v_str] <;> (first
        | (exfalso; omega)
        | (rw [radd_a (by assumption)]; simp; done)
        | (rw [radd_b (by assumption)]; simp; done)
        | (rw [radd_hi (by assumption) (by assumption) (by assumption) (by assumption)]; simp; done)
        | (rw [radd_lo (by assumption) (by assumption) (by assumption) (by assumption)]; simp; done)
        | (rw [radd_y (by assumption) (by assumption) (by intros; omega) (by intros; omega)]; simp; done)
        | skip))
    | refine AWP.fin (by assumption) ?_
    | fail)

set_option maxHeartbeats 4000000 in
set_option maxRecDepth 8000 in
theorem sindex_c (l : List Bs) (id : Bs) (hl : l.length ≤ 9223372036854775807) : ACalls E 36 [.sl none 1 (l.map str), str id] (fun r t => r = i64 (idI l id) ∧ t = []) := by -- slices.Index[[]string,string]
  refine ACalls.of_awp (n := 19) (rs := [.tmp 4]) Try.func36 rfl Try.ntmps36 rfl ?_
  repeat' (first
    | refine AWP.seqk fun K hK => ?_
    | (refine AWP.region ?_; simp only [go_sem])
    | (refine hK _ ?_; clear hK K)
    | refine AWP.block ?_
    | refine AWP.cond rfl (fun c => ?_) (fun c => ?_) <;> first | exact Bool.noConfusion c | (try simp only [dD] at c)
    | refine AWP.skip ?_
    | (refine AWP.exit ?_; simp only [go_sem])
    | (refine AGet.haveM (by assumption) ?_; (try simp only [go_sem]))
    | (refine AGet.have' (by assumption) ?_; (try simp only [go_sem]))
    | ((first | refine AGet.nth ?_ (fun b hb => ?_) | refine AGet.nth1 ?_ (fun b hb => ?_) | with_reducible refine And.intro ?_ ?_); (focus (first | omega | assumption | exact List.length_pos_iff.2 (by assumption) | (simp only [List.length_append, List.length_cons, List.length_nil, List.length_map, List.length_take, List.length_drop] at *; omega) | (rw [wrap64_id (by omega) (by omega)]; omega) | (simp; done) | (simp [spare_len]; done) | (exact ⟨by omega, by omega⟩))); (try simp only [hb, go_sem]))
    | (
        refine AWP.here 2 9 1 rfl ?_
        refine AWP.loopN (ι := Nat) [4, 5, 9, 10, 11, 12, 13, 14, 15, 16, 17, 18] (fun (i : Nat) => [(8, i64 i)]) (fun (i : Nat) => i ≤ l.length ∧ (l.take i).all (fun s => !decide (id = s)) = true) (fun (i : Nat) => l.length - i) (0) ?_ ?_ ?_
        · (try simp only [go_sem]); (repeat' (first | refine And.intro ?_ ?_ | exact .inl rfl | exact .inr rfl | exact .inr ⟨rfl, rfl⟩ | trivial | exact .inr (oblA rfl) | exact .inr ⟨rfl, oblA rfl⟩ | exact .inr bel_strs | exact .inr ⟨rfl, bel_strs⟩ | exact .inr ⟨by simp, bel_strs⟩ | (simp; done) | exact .inr ⟨rfl, by simp⟩ | exact .inr ⟨by simp, by simp⟩)); done
        · exact ⟨by omega, by simp⟩
        rintro i ⟨h1, h2⟩
        simp only [go_sem])
    | (
        refine ⟨i + 1, ?_, ?_, ?_⟩
        · (try simp only [go_sem]); (try rw [wrap64_id (by omega) (by omega)]); (repeat' (first | refine And.intro ?_ ?_ | exact .inl rfl | exact .inr rfl | exact .inr ⟨rfl, rfl⟩ | trivial | exact .inr (oblA rfl) | exact .inr ⟨rfl, oblA rfl⟩ | exact .inr bel_strs | exact .inr ⟨rfl, bel_strs⟩ | exact .inr ⟨by simp, bel_strs⟩ | (simp; done) | exact .inr ⟨rfl, by simp⟩ | exact .inr ⟨by simp, by simp⟩)); done
        · exact ⟨by omega, all_next hb h2 (by simp; assumption)⟩
        · (try simp only []); omega)
    | (
        refine AWP.ret ?_
        refine AEnd.is ?_; simp only [go_sem, out_v, out_s, out_n, v_int, v_bool, v_str] <;> (first | (rw [id_of hb (by assumption) h2]; done) | (rw [id_none (by omega) h2]; done) | skip))
    | refine AWP.fin (by assumption) ?_
    | fail)

set_option maxHeartbeats 4000000 in
set_option maxRecDepth 8000 in
theorem texts_c (p q : List Bs) (hl : p.length ≤ 9223372036854775807) : ACalls E 9 [.sl none 1 (p.map str), .sl none 1 (q.map str)] (fun r t => r = bl (decide (p = q)) ∧ t = []) := by -- checkroll/checkrollref22.Texts
  refine ACalls.of_awp (n := 26) (rs := [.tmp 4]) Try.func9 rfl Try.ntmps9 rfl ?_
  repeat' (first
    | refine AWP.seqk fun K hK => ?_
    | (refine AWP.region ?_; simp only [go_sem])
    | (refine AWP.here 6 17 9 rfl ?_; refine AWP.regionO [0, 1, 2, 3, 4, 5, 6, 7, 8] [] (by kernel_rfl) (by kernel_rfl) rfl ?_; simp only [go_sem])
    | (refine hK _ ?_; clear hK K)
    | refine AWP.block ?_
    | refine AWP.cond rfl (fun c => ?_) (fun c => ?_) <;> first | exact Bool.noConfusion c | (try simp only [dD] at c)
    | refine AWP.skip ?_
    | (refine AWP.exit ?_; simp only [go_sem])
    | (refine AGet.haveM (by assumption) ?_; (try simp only [go_sem]))
    | (refine AGet.have' (by assumption) ?_; (try simp only [go_sem]))
    | ((first | refine AGet.nth ?_ (fun b hb => ?_) | refine AGet.nth1 ?_ (fun b hb => ?_) | with_reducible refine And.intro ?_ ?_); (focus (first | omega | assumption | exact List.length_pos_iff.2 (by assumption) | (simp only [List.length_append, List.length_cons, List.length_nil, List.length_map, List.length_take, List.length_drop] at *; omega) | (rw [wrap64_id (by omega) (by omega)]; omega) | (simp; done) | (simp [spare_len]; done) | (exact ⟨by omega, by omega⟩))); (try simp only [hb, go_sem]))
    | (
        refine AWP.here 4 11 4 rfl ?_
        refine AWP.loopN (ι := Nat) [4, 11, 12, 13, 14, 15, 16, 17, 18, 19, 20, 21, 22, 23, 24, 25] (fun (i : Nat) => [(5, i64 i)]) (fun (i : Nat) => i ≤ p.length ∧ p.length = q.length ∧ p.take i = q.take i) (fun (i : Nat) => p.length - i) (0) ?_ ?_ ?_
        · (try simp only [go_sem]); (repeat' (first | refine And.intro ?_ ?_ | exact .inl rfl | exact .inr rfl | exact .inr ⟨rfl, rfl⟩ | trivial | exact .inr (oblA rfl) | exact .inr ⟨rfl, oblA rfl⟩ | exact .inr bel_strs | exact .inr ⟨rfl, bel_strs⟩ | exact .inr ⟨by simp, bel_strs⟩ | (simp; done) | exact .inr ⟨rfl, by simp⟩ | exact .inr ⟨by simp, by simp⟩)); done
        · exact ⟨by omega, by omega, by simp⟩
        rintro i ⟨h1, h2, h3⟩
        simp only [go_sem])
    | (
        refine ⟨i + 1, ?_, ?_, ?_⟩
        · (try simp only [go_sem]); (try rw [wrap64_id (by omega) (by omega)]); (repeat' (first | refine And.intro ?_ ?_ | exact .inl rfl | exact .inr rfl | exact .inr ⟨rfl, rfl⟩ | trivial | exact .inr (oblA rfl) | exact .inr ⟨rfl, oblA rfl⟩ | exact .inr bel_strs | exact .inr ⟨rfl, bel_strs⟩ | exact .inr ⟨by simp, bel_strs⟩ | (simp; done) | exact .inr ⟨rfl, by simp⟩ | exact .inr ⟨by simp, by simp⟩)); done
        · exact ⟨by omega, by omega, eq_next (a := p) (b := q) (by assumption) (by assumption) (by first | assumption | (apply Classical.byContradiction; assumption)) h3⟩
        · (try simp only []); omega)
    | (
        refine AWP.ret ?_
        refine AEnd.is ?_; simp only [go_sem, out_v, out_s, out_n, v_int, v_bool, v_str] <;> (first
        | (rw [eq_no1 (by omega)]; done)
        | (rw [eq_no2 (a := p) (b := q) (by assumption) (by assumption) (by assumption)]; done)
        | (rw [eq_yes h2 (by omega) h3]; done)))
    | refine AWP.fin (by assumption) ?_
    | fail)

set_option maxHeartbeats 4000000 in
set_option maxRecDepth 8000 in
theorem numbers_c (p q : List Int) (hl : p.length ≤ 9223372036854775807) : ACalls E 16 [.sl none 1 (p.map i64), .sl none 1 (q.map i64)] (fun r t => r = bl (decide (p = q)) ∧ t = []) := by -- checkroll/checkrollref22.Numbers
  refine ACalls.of_awp (n := 26) (rs := [.tmp 4]) Try.func16 rfl Try.ntmps16 rfl ?_
  repeat' (first
    | refine AWP.seqk fun K hK => ?_
    | (refine AWP.region ?_; simp only [go_sem])
    | (refine AWP.here 6 17 9 rfl ?_; refine AWP.regionO [0, 1, 2, 3, 4, 5, 6, 7, 8] [] (by kernel_rfl) (by kernel_rfl) rfl ?_; simp only [go_sem])
    | (refine hK _ ?_; clear hK K)
    | refine AWP.block ?_
    | refine AWP.cond rfl (fun c => ?_) (fun c => ?_) <;> first | exact Bool.noConfusion c | (try simp only [dD] at c)
    | refine AWP.skip ?_
    | (refine AWP.exit ?_; simp only [go_sem])
    | (refine AGet.haveM (by assumption) ?_; (try simp only [go_sem]))
    | (refine AGet.have' (by assumption) ?_; (try simp only [go_sem]))
    | ((first | refine AGet.nth ?_ (fun b hb => ?_) | refine AGet.nth1 ?_ (fun b hb => ?_) | with_reducible refine And.intro ?_ ?_); (focus (first | omega | assumption | exact List.length_pos_iff.2 (by assumption) | (simp only [List.length_append, List.length_cons, List.length_nil, List.length_map, List.length_take, List.length_drop] at *; omega) | (rw [wrap64_id (by omega) (by omega)]; omega) | (simp; done) | (simp [spare_len]; done) | (exact ⟨by omega, by omega⟩))); (try simp only [hb, go_sem]))
    | (
        refine AWP.here 4 11 4 rfl ?_
        refine AWP.loopN (ι := Nat) [4, 11, 12, 13, 14, 15, 16, 17, 18, 19, 20, 21, 22, 23, 24, 25] (fun (i : Nat) => [(5, i64 i)]) (fun (i : Nat) => i ≤ p.length ∧ p.length = q.length ∧ p.take i = q.take i) (fun (i : Nat) => p.length - i) (0) ?_ ?_ ?_
        · (try simp only [go_sem]); (repeat' (first | refine And.intro ?_ ?_ | exact .inl rfl | exact .inr rfl | exact .inr ⟨rfl, rfl⟩ | trivial | exact .inr (oblA rfl) | exact .inr ⟨rfl, oblA rfl⟩ | exact .inr bel_strs | exact .inr ⟨rfl, bel_strs⟩ | exact .inr ⟨by simp, bel_strs⟩ | (simp; done) | exact .inr ⟨rfl, by simp⟩ | exact .inr ⟨by simp, by simp⟩)); done
        · exact ⟨by omega, by omega, by simp⟩
        rintro i ⟨h1, h2, h3⟩
        simp only [go_sem])
    | (
        refine ⟨i + 1, ?_, ?_, ?_⟩
        · (try simp only [go_sem]); (try rw [wrap64_id (by omega) (by omega)]); (repeat' (first | refine And.intro ?_ ?_ | exact .inl rfl | exact .inr rfl | exact .inr ⟨rfl, rfl⟩ | trivial | exact .inr (oblA rfl) | exact .inr ⟨rfl, oblA rfl⟩ | exact .inr bel_strs | exact .inr ⟨rfl, bel_strs⟩ | exact .inr ⟨by simp, bel_strs⟩ | (simp; done) | exact .inr ⟨rfl, by simp⟩ | exact .inr ⟨by simp, by simp⟩)); done
        · exact ⟨by omega, by omega, eq_next (a := p) (b := q) (by assumption) (by assumption) (by first | assumption | (apply Classical.byContradiction; assumption)) h3⟩
        · (try simp only []); omega)
    | (
        refine AWP.ret ?_
        refine AEnd.is ?_; simp only [go_sem, out_v, out_s, out_n, v_int, v_bool, v_str] <;> (first
        | (rw [eq_no1 (by omega)]; done)
        | (rw [eq_no2 (a := p) (b := q) (by assumption) (by assumption) (by assumption)]; done)
        | (rw [eq_yes h2 (by omega) h3]; done)))
    | refine AWP.fin (by assumption) ?_
    | fail)

set_option maxHeartbeats 4000000 in
set_option maxRecDepth 8000 in
theorem sclone_t (l : List Bs) (hl : l.length ≤ 1000000) : ACalls E 22 [.sl none 1 (l.map str)] (fun r t => r = .sl (some 0) 1 (l.map str) ∧ t = [l.length]) := by -- slices.Clone[[]string,string]
  refine ACalls.of_awp (n := 8) (rs := [.tmp 2]) Try.func22 rfl Try.ntmps22 rfl ?_
  repeat' (first
    | refine AWP.seqk fun K hK => ?_
    | (refine AWP.region ?_; simp only [go_sem])
    | (refine hK _ ?_; clear hK K)
    | refine AWP.block ?_
    | refine AWP.cond rfl (fun c => ?_) (fun c => ?_) <;> first | exact Bool.noConfusion c | (try simp only [dD] at c)
    | refine AWP.skip ?_
    | (refine AWP.exit ?_; simp only [go_sem])
    | (refine AGet.haveM (by assumption) ?_; (try simp only [go_sem]))
    | (refine AGet.have' (by assumption) ?_; (try simp only [go_sem]))
    | ((first | refine AGet.nth ?_ (fun b hb => ?_) | refine AGet.nth1 ?_ (fun b hb => ?_) | with_reducible refine And.intro ?_ ?_); (focus (first | omega | assumption | exact List.length_pos_iff.2 (by assumption) | (simp only [List.length_append, List.length_cons, List.length_nil, List.length_map, List.length_take, List.length_drop] at *; omega) | (rw [wrap64_id (by omega) (by omega)]; omega) | (simp; done) | (simp [spare_len]; done) | (exact ⟨by omega, by omega⟩))); (try simp only [hb, go_sem]))
    | (
        refine AWP.ret ?_
        simp only [go_sem]
        first
        | (have he : l = [] := by
             apply Classical.byContradiction; intro hne
             have := hbb (by simpa using hne)
             rw [this] at c; exact absurd c (by simp)
           exact ⟨[(false, 1)], .sl (some 0) 1 [], rfl, rfl, by rw [he]; rfl, by rw [he]; rfl⟩)
        | exact ⟨[(true, 0)], .sl (some 0) 1 _, rfl, ⟨rfl, rfl, rfl⟩, by simp, by simp [selLens]⟩)
    | (refine fun (bb : Bool) (hbb : _ → bb = false) => ?_)
    | refine AWP.fin (by assumption) ?_
    | fail)


end Go.Proofs.Ytceiiajacnihjaa
