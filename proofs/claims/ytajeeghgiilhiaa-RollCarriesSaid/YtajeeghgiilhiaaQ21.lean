import Derived.Test.YtajeeghgiilhiaaN1
import Derived.Test.YtajeeghgiilhiaaFacts
import Derived.Test.YtajeeghgiilhiaaLm
import Derived.Test.YtajeeghgiilhiaaShelf
import Derived.Test.YtajeeghgiilhiaaPq
set_option linter.unusedVariables false
set_option linter.unusedSimpArgs false
namespace Go.Proofs.Ytajeeghgiilhiaa
open Go Go.Abs Go.RowKit Go.Bk
theorem tup2_0 {im : Im} (a b : Value) : VR0 im (.tup [.v a, .v b]) (.tuple #[a, b]) := .tup [_, _] [_, _] rfl (fun i c u h1 h2 => by
  match i with
  | 0 => simp at h1 h2; subst h1; subst h2; exact .v _
  | 1 => simp at h1 h2; subst h1; subst h2; exact .v _
  | i + 2 => simp at h1)
theorem tup2 {c : Ctx} (a b : Value) : VR c (.tup [.v a, .v b]) (.tuple #[a, b]) := .base (tup2_0 a b)
theorem mul64_c (x y : Nat) (hx : x < 18446744073709551616) (hy : y < 18446744073709551616) : ACalls E 60 [.v (.int .u64 x), .v (.int .u64 y)] (fun r t => r = .tup [.v (.int .u64 ((x * y / 18446744073709551616 : Nat) : Int)), .v (.int .u64 ((x * y % 18446744073709551616 : Nat) : Int))] ∧ t = []) :=
  ACalls.of_pure (E := E) (f := 60) (xs := [.int .u64 x, .int .u64 y]) (S := fun v => v = .tuple #[.int .u64 ((x * y / 18446744073709551616 : Nat) : Int), .int .u64 ((x * y % 18446744073709551616 : Nat) : Int)])
    (fun w _ => (Try.bits_Mul64 x y hx hy w).mono (by rintro e w' ⟨rfl, rfl⟩; exact ⟨⟨_, rfl, rfl⟩, rfl⟩))
    (by rintro v rfl; exact ⟨_, fun _ => tup2_0 _ _, rfl, rfl⟩)
theorem add64_run (x y c : Int) (hx : 0 ≤ x) (hx2 : x < M64) (hy : 0 ≤ y) (hy2 : y < M64) (hc : 0 ≤ c) (hc2 : c ≤ 1) (w : World) : (callFunc 62 #[.int .u64 x, .int .u64 y, .int .u64 c]).run E.P w = .ok (.value (.tuple #[.int .u64 ((x + y + c) % M64), .int .u64 ((x + y + c) / M64)])) w := by
  obtain ⟨x, rfl⟩ := Int.eq_ofNat_of_zero_le hx
  obtain ⟨y, rfl⟩ := Int.eq_ofNat_of_zero_le hy
  obtain ⟨c, rfl⟩ := Int.eq_ofNat_of_zero_le hc
  unfold M64 at *
  show (callFunc 62 _).run Try.prog w = _
  rw [run_callFunc_extern Try.func62 (by kernel_rfl) (by kernel_rfl) (by kernel_rfl) (e := add64Entry) (by kernel_rfl), run_add64 x y c (by omega) (by omega) (by omega) (by omega)]
  simp only [Result.andThen]
  (try congr 5 <;> omega)
theorem add_step1 {l : List Int} {i : Nat} {n : Int} (hn : l[i]? = some n) (w : World) : (callFunc 62 [.int .u64 (loW (sumL (l.take i))), .int .u64 (IntKind.u64.wrap n), .int .u64 0].toArray).run E.P w = .ok (.value (.tuple #[.int .u64 (loW (sumL (l.take (i + 1)))), .int .u64 ((loW (sumL (l.take i)) + n % M64) / M64)])) w := by
  have h1 := lo_rng (sumL (l.take i))
  have h2 : 0 ≤ n % M64 ∧ n % M64 < M64 := ⟨Int.emod_nonneg _ (by decide), Int.emod_lt_of_pos _ (by decide)⟩
  rw [u64_wrap]
  refine (add64_run _ _ 0 h1.1 h1.2 h2.1 h2.2 (by omega) (by omega) w).trans ?_
  rw [Int.add_zero, add_lo, take_next hn, sumL_app]
  simp [sumL]
theorem add_step2 {l : List Int} {i : Nat} {n : Int} (hn : l[i]? = some n) (hr : -4611686018427387904 ≤ n ∧ n ≤ 4611686018427387904) (w : World) : (callFunc 62 [.int .u64 (hiW (sumL (l.take i))), .int .u64 (IntKind.u64.wrap (n.fdiv (2 ^ (min 63 64)))), .int .u64 ((loW (sumL (l.take i)) + n % M64) / M64)].toArray).run E.P w =
    .ok (.value (.tuple #[.int .u64 (hiW (sumL (l.take (i + 1)))), .int .u64 ((hiW (sumL (l.take i)) + (n / 9223372036854775808) % M64 + (loW (sumL (l.take i)) + n % M64) / M64) / M64)])) w := by
  have h1 := hi_rng (sumL (l.take i))
  have h2 : 0 ≤ (n / 9223372036854775808) % M64 ∧ (n / 9223372036854775808) % M64 < M64 := ⟨Int.emod_nonneg _ (by decide), Int.emod_lt_of_pos _ (by decide)⟩
  have h3 := add_carry (sumL (l.take i)) n
  rw [u64_wrap, show (2 : Int) ^ (min 63 64) = 9223372036854775808 by decide, Int.fdiv_eq_ediv_of_nonneg _ (by omega)]
  refine (add64_run _ _ _ h1.1 h1.2 h2.1 h2.2 (by omega) (by omega) w).trans ?_
  rw [add_hi (by omega) (by omega), take_next hn, sumL_app]
  simp [sumL]
theorem all_num {l : List Int} {i : Nat} {n : Int} (hn : l[i]? = some n) (h : (l.take i).all numB = true) (h2 : numB n = true) : (l.take (i + 1)).all numB = true := by
  rw [take_next hn, List.all_append, h]; simp [h2]
section
variable {a b : Int}
theorem mul_no1 (h : numB a = false) : mulF a b = (0, false) := by unfold mulF; simp [h]
theorem mul_no2 (h : numB b = false) : mulF a b = (0, false) := by unfold mulF; simp [h]
theorem mul_abs : (a * b).natAbs = a.natAbs * b.natAbs := Int.natAbs_mul a b
theorem mul_no3 (h : ¬ ((a.natAbs * b.natAbs / 18446744073709551616 : Nat) : Int) = 0 ∨ (4611686018427387904 : Int) < ((a.natAbs * b.natAbs % 18446744073709551616 : Nat) : Int)) : mulF a b = (0, false) := by
  have hm : numB (a * b) = false := by
    rw [numB_no]; rw [← mul_abs] at h; omega
  unfold mulF; simp [hm]
theorem mul_cast : ((a.natAbs * b.natAbs : Nat) : Int) = (a.natAbs : Int) * (b.natAbs : Int) := Int.natCast_mul _ _
theorem mul_neg (c : ¬ decide (a < 0) = decide (b < 0)) : a * b = -((a.natAbs * b.natAbs : Nat) : Int) := by
  rw [mul_cast]
  by_cases h1 : a < 0 <;> by_cases h2 : b < 0
  · simp [h1, h2] at c
  · rw [show (a.natAbs : Int) = -a by omega, show (b.natAbs : Int) = b by omega, Int.neg_mul, Int.neg_neg]
  · rw [show (a.natAbs : Int) = a by omega, show (b.natAbs : Int) = -b by omega, Int.mul_neg, Int.neg_neg]
  · simp [h1, h2] at c
theorem mul_pos' (c : decide (a < 0) = decide (b < 0)) : a * b = ((a.natAbs * b.natAbs : Nat) : Int) := by
  rw [mul_cast]
  by_cases h1 : a < 0 <;> by_cases h2 : b < 0
  · rw [show (a.natAbs : Int) = -a by omega, show (b.natAbs : Int) = -b by omega, Int.neg_mul, Int.mul_neg, Int.neg_neg]
  · simp [h1, h2] at c
  · simp [h1, h2] at c
  · rw [show (a.natAbs : Int) = a by omega, show (b.natAbs : Int) = b by omega]
variable (ha : numB a = true) (hb : numB b = true) (h : ((a.natAbs * b.natAbs / 18446744073709551616 : Nat) : Int) = 0) (h2 : ¬ (4611686018427387904 : Int) < ((a.natAbs * b.natAbs % 18446744073709551616 : Nat) : Int))
include ha hb h h2
theorem mul_fin : mulF a b = (a * b, true) := by
  have : numB (a * b) = true := by
    rw [numB_iff]; rw [← mul_abs] at h h2; omega
  unfold mulF; rw [ha, hb, this]; rfl
theorem mul_y1 (c : ¬ decide (a < 0) = decide (b < 0)) : IntKind.i64.wrap (0 - IntKind.i64.wrap ((a.natAbs * b.natAbs % 18446744073709551616 : Nat) : Int)) = (mulF a b).1 := by
  rw [mul_fin ha hb h h2, mul_neg c]
  generalize a.natAbs * b.natAbs = p at *
  rw [wrap64_id (x := ((p % 18446744073709551616 : Nat) : Int)) (by omega) (by omega), wrap64_id (by omega) (by omega)]; simp only []; omega
theorem mul_y2 (c : decide (a < 0) = decide (b < 0)) : IntKind.i64.wrap ((a.natAbs * b.natAbs % 18446744073709551616 : Nat) : Int) = (mulF a b).1 := by
  rw [mul_fin ha hb h h2, mul_pos' c]
  generalize a.natAbs * b.natAbs = p at *
  rw [wrap64_id (by omega) (by omega)]; simp only []; omega
end
theorem wrap_lo (s : Int) : IntKind.i64.wrap (loW s) = IntKind.i64.wrap s := by
  unfold IntKind.wrap loW
  have h3 : (s % M64) % (2 : Int) ^ IntKind.i64.bits = s % (2 : Int) ^ IntKind.i64.bits := by
    show (s % M64) % (2 : Int) ^ 64 = s % (2 : Int) ^ 64
    unfold M64; omega
  exact congrArg (fun r : Int => if (IntKind.i64.signed && decide (r ≥ 2 ^ (IntKind.i64.bits - 1))) = true then r - 2 ^ IntKind.i64.bits else r) h3
section
variable {l : List Int} {i : Nat} (hl : l.length ≤ 1000000) (hi : ¬ (i : Int) < l.length) (hi2 : i ≤ l.length) (ha : (l.take i).all numB = true)
include hl hi ha
theorem sum_fits (h : hiW (sumL (l.take i)) = IntKind.u64.wrap ((IntKind.i64.wrap (loW (sumL (l.take i)))).fdiv (2 ^ min 63 64))) : IntKind.i64.wrap (loW (sumL (l.take i))) = sumL (l.take i) := by
  have hb := sumL_bnd ha
  have hlen : (l.take i).length ≤ 1000000 := by rw [List.length_take]; omega
  rw [u64_wrap, show (2 : Int) ^ (min 63 64) = 9223372036854775808 by decide, Int.fdiv_eq_ediv_of_nonneg _ (by omega)] at h
  exact (fits (by omega) (by omega)).1 h
theorem sum_no1 (h : hiW (sumL (l.take i)) = IntKind.u64.wrap ((IntKind.i64.wrap (loW (sumL (l.take i)))).fdiv (2 ^ min 63 64))) (c : numB (IntKind.i64.wrap (loW (sumL (l.take i)))) = false) : sumF l = (0, false) := by
  rw [sum_fits hl hi ha h] at c
  rw [List.take_of_length_le (by omega)] at c ha
  exact sumF_over ha c
theorem sum_yes (h : hiW (sumL (l.take i)) = IntKind.u64.wrap ((IntKind.i64.wrap (loW (sumL (l.take i)))).fdiv (2 ^ min 63 64))) (c : numB (IntKind.i64.wrap (loW (sumL (l.take i)))) = true) : sumF l = (IntKind.i64.wrap (loW (sumL (l.take i))), true) := by
  rw [sum_fits hl hi ha h] at c ⊢
  rw [List.take_of_length_le (by omega)] at c ha ⊢
  exact sumF_yes ha c
theorem sum_no2 (h : ¬ hiW (sumL (l.take i)) = IntKind.u64.wrap ((IntKind.i64.wrap (loW (sumL (l.take i)))).fdiv (2 ^ min 63 64))) : sumF l = (0, false) := by
  have hb := sumL_bnd ha
  have hlen : (l.take i).length ≤ 1000000 := by rw [List.length_take]; omega
  rw [u64_wrap, show (2 : Int) ^ (min 63 64) = 9223372036854775808 by decide, Int.fdiv_eq_ediv_of_nonneg _ (by omega), fits (by omega) (by omega), wrap_lo] at h
  have hn : numB (sumL (l.take i)) = false := by
    rw [numB_no]; intro h2; exact h (wrap64_id (by omega) (by omega))
  rw [List.take_of_length_le (by omega)] at ha hn
  exact sumF_over ha hn
end

set_option maxHeartbeats 4000000 in
set_option maxRecDepth 8000 in
theorem numr_c (n : Int) : ACalls E 47 [i64 n] (fun r t => r = bl (numB n) ∧ t = []) := by -- checkroll/num.Right
  refine ACalls.of_awp (n := 9) (rs := [.tmp 2]) Try.func47 rfl Try.ntmps47 rfl ?_
  repeat' (first
    | refine AWP.seqk fun K hK => ?_
    | (refine AWP.region ?_; simp only [go_sem])
    | (refine hK _ ?_; clear hK K)
    | refine AWP.block ?_
    | refine AWP.cond rfl (fun c => ?_) (fun c => ?_) <;> first | exact Bool.noConfusion c | (try simp only [dD] at c)
    | refine AWP.skip ?_
    | (refine AWP.exit ?_; simp only [go_sem])
    | (refine AGuard.splitN (fun h => ?_) (fun h => ?_) <;> simp only [h, go_sem] <;> (try simp only [dD] at h))
    | (refine AGuard.split (fun h => ?_) (fun h => ?_) <;> simp only [h, go_sem] <;> (try simp only [dD] at h))
    | (refine AGet.haveM (by assumption) ?_; (try simp only [go_sem]))
    | (refine AGet.have' (by assumption) ?_; (try simp only [go_sem]))
    | ((first | refine AGet.nth ?_ (fun b hb => ?_) | refine AGet.nth1 ?_ (fun b hb => ?_) | with_reducible refine And.intro ?_ ?_); (focus (first | omega | assumption | exact List.length_pos_iff.2 (by assumption) | (simp only [List.length_append, List.length_cons, List.length_nil, List.length_map, List.length_take, List.length_drop] at *; omega) | (rw [wrap64_id (by omega) (by omega)]; omega) | (simp; done) | (simp [spare_len]; done) | (exact ⟨by omega, by omega⟩))); (try simp only [hb, go_sem]))
    | (
        refine AWP.ret ?_
        refine AEnd.is ?_; simp only [go_sem, out_v, out_s, out_n, v_int, v_bool, v_str] <;> (simp [numB, *] <;> omega))
    | refine AWP.fin (by assumption) ?_)

set_option maxHeartbeats 4000000 in
set_option maxRecDepth 8000 in
theorem nsize_c (n : Int) (h : numB n = true) : ACalls E 61 [i64 n] (fun r t => r = .v (.int .u64 (n.natAbs : Int)) ∧ t = []) := by -- checkroll/num.size
  have hb := numB_iff.1 h
  refine ACalls.of_awp (n := 9) (rs := [.tmp 2]) Try.func61 rfl Try.ntmps61 rfl ?_
  repeat' (first
    | refine AWP.seqk fun K hK => ?_
    | (refine AWP.region ?_; simp only [go_sem])
    | (refine hK _ ?_; clear hK K)
    | refine AWP.block ?_
    | refine AWP.cond rfl (fun c => ?_) (fun c => ?_) <;> first | exact Bool.noConfusion c | (try simp only [dD] at c)
    | refine AWP.skip ?_
    | (refine AWP.exit ?_; simp only [go_sem])
    | (refine AGet.haveM (by assumption) ?_; (try simp only [go_sem]))
    | (refine AGet.have' (by assumption) ?_; (try simp only [go_sem]))
    | ((first | refine AGet.nth ?_ (fun b hb => ?_) | refine AGet.nth1 ?_ (fun b hb => ?_) | with_reducible refine And.intro ?_ ?_); (focus (first | omega | assumption | exact List.length_pos_iff.2 (by assumption) | (simp only [List.length_append, List.length_cons, List.length_nil, List.length_map, List.length_take, List.length_drop] at *; omega) | (rw [wrap64_id (by omega) (by omega)]; omega) | (simp; done) | (simp [spare_len]; done) | (exact ⟨by omega, by omega⟩))); (try simp only [hb, go_sem]))
    | (
        refine AWP.ret ?_
        refine AEnd.is ?_; simp only [go_sem, out_v, out_s, out_n, v_int, v_bool, v_str] <;> (first | (rw [u64_wrap]; unfold M64; rw [wrap64_id (by omega) (by omega)]; omega) | (rw [u64_wrap]; unfold M64; omega) | skip))
    | refine AWP.fin (by assumption) ?_)

set_option maxHeartbeats 4000000 in
set_option maxRecDepth 8000 in
theorem nmul_c (a b : Int) : ACalls E 43 [i64 a, i64 b] (fun r t => r = .tup [i64 (mulF a b).1, bl (mulF a b).2] ∧ t = []) := by -- checkroll/num.Mul
  refine ACalls.of_awp (n := 41) (rs := [.tmp 4, .tmp 5]) Try.func43 rfl Try.ntmps43 rfl ?_
  repeat' (first
    | refine AWP.seqk fun K hK => ?_
    | (refine AWP.region ?_; simp only [go_sem])
    | (refine hK _ ?_; clear hK K)
    | refine AWP.block ?_
    | refine AWP.cond rfl (fun c => ?_) (fun c => ?_) <;> first | exact Bool.noConfusion c | (try simp only [dD] at c)
    | refine AWP.skip ?_
    | (refine AWP.exit ?_; simp only [go_sem])
    | (refine ACall.one (numr_c _) (by kernel_rfl) rfl ?_; simp only [go_sem])
    | (refine ACall.one (nsize_c _ (by assumption)) (by kernel_rfl) rfl ?_; simp only [go_sem])
    | (have ha := numB_iff.1 (show numB a = true by assumption); have hb := numB_iff.1 (show numB b = true by assumption); refine ACall.one (mul64_c a.natAbs b.natAbs (by omega) (by omega)) (by kernel_rfl) rfl ?_; simp only [go_sem])
    | (refine AGuard.splitN (fun h => ?_) (fun h => ?_) <;> simp only [h, go_sem] <;> (try simp only [dD] at h))
    | (refine AGuard.split (fun h => ?_) (fun h => ?_) <;> simp only [h, go_sem] <;> (try simp only [dD] at h))
    | (refine AGet.haveM (by assumption) ?_; (try simp only [go_sem]))
    | (refine AGet.have' (by assumption) ?_; (try simp only [go_sem]))
    | ((first | refine AGet.nth ?_ (fun b hb => ?_) | refine AGet.nth1 ?_ (fun b hb => ?_) | with_reducible refine And.intro ?_ ?_); (focus (first | omega | assumption | exact List.length_pos_iff.2 (by assumption) | (simp only [List.length_append, List.length_cons, List.length_nil, List.length_map, List.length_take, List.length_drop] at *; omega) | (rw [wrap64_id (by omega) (by omega)]; omega) | (simp; done) | (simp [spare_len]; done) | (exact ⟨by omega, by omega⟩))); (try simp only [hb, go_sem]))
    | (
        refine AWP.ret ?_
        refine AEnd.is ?_; simp only [go_sem, out_v, out_s, out_n, v_int, v_bool, v_str] <;> (first
        | (rw [mul_no1 (by assumption)]; simp; done)
        | (rw [mul_no2 (by assumption)]; simp; done)
        | (rw [mul_no3 (.inl (by assumption))]; simp; done)
        | (rw [mul_no3 (.inr (by assumption))]; simp; done)
        | (rw [mul_y1 (by assumption) (by assumption) (by assumption) (by assumption) (by assumption), mul_fin (by assumption) (by assumption) (by assumption) (by assumption)]; simp; done)
        | (rw [mul_y2 (by assumption) (by assumption) (by assumption) (by assumption) (by assumption), mul_fin (by assumption) (by assumption) (by assumption) (by assumption)]; simp; done)
        | skip))
    | refine AWP.fin (by assumption) ?_)

set_option maxHeartbeats 4000000 in
set_option maxRecDepth 8000 in
theorem nsum_c (l : List Int) (hl : l.length ≤ 1000000) : ACalls E 44 [.sl none 1 (l.map i64)] (fun r t => r = .tup [i64 (sumF l).1, bl (sumF l).2] ∧ t = []) := by -- checkroll/num.Sum
  refine ACalls.of_awp (n := 49) (rs := [.tmp 2, .tmp 3]) Try.func44 rfl Try.ntmps44 rfl ?_
  repeat' (first
    | refine AWP.seqk fun K hK => ?_
    | (
        refine AWP.here 4 14 3 rfl ?_
        obtain ⟨n, hn⟩ : ∃ n, l[i]? = some n := ⟨_, List.getElem?_eq_getElem (by omega)⟩
        refine AWP.region ?_; simp only [go_sem])
    | (
        refine AWP.here 8 20 9 rfl ?_
        have hnr := numB_iff.1 (show numB n = true by assumption)
        refine AWP.regionL ?_
        refine AWPL.at 9 3 rfl ?_
        simp only [go_sem]
        refine AWPL.native [.int .u64 (loW (sumL (l.take i))), .int .u64 (IntKind.u64.wrap n), .int .u64 0] _ _ rfl (add_step1 hn) (fun c => tup2 _ _) ?_
        simp only [go_sem]
        refine AWPL.of ?_
        simp only [go_sem])
    | (
        refine AWP.here 9 27 10 rfl ?_
        refine AWP.regionL ?_
        refine AWPL.at 10 5 rfl ?_
        simp only [go_sem]
        refine AWPL.native [.int .u64 (hiW (sumL (l.take i))), .int .u64 (IntKind.u64.wrap (n.fdiv (2 ^ (min 63 64)))), .int .u64 ((loW (sumL (l.take i)) + n % M64) / M64)] _ _ rfl (add_step2 hn hnr) (fun c => tup2 _ _) ?_
        simp only [go_sem]
        refine AWPL.of ?_
        simp only [go_sem])
    | (refine AWP.region ?_; simp only [go_sem])
    | (refine hK _ ?_; clear hK K)
    | refine AWP.block ?_
    | refine AWP.cond rfl (fun c => ?_) (fun c => ?_) <;> first | exact Bool.noConfusion c | (try simp only [dD] at c)
    | refine AWP.skip ?_
    | (refine AWP.exit ?_; simp only [go_sem])
    | (refine ACall.one (numr_c _) (by kernel_rfl) rfl ?_; simp only [go_sem])
    | (refine AGuard.splitN (fun h => ?_) (fun h => ?_) <;> simp only [h, go_sem] <;> (try simp only [dD] at h))
    | (refine AGuard.split (fun h => ?_) (fun h => ?_) <;> simp only [h, go_sem] <;> (try simp only [dD] at h))
    | (refine AGet.haveM (by assumption) ?_; (try simp only [go_sem]))
    | (refine AGet.have' (by assumption) ?_; (try simp only [go_sem]))
    | ((first | refine AGet.nth ?_ (fun b hb => ?_) | refine AGet.nth1 ?_ (fun b hb => ?_) | with_reducible refine And.intro ?_ ?_); (focus (first | omega | assumption | exact List.length_pos_iff.2 (by assumption) | (simp only [List.length_append, List.length_cons, List.length_nil, List.length_map, List.length_take, List.length_drop] at *; omega) | (rw [wrap64_id (by omega) (by omega)]; omega) | (simp; done) | (simp [spare_len]; done) | (exact ⟨by omega, by omega⟩))); (try simp only [hb, go_sem]))
    | (
        refine AWP.here 3 13 1 rfl ?_
        refine AWP.loopN (ι := Nat) [2, 3, 7, 8, 13, 14, 15, 16, 17, 18, 19, 20, 21, 22, 23, 24, 25, 26, 27, 28, 29, 30, 31, 32, 33, 34, 35] (fun (i : Nat) => [(12, i64 i), (4, (.v (.int .u64 (hiW (sumL (l.take i)))))), (5, (.v (.int .u64 (loW (sumL (l.take i))))))]) (fun (i : Nat) => i ≤ l.length ∧ (l.take i).all numB = true) (fun (i : Nat) => l.length - i) (0) ?_ ?_ ?_
        · (try simp only [go_sem]); (repeat' (first | refine And.intro ?_ ?_ | exact .inl rfl | exact .inr rfl | exact .inr ⟨rfl, rfl⟩ | trivial | exact .inr (oblA rfl) | exact .inr ⟨rfl, oblA rfl⟩ | exact .inr bel_strs | exact .inr ⟨rfl, bel_strs⟩ | exact .inr ⟨by simp, bel_strs⟩ | (simp; done) | exact .inr ⟨rfl, by simp⟩ | exact .inr ⟨by simp, by simp⟩)); done
        · exact ⟨Nat.zero_le _, by simp⟩
        rintro i ⟨h1, h2⟩
        simp only [go_sem])
    | (
        refine ⟨i + 1, ?_, ?_, ?_⟩
        · (try simp only [go_sem]); (try rw [wrap64_id (by omega) (by omega)]); (try rw [step_hi hn hnr]); (repeat' (first | refine And.intro ?_ ?_ | exact .inl rfl | exact .inr rfl | exact .inr ⟨rfl, rfl⟩ | trivial | exact .inr (oblA rfl) | exact .inr ⟨rfl, oblA rfl⟩ | exact .inr bel_strs | exact .inr ⟨rfl, bel_strs⟩ | exact .inr ⟨by simp, bel_strs⟩ | (simp; done) | exact .inr ⟨rfl, by simp⟩ | exact .inr ⟨by simp, by simp⟩)); done
        · exact ⟨by omega, all_num hn h2 (by assumption)⟩
        · (try simp only []); omega)
    | (
        refine AWP.ret ?_
        refine AEnd.is ?_; simp only [go_sem, out_v, out_s, out_n, v_int, v_bool, v_str] <;> (first
        | (rw [sumF_no hn (by assumption)]; simp; done)
        | (rw [sum_no1 hl (by assumption) h2 (by assumption) (by assumption)]; simp; done)
        | (rw [sum_yes hl (by assumption) h2 (by assumption) (by assumption)]; simp; done)
        | (rw [sum_no2 hl (by assumption) h2 (by assumption)]; simp; done)
        | skip))
    | refine AWP.fin (by assumption) ?_)


end Go.Proofs.Ytajeeghgiilhiaa
