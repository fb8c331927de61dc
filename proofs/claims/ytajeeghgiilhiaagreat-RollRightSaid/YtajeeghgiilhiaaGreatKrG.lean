/- Texts of one chain, put together (K3, MrK, Le, Sr, Q2, Q3, Q4, Q19, Q22, Q5, Q6, Q29, G1, Ln, Lo, Lu, Lv, Lr, Lt). -/
import Derived.Test.YtajeeghgiilhiaaGreatKrE
import Derived.Test.YtajeeghgiilhiaaGreatKrF
import Derived.Shelf.SlIter.Sorted
import Derived.Test.YtajeeghgiilhiaaGreatKrD
import Derived.RangeFuncBox
import Derived.RangeFuncLeaves
import Derived.Shelf.Abstract
import Derived.WalkKit
import Derived.OwnWalkIn
import Derived.TacticsInMore
import Derived.LoopNIn
import Derived.LoopIn
import Derived.Laws.MakeOwn
section
set_option linter.unusedVariables false
set_option linter.unusedSimpArgs false
namespace Go.Proofs.YtajeeghgiilhiaaGreat
open Go Go.Abs Go.RowKit Go.Bk

set_option maxHeartbeats 4000000 in
set_option maxRecDepth 8000 in
theorem r1right_c (n : Int) : ACalls E 64 [i64 n] (fun r t => r = bl (numB n) ∧ t = []) := by -- checkroll/checkrollref01.Right
  refine ACalls.of_awp (n := 9) (rs := [.tmp 2]) Tryz.func64 rfl Tryz.ntmps64 rfl ?_
  repeat' (first
    | refine AWP.seqk fun K hK => ?_
    | (refine AWP.region ?_; simp only [go_sem])
    | (refine hK _ ?_; clear hK K)
    | refine AWP.block ?_
    | refine AWP.cond rfl (fun c => ?_) (fun c => ?_) <;> first | exact Bool.noConfusion c | (try simp only [dD] at c)
    | refine AWP.skip ?_
    | (refine AWP.exit ?_; simp only [go_sem])
    | (refine AGuard.splitN (fun h => ?_) (fun h => ?_) <;> simp only [h, go_sem] <;> (try simp only [dD] at h))
    | (refine AGuard.split (fun h => ?_) (fun h => ?_) <;> simp only [h, go_sem] <;> (try simp only [dD] at h))
    | (refine AGet.haveM (by assumption) ?_; (try simp only [go_sem]))
    | (refine AGet.have' (by assumption) ?_; (try simp only [go_sem]))
    | ((first | refine AGet.nth ?_ (fun b hb => ?_) | refine AGet.nth1 ?_ (fun b hb => ?_) | with_reducible refine And.intro ?_ ?_); (focus (first | omega | assumption | exact List.length_pos_iff.2 (by assumption) | (simp only [List.length_append, List.length_cons, List.length_nil, List.length_map, List.length_take, List.length_drop] at *; omega) | (rw [wrap64_id (by omega) (by omega)]; omega) | (simp; done) | (simp [spare_len]; done) | (exact ⟨by omega, by omega⟩))); (try simp only [hb, go_sem]))
    | (
        refine AWP.ret ?_
        refine AEnd.is ?_; simp only [go_sem, out_v, out_s, out_n, v_int, v_bool, v_str] <;> (try ((simp [numB, *] <;> omega))))
    | refine AWP.fin (by assumption) ?_
    | fail)

set_option maxHeartbeats 4000000 in
set_option maxRecDepth 8000 in
theorem r1sum_c (l : List Int) (hl : l.length ≤ 1000000) : ACalls E 142 [.sl none 1 (l.map i64)] (fun r t => r = .tup [i64 (sumF l).1, bl (sumF l).2] ∧ t = []) := by -- checkroll/checkrollref01.Sum
  refine ACalls.of_awp (n := 67) (rs := [.tmp 2, .tmp 3]) Tryz.func142 rfl Tryz.ntmps142 rfl ?_
  repeat' (first
    | refine AWP.seqk fun K hK => ?_
    | (
        refine AWP.here 4 15 6 rfl ?_
        obtain ⟨x, hx⟩ : ∃ x, l[i]? = some x := ⟨_, List.getElem?_eq_getElem (by omega)⟩
        refine AWP.region ?_; simp only [go_sem])
    | (
        refine AWP.here 10 27 8 rfl ?_
        obtain ⟨x, hx⟩ : ∃ x, l[i]? = some x := ⟨_, List.getElem?_eq_getElem (by omega)⟩
        have hn := numB_iff.1 (List.all_eq_true.1 hall x (List.mem_of_getElem? hx))
        have q1 := quo_rem x
        have q2 := rem_bnd x
        have hw0 : IntKind.i64.wrap (x.tdiv 1152921504606846976) = x.tdiv 1152921504606846976 := wrap64_id (by omega) (by omega)
        have hw1 : IntKind.i64.wrap (u + x.tdiv 1152921504606846976) = u + x.tdiv 1152921504606846976 := wrap64_id (by omega) (by omega)
        have hw2 : IntKind.i64.wrap (r + x.tmod 1152921504606846976) = r + x.tmod 1152921504606846976 := wrap64_id (by omega) (by omega)
        have hw3 : IntKind.i64.wrap (u + x.tdiv 1152921504606846976 + 1) = u + x.tdiv 1152921504606846976 + 1 := wrap64_id (by omega) (by omega)
        have hw4 : IntKind.i64.wrap (u + x.tdiv 1152921504606846976 - 1) = u + x.tdiv 1152921504606846976 - 1 := wrap64_id (by omega) (by omega)
        have hw5 : IntKind.i64.wrap (r + x.tmod 1152921504606846976 - 1152921504606846976) = r + x.tmod 1152921504606846976 - 1152921504606846976 := wrap64_id (by omega) (by omega)
        have hw6 : IntKind.i64.wrap (r + x.tmod 1152921504606846976 + 1152921504606846976) = r + x.tmod 1152921504606846976 + 1152921504606846976 := wrap64_id (by omega) (by omega)
        refine AWP.region ?_; simp only [go_sem])
    | (
        refine AWP.here 12 41 2 rfl ?_
        (try simp only [hw0, hw1, hw2, hw3, hw4, hw5, hw6])
        refine AWP.region ?_; simp only [go_sem])
    | (
        refine AWP.here 13 43 3 rfl ?_
        (try simp only [hw0, hw1, hw2, hw3, hw4, hw5, hw6])
        refine AWP.region ?_; simp only [go_sem])
    | (
        refine AWP.here 15 47 2 rfl ?_
        (try simp only [hw0, hw1, hw2, hw3, hw4, hw5, hw6])
        refine AWP.region ?_; simp only [go_sem])
    | (
        refine AWP.here 16 49 3 rfl ?_
        (try simp only [hw0, hw1, hw2, hw3, hw4, hw5, hw6])
        refine AWP.region ?_; simp only [go_sem])
    | (refine AWP.region ?_; simp only [go_sem])
    | (refine hK _ ?_; clear hK K)
    | refine AWP.block ?_
    | refine AWP.cond rfl (fun c => ?_) (fun c => ?_) <;> first | exact Bool.noConfusion c | (try simp only [dD] at c)
    | refine AWP.skip ?_
    | (refine AWP.exit ?_; simp only [go_sem])
    | (refine ACall.one (r1right_c x) (by kernel_rfl) rfl ?_; simp only [go_sem])
    | ((rw [show IntKind.i64.wrap (u * 1152921504606846976) = u * 1152921504606846976 from wrap64_id (by omega) (by omega), wrap64_id (by omega) (by omega)]); refine ACall.one (r1right_c (u * 1152921504606846976 + r)) (by kernel_rfl) rfl ?_; simp only [go_sem])
    | (refine AGuard.splitN (fun h => ?_) (fun h => ?_) <;> simp only [h, go_sem] <;> (try simp only [dD] at h))
    | (refine AGuard.split (fun h => ?_) (fun h => ?_) <;> simp only [h, go_sem] <;> (try simp only [dD] at h))
    | (refine AGet.haveM (by assumption) ?_; (try simp only [go_sem]))
    | (refine AGet.have' (by assumption) ?_; (try simp only [go_sem]))
    | ((first | refine AGet.nth ?_ (fun b hb => ?_) | refine AGet.nth1 ?_ (fun b hb => ?_) | with_reducible refine And.intro ?_ ?_); (focus (first | omega | assumption | exact List.length_pos_iff.2 (by assumption) | (simp only [List.length_append, List.length_cons, List.length_nil, List.length_map, List.length_take, List.length_drop] at *; omega) | (rw [wrap64_id (by omega) (by omega)]; omega) | (simp; done) | (simp [spare_len]; done) | (exact ⟨by omega, by omega⟩))); (try simp only [hb, go_sem]))
    | (
        refine AWP.here 2 9 4 rfl ?_
        refine AWP.loopN (ι := Nat) [2, 3, 9, 10, 11, 12, 13, 14, 15, 16, 17, 18, 19, 20] (fun (i : Nat) => [(4, i64 i)]) (fun (i : Nat) => i ≤ l.length ∧ (l.take i).all numB = true) (fun (i : Nat) => l.length - i) (0) ?_ ?_ ?_
        · (try simp only [go_sem]); (repeat' (first | refine And.intro ?_ ?_ | exact .inl rfl | exact .inr rfl | exact .inr ⟨rfl, rfl⟩ | trivial | exact .inr (oblA rfl) | exact .inr ⟨rfl, oblA rfl⟩ | exact .inr bel_strs | exact .inr ⟨rfl, bel_strs⟩ | exact .inr ⟨by simp, bel_strs⟩ | (simp; done) | exact .inr ⟨rfl, by simp⟩ | exact .inr ⟨by simp, by simp⟩)); done
        · exact ⟨Nat.zero_le _, by simp⟩
        rintro i ⟨h1, h2⟩
        simp only [go_sem])
    | (
        refine AWP.here 8 21 4 rfl ?_
        refine AWP.loopN (ι := Nat × Int × Int) [21, 22, 23, 24, 25, 26, 27, 28, 29, 30, 31, 32, 33, 34, 35, 36, 37, 38, 39, 40, 41, 42, 43, 44, 45, 46, 47, 48, 49, 50, 51, 52] (fun ⟨i, u, r⟩ => [(5, i64 u), (6, i64 r), (7, i64 i)]) (fun ⟨i, u, r⟩ => i ≤ l.length ∧ u * 1152921504606846976 + r = sumL (l.take i) ∧ -1152921504606846976 < r ∧ r < 1152921504606846976) (fun ⟨i, u, r⟩ => l.length - i) ((0, 0, 0)) ?_ ?_ ?_
        · (try simp only [go_sem]); (repeat' (first | refine And.intro ?_ ?_ | exact .inl rfl | exact .inr rfl | exact .inr ⟨rfl, rfl⟩ | trivial | exact .inr (oblA rfl) | exact .inr ⟨rfl, oblA rfl⟩ | exact .inr bel_strs | exact .inr ⟨rfl, bel_strs⟩ | exact .inr ⟨by simp, bel_strs⟩ | (simp; done) | exact .inr ⟨rfl, by simp⟩ | exact .inr ⟨by simp, by simp⟩)); done
        · exact ⟨by omega, by simp [sumL], by omega, by omega⟩
        rintro ⟨i, u, r⟩ ⟨g1, g2, g3, g4⟩
        simp only [go_sem]
        have hall := all_whole (by omega) h2
        have hsp := sum_part (i := i) hall hl)
    | (
        refine ⟨i + 1, ?_, ?_, ?_⟩
        · (try simp only [go_sem]); (try rw [wrap64_id (by omega) (by omega)]); (repeat' (first | refine And.intro ?_ ?_ | exact .inl rfl | exact .inr rfl | exact .inr ⟨rfl, rfl⟩ | trivial | exact .inr (oblA rfl) | exact .inr ⟨rfl, oblA rfl⟩ | exact .inr bel_strs | exact .inr ⟨rfl, bel_strs⟩ | exact .inr ⟨by simp, bel_strs⟩ | (simp; done) | exact .inr ⟨rfl, by simp⟩ | exact .inr ⟨by simp, by simp⟩)); done
        · exact ⟨by omega, all_take hx h2 (by assumption)⟩
        · (try simp only []); omega)
    | (
        first
        | (refine ⟨(i + 1, u + x.tdiv 1152921504606846976, r + x.tmod 1152921504606846976), ?_, ⟨by show i + 1 ≤ l.length; omega, by show (u + x.tdiv 1152921504606846976) * 1152921504606846976 + (r + x.tmod 1152921504606846976) = _; rw [sum_next hx]; omega, by show -1152921504606846976 < r + x.tmod 1152921504606846976; omega, by show r + x.tmod 1152921504606846976 < 1152921504606846976; omega⟩, by show l.length - (i + 1) < l.length - i; omega⟩
           (try simp only [go_sem, hw0, hw1, hw2, hw3, hw4, hw5, hw6]); (try rw [wrap64_id (by omega) (by omega)]); (repeat' (first | refine And.intro ?_ ?_ | exact .inl rfl | exact .inr rfl | exact .inr ⟨rfl, rfl⟩ | trivial | exact .inr (oblA rfl) | exact .inr ⟨rfl, oblA rfl⟩ | exact .inr bel_strs | exact .inr ⟨rfl, bel_strs⟩ | exact .inr ⟨by simp, bel_strs⟩ | (simp; done) | exact .inr ⟨rfl, by simp⟩ | exact .inr ⟨by simp, by simp⟩)); done)
        | (refine ⟨(i + 1, u + x.tdiv 1152921504606846976 + 1, r + x.tmod 1152921504606846976 - 1152921504606846976), ?_, ⟨by show i + 1 ≤ l.length; omega, by show (u + x.tdiv 1152921504606846976 + 1) * 1152921504606846976 + (r + x.tmod 1152921504606846976 - 1152921504606846976) = _; rw [sum_next hx]; omega, by show -1152921504606846976 < r + x.tmod 1152921504606846976 - 1152921504606846976; omega, by show r + x.tmod 1152921504606846976 - 1152921504606846976 < 1152921504606846976; omega⟩, by show l.length - (i + 1) < l.length - i; omega⟩
           (try simp only [go_sem, hw0, hw1, hw2, hw3, hw4, hw5, hw6]); (try rw [wrap64_id (by omega) (by omega)]); (repeat' (first | refine And.intro ?_ ?_ | exact .inl rfl | exact .inr rfl | exact .inr ⟨rfl, rfl⟩ | trivial | exact .inr (oblA rfl) | exact .inr ⟨rfl, oblA rfl⟩ | exact .inr bel_strs | exact .inr ⟨rfl, bel_strs⟩ | exact .inr ⟨by simp, bel_strs⟩ | (simp; done) | exact .inr ⟨rfl, by simp⟩ | exact .inr ⟨by simp, by simp⟩)); done)
        | (refine ⟨(i + 1, u + x.tdiv 1152921504606846976 - 1, r + x.tmod 1152921504606846976 + 1152921504606846976), ?_, ⟨by show i + 1 ≤ l.length; omega, by show (u + x.tdiv 1152921504606846976 - 1) * 1152921504606846976 + (r + x.tmod 1152921504606846976 + 1152921504606846976) = _; rw [sum_next hx]; omega, by show -1152921504606846976 < r + x.tmod 1152921504606846976 + 1152921504606846976; omega, by show r + x.tmod 1152921504606846976 + 1152921504606846976 < 1152921504606846976; omega⟩, by show l.length - (i + 1) < l.length - i; omega⟩
           (try simp only [go_sem, hw0, hw1, hw2, hw3, hw4, hw5, hw6]); (try rw [wrap64_id (by omega) (by omega)]); (repeat' (first | refine And.intro ?_ ?_ | exact .inl rfl | exact .inr rfl | exact .inr ⟨rfl, rfl⟩ | trivial | exact .inr (oblA rfl) | exact .inr ⟨rfl, oblA rfl⟩ | exact .inr bel_strs | exact .inr ⟨rfl, bel_strs⟩ | exact .inr ⟨by simp, bel_strs⟩ | (simp; done) | exact .inr ⟨rfl, by simp⟩ | exact .inr ⟨by simp, by simp⟩)); done)
        | (exfalso; omega))
    | (
        refine AWP.ret ?_
        refine AEnd.is ?_; simp only [go_sem, out_v, out_s, out_n, v_int, v_bool, v_str] <;> (try ((first | rfl | (rw [sumF_no hx (by simp_all; done)]; done) | (rw [sumF_no hx (by simp_all; done)]; exact ⟨rfl, rfl⟩) | (rw [rsum_big (by omega) hall g2 g3 g4 (by omega)]; first | done | rfl | exact ⟨rfl, rfl⟩) | (rw [rsum_no (by omega) hall g2 (by simp_all; done)]; first | done | rfl | exact ⟨rfl, rfl⟩) | (rw [rsum_yes (by omega) hall g2 (by simp_all; done)]; first | done | rfl | exact ⟨rfl, rfl⟩) | skip))))
    | refine AWP.fin (by assumption) ?_
    | fail)

set_option maxHeartbeats 4000000 in
set_option maxRecDepth 8000 in
theorem r1mul_c (a b : Int) : ACalls E 143 [i64 a, i64 b] (fun r t => r = .tup [i64 (mulF a b).1, bl (mulF a b).2] ∧ t = []) := by -- checkroll/checkrollref01.Mul
  refine ACalls.of_awp (n := 57) (rs := [.tmp 4, .tmp 5]) Tryz.func143 rfl Tryz.ntmps143 rfl ?_
  repeat' (first
    | refine AWP.seqk fun K hK => ?_
    | (
        refine AWP.here 5 22 4 rfl ?_
        have ha : numB a = true := by simp_all
        have hb : numB b = true := by simp_all
        have ha2 := numB_iff.1 ha
        have hb2 := numB_iff.1 hb
        refine AWP.region ?_; simp only [go_sem])
    | (
        refine AWP.here 10 32 4 rfl ?_
        (repeat rw [wrap64_id (by omega) (by omega)])
        first
        | (have hq : a * b = a * b := rfl; have hg := mul_gen ha hb (x := a) (y := b) (by omega) (by omega) (.inl rfl))
        | (have hq : a * b = -((0 - a) * b) := (by rw [Int.zero_sub, Int.neg_mul, Int.neg_neg]); have hg := mul_gen ha hb (x := 0 - a) (y := b) (by omega) (by omega) (.inr hq))
        | (have hq : a * b = -(a * (0 - b)) := (by rw [Int.zero_sub, Int.mul_neg, Int.neg_neg]); have hg := mul_gen ha hb (x := a) (y := 0 - b) (by omega) (by omega) (.inr hq))
        | (have hq : a * b = (0 - a) * (0 - b) := (by rw [Int.zero_sub, Int.zero_sub, Int.neg_mul_neg]); have hg := mul_gen ha hb (x := 0 - a) (y := 0 - b) (by omega) (by omega) (.inl hq))
        refine AWP.region ?_; simp only [go_sem])
    | (refine AWP.region ?_; simp only [go_sem])
    | (refine hK _ ?_; clear hK K)
    | refine AWP.block ?_
    | refine AWP.cond rfl (fun c => ?_) (fun c => ?_) <;> first | exact Bool.noConfusion c | (try simp only [dD] at c)
    | refine AWP.skip ?_
    | (refine AWP.exit ?_; simp only [go_sem])
    | (refine ACall.one (r1right_c a) (by kernel_rfl) rfl ?_; simp only [go_sem])
    | (refine ACall.one (r1right_c b) (by kernel_rfl) rfl ?_; simp only [go_sem])
    | (refine AGuard.splitN (fun h => ?_) (fun h => ?_) <;> simp only [h, go_sem] <;> (try simp only [dD] at h))
    | (refine AGuard.split (fun h => ?_) (fun h => ?_) <;> simp only [h, go_sem] <;> (try simp only [dD] at h))
    | (refine AGet.haveM (by assumption) ?_; (try simp only [go_sem]))
    | (refine AGet.have' (by assumption) ?_; (try simp only [go_sem]))
    | ((first | refine AGet.nth ?_ (fun b hb => ?_) | refine AGet.nth1 ?_ (fun b hb => ?_) | with_reducible refine And.intro ?_ ?_); (focus (first | omega | assumption | exact List.length_pos_iff.2 (by assumption) | (simp only [List.length_append, List.length_cons, List.length_nil, List.length_map, List.length_take, List.length_drop] at *; omega) | (rw [wrap64_id (by omega) (by omega)]; omega) | (simp; done) | (simp [spare_len]; done) | (exact ⟨by omega, by omega⟩))); (try simp only [hb, go_sem]))
    | (
        refine AWP.ret ?_
        refine AEnd.is ?_; simp only [go_sem, out_v, out_s, out_n, v_int, v_bool, v_str] <;> (try ((first | rfl | (rw [mul_no1 ‹numB a = false›]; first | done | rfl | exact ⟨rfl, rfl⟩) | (rw [mul_no2 ‹numB b = false›]; first | done | rfl | exact ⟨rfl, rfl⟩) | (rw [mul_z ‹numB a = true› ‹numB b = true› (by omega)]; first | done | rfl | exact ⟨rfl, rfl⟩) | (rw [hg.1 (by assumption)]; first | done | rfl | exact ⟨rfl, rfl⟩) | (have hz := hg.2 (by assumption); rw [hz.1]; refine ⟨?_, rfl⟩; show _ = a * b; rw [hz.2.2.2.1]; first | done | exact hq.symm | (rw [hz.2.2.2.2]; exact hq.symm)) | (exfalso; omega) | skip))))
    | refine AWP.fin (by assumption) ?_
    | fail)


end Go.Proofs.YtajeeghgiilhiaaGreat
end
section
/- Positions put in their place, as the document does. No program. -/
set_option linter.unusedVariables false
set_option linter.unusedSimpArgs false
namespace Go.Bk
open Go Go.Abs
theorem ltP_b (x y : Po) : ltP x y = (decide (x.acc < y.acc) || (decide (x.acc = y.acc) && decide (x.sym < y.sym))) := by
  have h := ltN_iff (a := nmP x) (b := nmP y)
  unfold ltP
  rw [Bool.eq_iff_iff, h]
  simp [nmP]
def stepP (p : Po) (s : List Po × Bool) (e : Po) : List Po × Bool := if s.2 = false ∧ ltP p e = true then (s.1 ++ [p] ++ [e], true) else (s.1 ++ [e], s.2)
def scanP (p : Po) (l : List Po) : List Po × Bool := l.foldl (stepP p) ([], false)
def hasN (n : Nm) (l : List Po) : Bool := l.any fun e => decide (nmP e = n)
def putF (l : List Po) (p : Po) : List Po := if hasN (nmP p) l then l else if (scanP p l).2 then (scanP p l).1 else (scanP p l).1 ++ [p]
theorem scan_next {p x : Po} {l : List Po} {i : Nat} (hx : l[i]? = some x) : scanP p (l.take (i + 1)) = stepP p (scanP p (l.take i)) x := by
  unfold scanP; rw [take_next hx, List.foldl_append]; rfl
theorem scan_gen (p : Po) : ∀ (l : List Po) (s : List Po × Bool), (s.2 = true → l.foldl (stepP p) s = (s.1 ++ l, true)) ∧ (s.2 = false → ∃ a b, l = a ++ b ∧ (∀ e ∈ a, ltP p e = false) ∧ ((b = [] ∧ l.foldl (stepP p) s = (s.1 ++ l, false)) ∨ (∃ e c, b = e :: c ∧ ltP p e = true ∧ l.foldl (stepP p) s = (s.1 ++ a ++ p :: b, true))))
  | [], s => ⟨fun h => by simp [← h], fun h => ⟨[], [], rfl, by simp, .inl ⟨rfl, by simp [← h]⟩⟩⟩
  | x :: l, s => by
    constructor
    · intro h
      rw [List.foldl_cons]
      have e : stepP p s x = (s.1 ++ [x], true) := by unfold stepP; rw [if_neg (by simp [h]), h]
      rw [e, ((scan_gen p l _).1 rfl)]; simp
    · intro h
      rw [List.foldl_cons]
      cases c : ltP p x with
      | true =>
        have e : stepP p s x = (s.1 ++ [p] ++ [x], true) := by unfold stepP; rw [if_pos ⟨h, c⟩]
        refine ⟨[], x :: l, rfl, by simp, .inr ⟨x, l, rfl, c, ?_⟩⟩
        rw [e, ((scan_gen p l _).1 rfl)]; simp
      | false =>
        have e : stepP p s x = (s.1 ++ [x], false) := by unfold stepP; rw [if_neg (by simp [c]), h]
        rw [e]
        obtain ⟨a, b, h1, h2, h3⟩ := (scan_gen p l (s.1 ++ [x], false)).2 rfl
        refine ⟨x :: a, b, by rw [h1]; rfl, fun y hy => by rcases List.mem_cons.1 hy with rfl | hy; exact c; exact h2 y hy, ?_⟩
        rcases h3 with ⟨h4, h5⟩ | ⟨e', c', h4, h5, h6⟩
        · exact .inl ⟨h4, by rw [h5]; simp⟩
        · exact .inr ⟨e', c', h4, h5, by rw [h6]; simp⟩
theorem put_has {l : List Po} {p : Po} (h : hasN (nmP p) l = true) : putF l p = l := by unfold putF; rw [if_pos h]
theorem put_form {l : List Po} {p : Po} (h : hasN (nmP p) l = false) : ∃ a b, l = a ++ b ∧ (∀ e ∈ a, ltP p e = false) ∧ (∀ e c, b = e :: c → ltP p e = true) ∧ putF l p = a ++ p :: b := by
  unfold putF scanP
  rw [if_neg (by simp [h])]
  obtain ⟨a, b, h1, h2, h3⟩ := (scan_gen p l ([], false)).2 rfl
  rcases h3 with ⟨h4, h5⟩ | ⟨e, c, h4, h5, h6⟩
  · subst h4
    refine ⟨a, [], h1, h2, by simp, ?_⟩
    rw [h5]; simp [h1]
  · refine ⟨a, b, h1, h2, fun e' c' e2 => by rw [h4] at e2; cases e2; exact h5, ?_⟩
    rw [h6]; simp
theorem put_rise {l : List Po} {p : Po} (hr : Rising l) : Rising (putF l p) := by
  cases h : hasN (nmP p) l with
  | true => rw [put_has h]; exact hr
  | false =>
    obtain ⟨a, b, h1, h2, h3, h4⟩ := put_form h
    rw [h4]
    rw [h1] at hr
    unfold Rising at *
    rw [List.pairwise_append] at hr ⊢
    obtain ⟨r1, r2, r3⟩ := hr
    have hne : ∀ e ∈ l, nmP e ≠ nmP p := fun e he e2 => by
      have := List.any_eq_false.1 h e he
      simp [e2] at this
    refine ⟨r1, List.pairwise_cons.2 ⟨fun q hq => ?_, r2⟩, fun x hx y hy => ?_⟩
    · cases b with
      | nil => simp at hq
      | cons e c =>
        have h5 := h3 e c rfl
        rcases List.mem_cons.1 hq with rfl | hq
        · exact h5
        · exact ltN_trans h5 ((List.pairwise_cons.1 r2).1 q hq)
    · rcases List.mem_cons.1 hy with rfl | hy
      · rcases ltN_tri (nmP x) (nmP y) with h5 | h5 | h5
        · exact h5
        · exact absurd h5 (hne x (by rw [h1]; exact List.mem_append_left _ hx))
        · have := h2 x hx; unfold ltP at this; rw [h5] at this; exact absurd this (by simp)
      · exact r3 x hx y hy
theorem put_mem {l : List Po} {p : Po} (q : Po) : q ∈ putF l p ↔ q ∈ l ∨ (q = p ∧ hasN (nmP p) l = false) := by
  cases h : hasN (nmP p) l with
  | true => rw [put_has h]; simp
  | false =>
    obtain ⟨a, b, h1, h2, h3, h4⟩ := put_form h
    rw [h4, h1]
    simp only [List.mem_append, List.mem_cons, and_true]
    constructor
    · rintro (h | h | h)
      · exact .inl (.inl h)
      · exact .inr h
      · exact .inl (.inr h)
    · rintro ((h | h) | h)
      · exact .inl h
      · exact .inr (.inr h)
      · exact .inr (.inl h)
theorem put_len (l : List Po) (p : Po) : (putF l p).length ≤ l.length + 1 := by
  cases h : hasN (nmP p) l with
  | true => rw [put_has h]; omega
  | false =>
    obtain ⟨a, b, h1, _, _, h4⟩ := put_form h
    rw [h4, h1]; simp; omega
/-- One of each name, put one after the other. -/
def putsF (g : Nm → Po) (ns : List Nm) : List Po := ns.foldl (fun l n => putF l (g n)) []
theorem puts_next {g : Nm → Po} {ns : List Nm} {i : Nat} {n : Nm} (h : ns[i]? = some n) : putsF g (ns.take (i + 1)) = putF (putsF g (ns.take i)) (g n) := by
  unfold putsF; rw [take_next h, List.foldl_append]; rfl
theorem puts_gen {g : Nm → Po} (hg : ∀ n, nmP (g n) = n) : ∀ (ns : List Nm) (l : List Po), Rising l → (∀ q ∈ l, q = g (nmP q)) → Rising (ns.foldl (fun l n => putF l (g n)) l) ∧ (∀ q, q ∈ ns.foldl (fun l n => putF l (g n)) l ↔ q ∈ l ∨ ∃ n ∈ ns, q = g n)
  | [], l, hr, hl => ⟨hr, fun q => by simp⟩
  | n :: ns, l, hr, hl => by
    rw [List.foldl_cons]
    have hp : ∀ q, q ∈ putF l (g n) ↔ q ∈ l ∨ q = g n := fun q => by
      rw [put_mem]
      constructor
      · rintro (h | h)
        · exact .inl h
        · exact .inr h.1
      · rintro (h | h)
        · exact .inl h
        · cases c : hasN (nmP (g n)) l with
          | false => exact .inr ⟨h, rfl⟩
          | true =>
            obtain ⟨e, he, e2⟩ := List.any_eq_true.1 c
            have e2 : nmP e = nmP (g n) := by simpa using e2
            have e3 := hl e he
            rw [e2, hg] at e3
            rw [h, ← e3]; exact .inl he
    obtain ⟨h1, h2⟩ := puts_gen hg ns (putF l (g n)) (put_rise hr) (fun q hq => by
      rcases (hp q).1 hq with h | h
      · exact hl q h
      · rw [h, hg])
    refine ⟨h1, fun q => (h2 q).trans ?_⟩
    rw [hp]
    simp only [List.mem_cons, exists_eq_or_imp, or_assoc]
theorem puts_rise {g : Nm → Po} (hg : ∀ n, nmP (g n) = n) (ns : List Nm) : Rising (putsF g ns) := (puts_gen hg ns [] List.Pairwise.nil (by simp)).1
theorem puts_mem {g : Nm → Po} (hg : ∀ n, nmP (g n) = n) (ns : List Nm) (q : Po) : q ∈ putsF g ns ↔ ∃ n ∈ ns, q = g n := by
  have := (puts_gen hg ns [] List.Pairwise.nil (by simp)).2 q
  simpa [putsF] using this
theorem puts_len (g : Nm → Po) (ns : List Nm) : (putsF g ns).length ≤ ns.length := by
  have : ∀ (ns : List Nm) (l : List Po), (ns.foldl (fun l n => putF l (g n)) l).length ≤ l.length + ns.length := by
    intro ns
    induction ns with
    | nil => intro l; simp
    | cons n ns ih => intro l; rw [List.foldl_cons]; have := ih (putF l (g n)); have := put_len l (g n); simp only [List.length_cons]; omega
  simpa [putsF] using this ns []
/-- All positions of a book. -/
theorem allP_puts {b : Bk} (hr : rightBk b = true) : putsF (fun n => posF b n.1 n.2) (nmsB b) = allP b := by
  have hg : ∀ n : Nm, nmP (posF b n.1 n.2) = n := fun n => pos_nm b n.1 n.2
  refine rising_ext (puts_rise hg _) (rise_rising (all_rise b)) fun q => ?_
  rw [puts_mem hg]
  unfold allP
  rw [if_pos hr, List.mem_map]
  constructor
  · rintro ⟨n, h1, h2⟩; exact ⟨n, cmpct_mem.2 (srtN_mem.2 h1), h2.symm⟩
  · rintro ⟨n, h1, h2⟩; exact ⟨n, srtN_mem.1 (cmpct_mem.1 h1), h2.symm⟩
/-- All lists together. -/
theorem merge_puts {ls : List (List Po)} (h : ls.all riseP = true) : putsF (oneF ls.flatten) (ls.flatten.map nmP) = (mergeF ls).1 := by
  have hg : ∀ n : Nm, nmP (oneF ls.flatten n) = n := fun n => oneF_nm
  refine Merged.uniq ⟨puts_rise hg _, fun q => ?_⟩ (merge_spec h)
  rw [puts_mem hg]
  constructor
  · rintro ⟨n, h1, rfl⟩
    obtain ⟨y, hy, rfl⟩ := List.mem_map.1 h1
    exact ⟨⟨y, hy, by rw [oneF_nm]⟩, by rw [oneF_nm]⟩
  · rintro ⟨⟨y, hy, e⟩, h2⟩
    exact ⟨nmP q, List.mem_map.2 ⟨y, hy, e⟩, h2⟩
end Go.Bk
end
section
/- The layer, the plain facts: several texts of one chain, put together (SqA, SqB, SqC). -/
/- slices.Sorted against an iterator that reads what lay before: the library's own proofs, turned: the caller's invariant tells that nothing old has turned. -/
namespace Go.Proofs
open Go.RowKit Go.Maps Go.Sort Go.Shelf
set_option linter.unusedVariables false
set_option linter.unusedSimpArgs false
variable {P : Program} {ρ : Ren}
/-- An iterator's word, to those who keep what lay in w. -/
def SeqB {α : Type} (F : Fence) (n : Nat) (P : Program) (g : Nat) (lb : Array Value) (enc : α → Value) (S : List α → Prop) (N : Nat) (w : World) : Prop :=
  ∀ (l : Nat) (J : List α → World → Prop) (W : World), Below w.heap.size w W → AbidesFrom W.heap.size J → (∀ pre W1, J pre W1 → Below w.heap.size w W1) →
    (∀ pre x W1, J pre W1 → pre.length < N → YieldAt F (n - 1) P l #[enc x] W1 fun e W' => e = .returned (.bool true) ∧ J (pre ++ [x]) W' ∧ KeepsWalks W1 W') →
    J [] W → CallsIn F n P g (#[.func (.yield l) #[] #[]] ++ lb) W fun e W' => (∃ v, e = .returned v) ∧ ∃ xs, S xs ∧ J xs W'
theorem SeqB.upto {α : Type} {F : Fence} {n : Nat} {P : Program} {g : Nat} {lb : Array Value} {enc : α → Value} {S : List α → Prop} {N : Nat} {w : World}
    (h : SeqB F n P g lb enc S N w) : SeqB F n P g lb enc (fun xs => S xs ∧ xs.length ≤ N) N w := fun l J W hW hJ hB hY h0 => by
  refine (h l (fun xs W' => J xs W' ∧ xs.length ≤ N) W hW (fun s A B row hs hg hr => ⟨hJ s A B row hs.1 hg hr, hs.2⟩) (fun pre W1 hj => hB pre W1 hj.1)
    (fun pre x W1 hj hl => (hY pre x W1 hj.1 hl).mono (fun e w' hr => ⟨hr.1, ⟨hr.2.1, by simp; omega⟩, hr.2.2⟩)) ⟨h0, Nat.zero_le _⟩).mono ?_
  rintro e W' ⟨hv, xs, hS, hJ', hlen⟩
  exact ⟨hv, xs, ⟨hS, hlen⟩, hJ'⟩

set_option maxRecDepth 100000 in
set_option maxHeartbeats 2000000 in
theorem Sq.appendSeq_b (L : SlLaysZ.n11 P ρ) (F : Fence) (n : Nat) (h11 : F.fn (ρ.f 11)) (hro : F.round = none) (hn : 2 ≤ n) (g : Nat) (lb : Array Value) (hFg : F.fn g) (eg : ∀ args w, (callFunc g args).run P w = .ok (.enter g args) w)
    (S : List (List UInt8) → Prop) (N : Nat) (hN : N ≤ maxLen) (hNb : N * 16 ≤ 140737488355328) (w : World) (hseq : SeqB F (n - 1) P g lb encStr S N w) :
    CallsIn F n P (ρ.f 11) #[.slice none 0 0, .func (.func g) #[] lb] w fun e w' => ∃ (v : Value) (ss : List (List UInt8)), e = .returned v ∧ S ss ∧ w'.ownsRow w.heap.size (ρ.t 26) 1 v ss.length (ss.map encStr) ∧ (v = .slice none 0 0 ↔ ss = []) ∧ Below w.heap.size w w' := by
  have h1 : 1 ≤ n := by omega
  have mixed := L.mixed; have t0 := L.t0; have a0 := L.a0; have z0 := L.z0; have v0 := L.v0; have t24 := L.t24; have a24 := L.a24; have z24 := L.z24; have v24 := L.v24; have t26 := L.t26; have a26 := L.a26; have z26 := L.z26; have v26 := L.v26; have t28 := L.t28; have a28 := L.a28; have z28 := L.z28; have v28 := L.v28
  have hne : ρ.t 24 ≠ ρ.t 26 := fun e => by have h := L.t24; rw [e, L.t26] at h; cases h
  have u0 := run_underlying L.t0; have u24 := run_underlying L.t24; have u26 := run_underlying L.t26; have u28 := run_underlying L.t28
  obtain ⟨_, _, FG⟩ := L.f11
  refine callsIn_of_wp_marks FG rfl h11 ?_ hro
  simp only [SlBodyZ.n11_ntmps ρ, List.size_toArray, List.length_cons, List.length_nil, Nat.reduceAdd, Nat.reduceSub, Array.replicate_succ, Array.replicate_zero, List.push_toArray, List.append_toArray, List.nil_append, List.cons_append]
  gi_wp2
  refine wpIn_rangeFunc ?_
  intro fn hfn
  rw [hro]
  obtain ⟨W0, hW0⟩ : ∃ W0, w.alloc (.cells #[.slice none 0 0] (ρ.t 24)) = W0 := ⟨_, rfl⟩
  have hs0 : W0.heap.size = w.heap.size + 1 := by rw [← hW0]; simp
  have hv0 : W0.heap[w.heap.size]? = some (.cells #[.slice none 0 0] (ρ.t 24) (0, 0)) := by rw [← hW0]; exact World.alloc_heap_new w _
  have hb0 : Below w.heap.size w W0 := by rw [← hW0]; exact (Below.refl _ w).alloc (Nat.le_refl _) _
  rw [hW0]
  obtain ⟨W1, hW1⟩ : ∃ W1, (W0.alloc (.deferred (some []))).alloc (.loop (AnyZ.apRec ρ fn (.func (.func g) #[] lb) w.heap.size W0.heap.size .ready none)) = W1 := ⟨_, rfl⟩
  have hold : ∀ k, k < W0.heap.size → W1.heap[k]? = W0.heap[k]? := fun k hk => by
    rw [← hW1]; exact (Below.heap_alloc _ _ k (by simp; omega)).trans (Below.heap_alloc _ _ k hk)
  have hb1 : Below w.heap.size w W1 := by rw [← hW1]; exact (hb0.alloc hb0.size _).alloc (by have := hb0.size; simp; omega) _
  have hs1 : W1.heap.size = W0.heap.size + 2 := by rw [← hW1]; simp
  have hM : AnyZ.ApAt ρ w fn (.func (.func g) #[] lb) w.heap.size (W0.heap.size + 1) W0.heap.size [] W1 :=
    ⟨⟨_, (hold w.heap.size (by omega)).trans hv0, ⟨rfl, .inl ⟨rfl, rfl⟩⟩, by simp⟩,
     by rw [← hW1]; have := World.alloc_heap_new (W0.alloc (.deferred (some []))) (.loop (AnyZ.apRec ρ fn (.func (.func g) #[] lb) w.heap.size W0.heap.size .ready none)); rwa [World.size_alloc] at this,
     by rw [← hW1]; exact (Below.heap_alloc _ _ _ (by simp)).trans (World.alloc_heap_new W0 _), hb1⟩
  refine ⟨W0.heap.size + 1, [{ target := .collected W0.heap.size, args := #[] }], W1, { target := .fn (.func g) lb, args := #[.func (.yield (W0.heap.size + 1)) #[] #[]] }, W1, g,
    #[.func (.yield (W0.heap.size + 1)) #[] #[]] ++ lb, W1, ?_, ?_, ?_, ?_, fun _ => h1, ?_⟩
  · rw [← hW1]; exact run_enterLoop_outer _ _ _ _ _
  · simp [resolve, go_sem]
  · intro f' hf'; simp [Target.leads] at hf'; subst hf'; exact hFg
  · simp [invoke, go_sem, eg]
  · refine (hseq (W0.heap.size + 1) (AnyZ.ApAt ρ w fn (.func (.func g) #[] lb) w.heap.size (W0.heap.size + 1) W0.heap.size) W1 hb1 (AnyZ.ap_abides ρ _ _ _ _ _ _ _ hb1.size) (fun pre W hJ => hJ.below)
      (fun pre x W hJ hl => AnyZ.apYield { L with } F (n - 1 - 1) w fn hfn _ w.heap.size (W0.heap.size + 1) W0.heap.size (by omega) (by omega) (by omega) (Nat.le_refl _) (by omega) N hN hNb pre x W hJ hl) hM).mono ?_
    rintro e W2 ⟨⟨v0, rfl⟩, ss, hS, h2⟩
    obtain ⟨v, hv, hrow, hnil⟩ := h2.box
    have hend := run_endLoop (P := P) h2.L (by simp [AnyZ.apRec])
    obtain ⟨W3, hW3⟩ : ∃ W3, W2.putObj (W0.heap.size + 1) (.loop { AnyZ.apRec ρ fn (.func (.func g) #[] lb) w.heap.size W0.heap.size .ready none with state := .exhausted }) = W3 := ⟨_, rfl⟩
    rw [hW3] at hend
    have hg3 : W2.grownBy W3 (some (W0.heap.size + 1)) := by rw [← hW3]; exact grownBy_putObj_a _ _ _
    have hv3 : W3.heap[w.heap.size]? = some (.cells #[v] (ρ.t 24) (0, 0)) := by rw [← hW3]; exact (World.putObj_heap_other (by omega)).trans hv
    have hK3 : W3.heap[W0.heap.size]? = some (.deferred (some [])) := by rw [← hW3]; exact (World.putObj_heap_other (by omega)).trans h2.K
    have hrow3 := hrow.kept hg3 (ownsRow_ne_a hrow h2.L (fun cur e => by first | cases e | exact hne (Obj.cells.inj e).2.1))
    have hb3 : Below w.heap.size w W3 := h2.below.grown hg3 h2.below.size (fun k e => by cases e; omega)
    obtain ⟨hc3, hf3⟩ := cell_of_box_a hv3
    clear hW3
    refine ⟨none, W3, hend, ?_⟩
    gi_wp2
    rw [← hs0]
    refine ⟨by simp, .inl ⟨_, _, rfl, run_takeDeferred hK3, ?_⟩⟩
    exact ⟨_, results_tmp rfl _ _ _, v, ss, rfl, hS, hrow3.kept (grownBy_putObj_a _ _ _) (ownsRow_ne_a hrow3 hK3 (fun cur e => by first | cases e | exact hne (Obj.cells.inj e).2.1)), hnil, hb3.grown (grownBy_putObj_a _ _ _) hb3.size (fun k e => by cases e; omega)⟩

set_option maxHeartbeats 1000000 in
theorem Sq.collect_b (L : SlLaysZ.n8 P ρ) (F : Fence) (n : Nat) (h8 : F.fn (ρ.f 8)) (h11 : F.fn (ρ.f 11)) (hro : F.round = none) (hn : 3 ≤ n) (g : Nat) (lb : Array Value) (hFg : F.fn g) (eg : ∀ args w, (callFunc g args).run P w = .ok (.enter g args) w)
    (S : List (List UInt8) → Prop) (N : Nat) (hN : N ≤ maxLen) (hNb : N * 16 ≤ 140737488355328) (w : World) (hseq : SeqB F (n - 1 - 1) P g lb encStr S N w) :
    CallsIn F n P (ρ.f 8) #[.func (.func g) #[] lb] w fun e w' => ∃ (v : Value) (ss : List (List UInt8)), e = .returned v ∧ S ss ∧ w'.ownsRow w.heap.size (ρ.t 26) 1 v ss.length (ss.map encStr) ∧ (v = .slice none 0 0 ↔ ss = []) ∧ Below w.heap.size w w' := by
  have h1 : 1 ≤ n := by omega
  have e11 : ∀ args w, (callFunc (ρ.f 11) args).run P w = .ok (.enter (ρ.f 11) args) w := L.f11.enters rfl
  have mixed := L.mixed; have t0 := L.t0; have a0 := L.a0; have z0 := L.z0; have v0 := L.v0; have t24 := L.t24; have a24 := L.a24; have z24 := L.z24; have v24 := L.v24; have t26 := L.t26; have a26 := L.a26; have z26 := L.z26; have v26 := L.v26; have t28 := L.t28; have a28 := L.a28; have z28 := L.z28; have v28 := L.v28
  have u0 := run_underlying L.t0; have u24 := run_underlying L.t24; have u26 := run_underlying L.t26; have u28 := run_underlying L.t28
  obtain ⟨_, _, FG⟩ := L.f8
  refine callsIn_of_wp FG rfl h8 ?_ hro
  simp only [SlBodyZ.n8_ntmps ρ, List.size_toArray, List.length_cons, List.length_nil, Nat.reduceAdd, Nat.reduceSub, Array.replicate_succ, Array.replicate_zero, List.push_toArray, List.append_toArray, List.nil_append, List.cons_append]
  gi_wp2_with (gi_at_fn (ρ.f 11); refine (Sq.appendSeq_b { L with } F (n - 1) h11 hro (by omega) g lb hFg eg S N hN hNb _ hseq).mono ?_; rintro e w' ⟨v, ss, rfl, hS, hrow, hnil, hb⟩)
  go_ret
  exact ⟨v, ss, rfl, hS, hrow, hnil, hb⟩

set_option maxRecDepth 100000 in
set_option maxHeartbeats 2000000 in
theorem Sq.sorted_b (L : SlLaysZ.n6 P ρ) (F : Fence) (n : Nat) (h6 : F.fn (ρ.f 6)) (h8 : F.fn (ρ.f 8)) (h9 : F.fn (ρ.f 9)) (h11 : F.fn (ρ.f 11)) (hro : F.round = none) (hn : 4 ≤ n) (hsort : AnyZ.SortsIn P ρ F (n - 1)) (e9 : ∀ args w, (callFunc (ρ.f 9) args).run P w = .ok (.enter (ρ.f 9) args) w) (g : Nat) (lb : Array Value) (hFg : F.fn g) (eg : ∀ args w, (callFunc g args).run P w = .ok (.enter g args) w)
    (S : List (List UInt8) → Prop) (N : Nat) (hN : N ≤ maxLen) (hNb : N * 16 ≤ 140737488355328) (w : World) (hseq : SeqB F (n - 1 - 1 - 1) P g lb encStr S N w) :
    CallsIn F n P (ρ.f 6) #[.func (.func g) #[] lb] w fun e w' => ∃ (v : Value) (ss : List (List UInt8)), e = .returned v ∧ S ss ∧
      w'.ownsRow w.heap.size (ρ.t 26) 1 v ss.length ((ss.mergeSort (fun x y => decide (x ≤ y))).map encStr) ∧ (v = .slice none 0 0 ↔ ss = []) ∧ Below w.heap.size w w' := by
  have h1 : 1 ≤ n := by omega
  have e8 : ∀ args w, (callFunc (ρ.f 8) args).run P w = .ok (.enter (ρ.f 8) args) w := L.f8.enters rfl
  have mixed := L.mixed; have t0 := L.t0; have a0 := L.a0; have z0 := L.z0; have v0 := L.v0; have t24 := L.t24; have a24 := L.a24; have z24 := L.z24; have v24 := L.v24; have t26 := L.t26; have a26 := L.a26; have z26 := L.z26; have v26 := L.v26; have t28 := L.t28; have a28 := L.a28; have z28 := L.z28; have v28 := L.v28
  have u0 := run_underlying L.t0; have u24 := run_underlying L.t24; have u26 := run_underlying L.t26; have u28 := run_underlying L.t28
  obtain ⟨_, _, FG⟩ := L.f6
  refine callsIn_of_wp FG rfl h6 ?_ hro
  simp only [SlBodyZ.n6_ntmps ρ, List.size_toArray, List.length_cons, List.length_nil, Nat.reduceAdd, Nat.reduceSub, Array.replicate_succ, Array.replicate_zero, List.push_toArray, List.append_toArray, List.nil_append, List.cons_append]
  gi_wp2_with (gi_at_fn (ρ.f 8); refine (Sq.collect_b { L with } F (n - 1) h8 h11 hro (by omega) g lb hFg eg _ N hN hNb _ hseq.upto).mono ?_; rintro e W ⟨v, ss, rfl, ⟨hS, hlen⟩, hrow, hnil, hb⟩)
  rcases hrow.2 with ⟨rfl, hz⟩ | ⟨gb, cap, cur, rfl, hbase, hgb, r1, r2, r3, r4⟩
  · -- nothing came: the nil slice is sorted and handed back
    have hss : ss = [] := List.eq_nil_of_length_eq_zero hz
    subst hss
    gi_wp2_with (gi_at_fn (ρ.f 9); refine (hsort.2 none 0 W).mono ?_; rintro e w' ⟨rfl, rfl⟩)
    go_ret
    exact ⟨.slice none 0 0, [], rfl, hS, by simpa using hrow, by simp, hb⟩
  · have hH : Holds encStr W gb 0 ss.toArray := holds_of_block hgb (by simpa using r4)
    have hgl : gb < W.heap.size := (Array.getElem?_eq_some_iff.1 hgb).1
    have hsz : ss.length < 4611686018427387904 := by omega
    have cS := hsort.1 gb 0 cap ss W hH hgl hsz
    gi_wp2_with (gi_at_fn (ρ.f 9); refine cS.mono ?_; rintro e w' ⟨rfl, nn, os, rfl⟩)
    go_ret
    exact ⟨_, ss, rfl, hS, ownsRow_sorted (by simp) hbase hgb r1 r2 r3, hnil, hb.grown (grownBy_sorted _) hb.size (fun j hj => by cases hj; exact hbase)⟩

end Go.Proofs

/- A contract whose row is new memory, told by its content; strings as cells. -/
set_option linter.unusedVariables false
set_option linter.unusedSimpArgs false
namespace Go.Abs
open Go Go.RowKit Go.Sort Go.Proofs Go.Maps

/-- Where nothing is own. -/
theorem Rel.start {w : World} {im : Im} (E : Env) (hG : GOK E im) (hok : ∀ (b o : Nat) (x : Value), im b o = some x → w.cell? ⟨b, o, none⟩ = some x) :
    Rel w ⟨im, [], E.dr⟩ ⟨[], [], im⟩ ⟨[], [], [], E.gl, none, []⟩ { tmps := #[], defers := [] } w :=
  ⟨⟨rfl, fun b o hb => by
      cases h : im b o with
      | none => exact h
      | some x => exact absurd (World.block_lt_of_cell? w ⟨b, o, none⟩ (hok b o x h)) (Nat.not_lt.2 hb)⟩, rfl, by simp, Below.refl _ _, .refl _, fun _ _ _ => rfl, hok, rfl, by simp, rfl, by simp, by simp, ⟨by simp, by simp, by simp⟩, fun g cs h => hG g cs h, ⟨rfl, by simp⟩, fun l d i h => by simp at h⟩
theorem ACalls.of_rel {E : Env} {f : FuncId} {args : List AV} {R : AV → List Nat → Prop}
    (h : ∀ (w : World) (im : Im) (vs : List Value), E.ok w → GOK E im → (∀ (b o : Nat) (x : Value), im b o = some x → w.cell? ⟨b, o, none⟩ = some x) → Pw0 im args vs → Calls E.P f vs.toArray w fun e w' => ∃ v, e = .returned v ∧
      ∃ c st a, Rel w ⟨im, [], E.dr⟩ c st a w' ∧ ∃ x, VR c x v ∧ ∃ sel y, selOK st.tk.length sel = true ∧ OutT sel x y ∧ R y (selLens st.tk sel)) : ACalls E f args R := by
  intro w im vs hE hG hok hpw
  refine (h w im vs hE hG hok hpw).mono ?_
  rintro e w' ⟨v, rfl, c', st', a, r', x, hv, sel, y, h3, h4, h5⟩
  refine ⟨v, y, selTk c' sel, c'.im, rfl, r'.below, r'.imle, r'.imold, r'.imok, selToks r' h3, outT_ok r' h3 hv h4, ?_⟩
  rw [selLens_eq r' h3]; exact h5
theorem cells_strs {im : Im} {l : List (List UInt8)} {cs : List Value} (h : cs.take l.length = l.map encStr) : Cells im 1 (l.map str) cs := by
  refine ⟨fun i e he => ?_, fun i e j c he hc => ?_⟩
  · rw [List.getElem?_map] at he
    cases hl : l[i]? with
    | none => simp [hl] at he
    | some b => simp only [hl, Option.map_some, Option.some.injEq] at he; subst he; rfl
  · rw [List.getElem?_map] at he
    cases hl : l[i]? with
    | none => simp [hl] at he
    | some b =>
      simp only [hl, Option.map_some, Option.some.injEq] at he; subst he
      have hlt : i < l.length := (List.getElem?_eq_some_iff.1 hl).1
      have h1 : (cs.take l.length)[i]? = cs[i]? := by rw [List.getElem?_take, if_pos hlt]
      cases j with
      | succ j => simp [AV.leaves] at hc
      | zero =>
        simp only [AV.leaves, List.getElem?_cons_zero, Option.some.injEq] at hc; subst hc
        refine ⟨encStr b, ?_, .v _, rfl⟩
        rw [Nat.mul_one, Nat.add_zero, ← h1, h]
        simp [hl]
/-- A row of strings in new memory. -/
theorem ACalls.of_strs {E : Env} {f : FuncId} {args : List AV} {l : List (List UInt8)} {ty : TypeId}
    (h : ∀ (w : World) (im : Im) (vs : List Value), E.ok w → GOK E im → (∀ (b o : Nat) (x : Value), im b o = some x → w.cell? ⟨b, o, none⟩ = some x) → Pw0 im args vs → Calls E.P f vs.toArray w fun e w' => ∃ v, e = .returned v ∧
      w'.ownsRow w.heap.size ty 1 v l.length (l.map encStr) ∧ Go.RowKit.Below w.heap.size w w') (hdr : ¬ E.dr := by exact fun h => h) : ACalls E f args (fun r t => r = .sl (some 0) 1 (l.map str) ∧ t = [l.length]) := by
  refine ACalls.of_rel fun w im vs hE hG hok hpw => (h w im vs hE hG hok hpw).mono ?_
  rintro e w' ⟨v, rfl, hrow, hb0⟩
  have hb : Below E.dr w.heap.size w w' := ⟨hb0, fun d => absurd d hdr⟩
  have r0 := Rel.start E hG hok
  refine ⟨v, rfl, ?_⟩
  rcases hrow.2 with ⟨rfl, hz⟩ | ⟨g, cap, cur, rfl, hbase, hg, h1, h2, h3, h4⟩
  · have hl : l = [] := List.eq_nil_of_length_eq_zero hz
    subst hl
    exact ⟨_, _, _, r0.ext hb, .nilS, .base .nilS, [(false, 1)], .sl (some 0) 1 [], rfl, rfl, rfl, rfl⟩
  · obtain ⟨c', hle, r1, hv⟩ := r0.newTok (k := 1) (cap := cap) (es := l.map str) (cs := cur) hb hbase hg (.inl rfl) (by rw [h3]; exact Nat.le_refl _) (by simpa using h1) (cells_strs (by simpa using h4))
    rw [List.length_map] at hv r1
    refine ⟨c', _, _, r1, _, hv, [(true, 0)], .sl (some 0) 1 (l.map str), rfl, ⟨rfl, rfl, rfl⟩, rfl, ?_⟩
    simp [selLens]
end Go.Abs

/- slices.Sort on an own row of strings. -/
set_option linter.unusedVariables false
set_option linter.unusedSimpArgs false
namespace Go.Abs
open Go Go.RowKit Go.Sort Go.Proofs Go.Maps

abbrev sortL (l : List (List UInt8)) : List (List UInt8) := l.mergeSort fun x y => decide (x ≤ y)
theorem sortL_len (l : List (List UInt8)) : (sortL l).length = l.length := List.length_mergeSort l
theorem heap_put {w : World} {g n : Nat} {os : Array Obj} {d : Array (List UInt8)} {cur : Array Value} {e : TypeId} {fz : Nat × Nat} (hb : w.heap[g]? = some (.cells cur e fz)) :
    (grow (putRow encStr (Sort.ahead w n) g 0 d) os).heap[g]? = some (.cells (putCells encStr 0 d cur) e fz) := by
  have hlt := (Array.getElem?_eq_some_iff.1 hb).1
  rw [heap_grow_old _ _ (by simpa using hlt)]
  simp [putRow, mapBlock, Sort.ahead, Array.getElem?_modify, hb, onCells]
theorem below_sorted {w : World} {B g n : Nat} {os : Array Obj} (d : Array (List UInt8)) {w0 : World} {D : Prop} (h : Below D B w0 w) (hg : B ≤ g) (hB : B ≤ w.heap.size) : Below D B w0 (grow (putRow encStr (Sort.ahead w n) g 0 d) os) :=
  h.grown (grownBy_sorted d) hB (fun j hj => by cases hj; exact hg) (Nat.le_add_right _ _)
theorem AWPL.sortS {E : Env} {Q : Exit → St → Prop} {st : St} {ops : Array Oper} {rest : List Oper} {g : FuncId} {dst : Option Tmp} {f x : Operand} {tys : Array TypeId} {ty : TypeId} {pos : String} {after : Array Edge}
    (hc : callable E.P g = true) (he : st.ev f = .fn g [])
    (hsort : ∀ (blk off cap : Nat) (ss : List (List UInt8)) (w : World), Holds encStr w blk off ss.toArray → blk < w.heap.size → ss.length < 4611686018427387904 →
      Calls E.P g #[.slice (some ⟨blk, off, none⟩) ss.length cap] w fun e w' => e = .returned (.tuple #[]) ∧ ∃ n os, w' = grow (putRow encStr (Sort.ahead w n) blk off (ss.mergeSort fun x y => decide (x ≤ y)).toArray) os)
    (hnone : ∀ (p : Option Addr) (cap : Nat) (w : World), Calls E.P g #[.slice p 0 cap] w fun e w' => e = .returned (.tuple #[]) ∧ w' = w)
    {id cap : Nat} {l : List (List UInt8)} {sp : List AV} (hx : st.ev x = .mu id 1 0 l.length cap) (ho : st.own[id]? = some (some (l.map str ++ sp))) (hsz : l.length ≤ 1000000)
    (h : AWPL E ops rest Q (St.put { st with own := st.own.set id (some ((sortL l).map str ++ sp)) } dst (.tup []))) :
    AWPL E ops (⟨dst, .call ⟨.value f, #[x], tys⟩, ty, pos, after, none⟩ :: rest) Q st := by
  refine AWPL.callRaw hc he fun w0 im0 cx a w vs h0 hG r hpw => ?_
  obtain ⟨hn, hp⟩ := hpw
  obtain ⟨v, rfl⟩ : ∃ v, vs = [v] := by
    match vs, hn with
    | [v], _ => exact ⟨v, rfl⟩
  have hv : VR cx (.mu id 1 0 l.length cap) v := by
    have := hp 0 _ v rfl rfl
    rwa [← hx]
  have same : l = [] → { st with own := st.own.set id (some ((sortL l).map str ++ sp)) } = st := fun e => by
    subst e
    have e1 : st.own.set id (some ((sortL []).map str ++ sp)) = st.own := by
      apply List.ext_getElem?
      intro j
      rw [List.getElem?_set]
      split
      · rename_i hj; subst hj
        rw [if_pos (lt_of_get ho), ho]; simp [sortL]
      · rfl
    rw [e1]
  rcases hv.inv_mu with ⟨b, hb, hcap, rfl⟩ | ⟨hl, rfl, rfl⟩
  · rcases Nat.eq_zero_or_pos l.length with hz | hz
    · have hl : l = [] := List.eq_nil_of_length_eq_zero hz
      subst hl
      refine (hnone _ cap w).mono ?_
      rintro e w' ⟨rfl, rfl⟩
      exact ⟨_, rfl, cx, st, .tup [], r, .tup [] [] rfl (by simp), by rw [same rfl] at h; exact h⟩
    · have hOK := r.own id b 1 _ hb ho
      obtain ⟨cs, te, lo, hi, hblk, hfr, hsize, hlv, hcell⟩ := hOK.blk
      have hget : ∀ j, j < l.length → cs[j]? = some (encStr l[j]!) := fun j hj => by
        have e1 : (l.map str ++ sp)[j]? = some (str l[j]!) := by
          rw [List.getElem?_append_left (by simpa using hj)]
          simp [hj]
        obtain ⟨v, hv, hvr, _⟩ := hcell j _ 0 _ e1 rfl
        rw [hvr.inv_v] at hv
        simpa using hv
      have hH : Holds encStr w b 0 l.toArray := fun j hj => by
        have hj' : j < l.length := by simpa using hj
        have e2 := hget j hj'
        have hlt : j < cs.size := (Array.getElem?_eq_some_iff.1 e2).1
        constructor
        · simp only [World.cell?, hblk, Nat.zero_add, e2]
          try simp [hj']
        · simp only [World.frozen?, hblk, Nat.zero_add]
          rcases hfr with rfl | hfr
          · first | (simp; done) | (simp; omega)
          · first | (simp; done) | (simp; omega)
      have hbs : b < w.heap.size := r.own_lt hb ho
      rw [Nat.zero_mul]
      refine (hsort b 0 cap l w hH hbs (by omega)).mono ?_
      rintro e w' ⟨rfl, n, os, rfl⟩
      refine ⟨_, rfl, cx, { st with own := st.own.set id (some ((sortL l).map str ++ sp)) }, .tup [], ?_, .tup [] [] rfl (by simp), h⟩
      -- the block's content turns; then new blocks come
      obtain ⟨w1, hw1⟩ : ∃ w1, putRow encStr (Sort.ahead w n) b 0 (l.mergeSort fun x y => decide (x ≤ y)).toArray = w1 := ⟨_, rfl⟩
      have hw1' : grow w1 #[] = w1 := grow_empty w1
      have hsz1 : w1.heap.size = w.heap.size := by rw [← hw1]; simp [putRow, mapBlock, Sort.ahead]
      have r1 : Rel w0 im0 cx { st with own := st.own.set id (some ((sortL l).map str ++ sp)) } a w1 := by
        refine r.setOwn hb ho (fun d hd => ?_) ?_ ?_
        · rw [← hw1]
          simp [putRow, mapBlock, Sort.ahead, Array.getElem?_modify, Ne.symm hd]
        · rw [← hw1', ← hw1]
          exact below_sorted _ r.below hOK.new r.below.size
        · refine ⟨_, te, lo, hi, (by rw [← hw1', ← hw1]; exact heap_put hblk), ?_, ?_, ?_, ?_⟩
          · simpa [putCells] using hfr
          · simp only [List.length_append, List.length_map, sortL_len] at hsize ⊢
            simpa [putCells] using hsize
          · intro i e he
            rcases getElem?_app' _ _ _ _ he with ⟨h1, h2⟩ | ⟨h1, h2⟩
            · rw [List.getElem?_map] at h2
              cases hq : (sortL l)[i]? with
              | none => simp [hq] at h2
              | some z => simp only [hq, Option.map_some, Option.some.injEq] at h2; subst h2; rfl
            · refine hlv i e ?_
              rw [List.length_map, sortL_len] at h1 h2
              rw [List.getElem?_append_right (by rw [List.length_map]; exact h1), List.length_map]; exact h2
          · intro i e j y he hy
            rcases getElem?_app' _ _ _ _ he with ⟨h1, h2⟩ | ⟨h1, h2⟩
            · rw [List.length_map, sortL_len] at h1
              rw [List.getElem?_map] at h2
              cases hq : (sortL l)[i]? with
              | none => simp [hq] at h2
              | some z =>
                simp only [hq, Option.map_some, Option.some.injEq] at h2; subst h2
                cases j with
                | succ j => simp [AV.leaves] at hy
                | zero =>
                  simp only [AV.leaves, List.getElem?_cons_zero, Option.some.injEq] at hy; subst hy
                  have hlt : i < cs.size := (Array.getElem?_eq_some_iff.1 (hget i h1)).1
                  refine ⟨encStr z, ?_, .base (.v _), .inr rfl⟩
                  rw [Nat.mul_one, Nat.add_zero]
                  have hz2 : (l.mergeSort fun x y => decide (x ≤ y))[i]? = some z := hq
                  have hi2 := lt_of_get hz2
                  simp only [putCells, Array.getElem?_mapIdx, Array.getElem?_eq_getElem hlt, Option.map_some]
                  rw [if_pos ⟨Nat.zero_le _, by simpa using hi2⟩]
                  simp [hz2]
            · have h3 : (l.map str ++ sp)[i]? = some e := by
                rw [List.length_map, sortL_len] at h1 h2
                rw [List.getElem?_append_right (by rw [List.length_map]; exact h1), List.length_map]; exact h2
              obtain ⟨v, hv, hvr, hv1⟩ := hcell i e j y h3 hy
              refine ⟨v, ?_, hvr, hv1⟩
              rw [List.length_map, sortL_len] at h1
              have hlt := (Array.getElem?_eq_some_iff.1 hv).1
              simp only [putCells, Array.getElem?_mapIdx, Array.getElem?_eq_getElem hlt, Option.map_some]
              have hns : ¬ (0 ≤ i * 1 + j ∧ i * 1 + j < 0 + (l.mergeSort fun x y => decide (x ≤ y)).toArray.size) := by
                have : (l.mergeSort fun x y => decide (x ≤ y)).length = l.length := List.length_mergeSort l
                simp only [List.size_toArray, this]; omega
              rw [if_neg hns]
              rw [Array.getElem?_eq_getElem hlt] at hv; exact hv
      rw [hw1]
      exact r1.ext (w' := grow w1 os) ((Below.refl _ w1).grown (w' := grow w1 os) (row := none) ⟨rfl, rfl, rfl, by simp [grow], fun k hk _ => heap_grow_old _ _ hk⟩ (Nat.le_refl _) (fun j hj => by cases hj) (Nat.le_refl _))
  · have hl : l = [] := List.eq_nil_of_length_eq_zero hl
    subst hl
    refine (hnone _ 0 w).mono ?_
    rintro e w' ⟨rfl, rfl⟩
    exact ⟨_, rfl, cx, st, .tup [], r, .tup [] [] rfl (by simp), by rw [same rfl] at h; exact h⟩
end Go.Abs
end
section
/- slices.Sorted at what slices.Values hands back: a new row of the same strings, sorted. -/
namespace Go.Proofs
open Go.RowKit Go.Shelf Go.Sort
set_option linter.unusedVariables false
set_option linter.unusedSimpArgs false
attribute [local go_sem] Oper.semAt_some

theorem Tryz.upto_all (zs : List (List UInt8)) : (List.range zs.length).map (fun j => zs[j]?.getD []) = zs := by
  apply List.ext_getElem
  · simp
  · intro i h1 h2
    simp [h2]
theorem Tryz.upto_succ {α : Type} (f : Nat → α) (k : Nat) : (List.range (k + 1)).map f = (List.range k).map f ++ [f k] := by simp [List.range_succ]

set_option maxRecDepth 100000 in
set_option maxHeartbeats 2000000 in
theorem Tryz.values1_in (F : Fence) (n : Nat) (h7 : F.fn 165) (hro : F.round = none) (hn : 1 ≤ n) (l Bs bo b off len cap : Nat) (zs : List (List UInt8)) (hreach : len * 16 ≤ 140737488351232) (w : World) (hb : b < w.heap.size) (J : List (List UInt8) → World → Prop) (hJB : ∀ pre W1, J pre W1 → Below w.heap.size w W1)
    (hY : ∀ pre x W, J pre W → pre.length < len → YieldAt F (n - 1) Tryz.prog l #[encStr x] W fun e W' => e = .returned (.bool true) ∧ J (pre ++ [x]) W' ∧ KeepsWalks W W')
    (W : World) (hBs : W.cell? ⟨Bs, bo, none⟩ = some (.slice (some ⟨b, off, none⟩) len cap)) (hc : ∀ j, j < len → w.cell? ⟨b, off + j, none⟩ = some (encStr (zs[j]?.getD []))) (h0 : J [] W) :
    CallsIn F n Tryz.prog 165 #[.func (.yield l) #[] #[], .pointer (some ⟨Bs, bo, none⟩)] W fun e W' => (∃ v, e = .returned v) ∧ J ((List.range len).map fun j => zs[j]?.getD []) W' := by
  refine callsIn_of_wp Tryz.func165 rfl h7 ?_ hro
  simp only [Tryz.ntmps165, List.size_toArray, List.length_cons, List.length_nil, Nat.reduceAdd, Nat.reduceSub, Array.replicate_succ, Array.replicate_zero, List.push_toArray, List.append_toArray, List.nil_append, List.cons_append]
  gi_wp2
  gi_loopw [7] (fun i wr => ∃ k : Nat, k ≤ len ∧ i = .int .i64 k ∧ J ((List.range k).map fun j => zs[j]?.getD []) wr)
    (fun i _ => len - (intOf i).toNat)
  case atStart => exact ⟨0, Nat.zero_le _, rfl, h0⟩
  case round =>
    obtain ⟨k, hk, rfl, hJs⟩ := hrel
    have hcx : k < len → wr.cell? ⟨b, off + k, none⟩ = some (encStr (zs[k]?.getD [])) := fun h => ((hJB _ _ hJs).cell (p := ⟨b, off + k, none⟩) hb).trans (hc k h)
    by_cases hlt : k < len
    · obtain ⟨fn, tmps, assign, body, hy, hR⟩ := hY _ (zs[k]?.getD []) wr hJs (by simpa using hlt)
      have hcx' := hcx hlt
      dsimp only [encStr] at hy hcx'
      gi_wp2
      refine hR.mono ?_
      rintro e W3 ⟨rfl, hJ3, hk3⟩
      gi_wp2
      go_roundw
      case rel => exact ⟨k + 1, by omega, by simp, by rw [Tryz.upto_succ]; exact hJ3⟩
      case measure => simp [intOf]; omega
    · obtain rfl : k = len := by omega
      gi_wp2
      go_end0
      exact ⟨⟨_, rfl⟩, hJs⟩

set_option maxRecDepth 100000 in
set_option maxHeartbeats 1000000 in
theorem Tryz.values1_none (F : Fence) (n : Nat) (h7 : F.fn 165) (hro : F.round = none) (l Bs bo cap : Nat) (a : Option Addr) (J : List (List UInt8) → World → Prop) (W : World) (hBs : W.cell? ⟨Bs, bo, none⟩ = some (.slice a 0 cap)) (h0 : J [] W) :
    CallsIn F n Tryz.prog 165 #[.func (.yield l) #[] #[], .pointer (some ⟨Bs, bo, none⟩)] W fun e W' => (∃ v, e = .returned v) ∧ J [] W' := by
  refine callsIn_of_wp Tryz.func165 rfl h7 ?_ hro
  simp only [Tryz.ntmps165, List.size_toArray, List.length_cons, List.length_nil, Nat.reduceAdd, Nat.reduceSub, Array.replicate_succ, Array.replicate_zero, List.push_toArray, List.append_toArray, List.nil_append, List.cons_append]
  gi_wp2
  gi_loopw [7] (fun i wr => i = .int .i64 0 ∧ J [] wr) (fun _ _ => 0)
  case atStart => exact ⟨rfl, h0⟩
  case round =>
    obtain ⟨rfl, hJs⟩ := hrel
    gi_wp2
    go_end0
    exact ⟨⟨_, rfl⟩, hJs⟩
theorem Tryz.sorts103 (m : Nat) : AnyZ.SortsIn Tryz.prog Tryz.sorted98_ren Fence.wide m :=
  ⟨fun blk off cap ss W hH hblk hsz => callsIn_wide.2 (AnyM.slices_Sort_string Tryz.sort50 blk off cap ss W hH hblk hsz),
   fun p cap W => callsIn_wide.2 (AnyM.slices_Sort_string_none Tryz.sort50 p cap W)⟩
end Go.Proofs
namespace Go.Proofs.YtajeeghgiilhiaaGreat
open Go Go.Abs Go.RowKit Go.Bk Go.Sort Go.Shelf
abbrev sortL (l : List Bs) : List Bs := l.mergeSort fun x y => decide (x ≤ y)
theorem sorted_c (l : List Bs) (hl : l.length ≤ 1000000) : ACalls E 98 [.fn 165 [.rptr [.sl none 1 (l.map str)]]] (fun r t => r = .sl (some 0) 1 ((sortL l).map str) ∧ t = [(sortL l).length]) := by
  refine ACalls.of_strs (ty := Tryz.sorted98_ren.t 26) fun w im vs hE hG hok hpw => ?_
  obtain ⟨hn, hp⟩ := hpw
  obtain ⟨v, rfl⟩ : ∃ v, vs = [v] := by
    match vs, hn with
    | [v], _ => exact ⟨v, rfl⟩
  obtain ⟨us, rfl, hn2, hp2⟩ := (VR.base (c := ⟨[], [], im⟩) (hp 0 _ v rfl rfl)).inv_fn
  obtain ⟨u, rfl⟩ : ∃ u, us = [u] := by
    match us, hn2 with
    | [u], _ => exact ⟨u, rfl⟩
  obtain ⟨Bs, bo, rfl, cv, h1, h2, h3⟩ := (hp2 0 _ u rfl rfl).inv_rptr
  have hc := hok _ _ _ (h1 0 _ rfl)
  have hs := h3 0 _ rfl
  have hBs := World.block_lt_of_cell? w _ hc
  have hbase : ∃ S : List (List UInt8) → Prop, (∀ ss, S ss → ss = l) ∧ SeqB Fence.wide 2 Tryz.prog 165 #[.pointer (some ⟨Bs, bo, none⟩)] encStr S l.length w := by
    obtain ⟨a, cap, hcv, hcap, hd⟩ := hs.inv_sl
    rw [List.length_map] at hcv
    refine ⟨fun ss => ss = l, fun _ h => h, fun lp J W hW hJ hB hY h0 => ?_⟩
    have hc' := (hW.cell (p := ⟨Bs, bo, none⟩) hBs).trans hc
    rw [hcv] at hc'
    rcases hd with hd | ⟨b, o, rfl, hk, cw, g1, g2, g3⟩
    · have : l = [] := by simpa using hd
      subst this
      exact (Tryz.values1_none Fence.wide 2 trivial rfl lp Bs bo cap a J W hc' h0).mono fun e W' ⟨he, hj⟩ => ⟨he, [], rfl, hj⟩
    · have hcell : ∀ j, j < l.length → w.cell? ⟨b, o + j, none⟩ = some (encStr (l[j]?.getD [])) := fun j hj => by
        have e1 : (l.map str)[j]? = some (str (l[j]?.getD [])) := by simp [hj]
        have e2 := g1 j _ 0 _ e1 rfl
        have e3 := g3 j _ 0 _ e1 rfl
        have e5 := (VR.base (c := ⟨[], [], im⟩) e3).inv_v
        have e4 := hok _ _ _ e2
        rw [e5] at e4
        simpa using e4
      rcases Nat.eq_zero_or_pos l.length with hz | hz
      · have : l = [] := List.eq_nil_of_length_eq_zero hz
        subst this
        exact (Tryz.values1_none Fence.wide 2 trivial rfl lp Bs bo cap _ J W hc' h0).mono fun e W' ⟨he, hj⟩ => ⟨he, [], rfl, hj⟩
      · have hb := World.block_lt_of_cell? w _ (hcell 0 hz)
        refine (Tryz.values1_in Fence.wide 2 trivial rfl (by omega) lp Bs bo b o l.length cap l (by omega) w hb J hB hY W hc' hcell h0).mono ?_
        rintro e W' ⟨he, hj⟩
        rw [Tryz.upto_all] at hj
        exact ⟨he, l, rfl, hj⟩
  obtain ⟨S, hS, hseq⟩ := hbase
  refine (callsIn_wide.1 (Sq.sorted_b Tryz.sorted98 Fence.wide 5 trivial trivial trivial trivial rfl (by omega) (Tryz.sorts103 _) (enters_of Tryz.func103 (by kernel_rfl) rfl) 165 #[.pointer (some ⟨Bs, bo, none⟩)] trivial (enters_of Tryz.func165 (by kernel_rfl) rfl) S l.length (by simp [maxLen]; omega) (by omega) w hseq)).mono ?_
  rintro e w' ⟨v, ss, rfl, hss, hrow, _, hbl⟩
  obtain rfl := hS ss hss
  refine ⟨v, rfl, ?_, hbl⟩
  simpa [sortL] using hrow
end Go.Proofs.YtajeeghgiilhiaaGreat
end
section
set_option linter.unusedVariables false
set_option linter.unusedSimpArgs false
namespace Go.Proofs.YtajeeghgiilhiaaGreat
open Go Go.Abs Go.RowKit Go.Bk
theorem place_at {l : List Od} {i : Nat} {o : Od} (h : l[i]? = some o) : placeI l o.id = i ↔ placeF (l.take i) o.id = none := by
  rw [placeI_idx, idxI_at h (by simp), placeF, List.findIdx?_eq_none_iff]
theorem okAt_ref {l : List Od} {i : Nat} {o : Od} (h : l[i]? = some o) (h1 : mayB o = true) (h2 : placeI l o.id = i) : okAt l i = true := by
  unfold okAt; rw [h]; simp [h1, (place_at h).1 h2]
theorem okAt_refno {l : List Od} {i : Nat} {o : Od} (h : l[i]? = some o) (h2 : ¬ placeI l o.id = i) : okAt l i = false := by
  unfold okAt; rw [h]
  rw [place_at h] at h2
  cases hp : placeF (l.take i) o.id with
  | none => exact absurd hp h2
  | some n => simp [hp]
theorem right_long {l : List Od} {i : Nat} (h1 : i ≤ l.length) (h2 : i < l.length) (h3 : 63 < i) : rightO l = false := right_no1 (by omega)

set_option maxHeartbeats 4000000 in
set_option maxRecDepth 8000 in
theorem r11small_c (n : Int) : ACalls E 187 [i64 n] (fun r t => r = bl (smallB n) ∧ t = []) := by -- checkroll/checkrollref11.small
  refine ACalls.of_awp (n := 9) (rs := [.tmp 2]) Tryz.func187 rfl Tryz.ntmps187 rfl ?_
  repeat' (first
    | refine AWP.seqk fun K hK => ?_
    | (refine AWP.region ?_; simp only [go_sem])
    | (refine hK _ ?_; clear hK K)
    | refine AWP.block ?_
    | refine AWP.cond rfl (fun c => ?_) (fun c => ?_) <;> first | exact Bool.noConfusion c | (try simp only [dD] at c)
    | refine AWP.skip ?_
    | (refine AWP.exit ?_; simp only [go_sem])
    | (refine AGuard.splitN (fun h => ?_) (fun h => ?_) <;> simp only [h, go_sem] <;> (try simp only [dD] at h))
    | (refine AGuard.split (fun h => ?_) (fun h => ?_) <;> simp only [h, go_sem] <;> (try simp only [dD] at h))
    | (refine AGet.haveM (by assumption) ?_; (try simp only [go_sem]))
    | (refine AGet.have' (by assumption) ?_; (try simp only [go_sem]))
    | ((first | refine AGet.nth ?_ (fun b hb => ?_) | refine AGet.nth1 ?_ (fun b hb => ?_) | with_reducible refine And.intro ?_ ?_); (focus (first | omega | assumption | exact List.length_pos_iff.2 (by assumption) | (simp only [List.length_append, List.length_cons, List.length_nil, List.length_map, List.length_take, List.length_drop] at *; omega) | (rw [wrap64_id (by omega) (by omega)]; omega) | (simp; done) | (simp [spare_len]; done) | (exact ⟨by omega, by omega⟩))); (try simp only [hb, go_sem]))
    | (
        refine AWP.ret ?_
        refine AEnd.is ?_; simp only [go_sem, out_v, out_s, out_n, v_int, v_bool, v_str]; (simp_all [smallB] <;> omega))
    | refine AWP.fin (by assumption) ?_)

set_option maxHeartbeats 4000000 in
set_option maxRecDepth 8000 in
theorem r12small_c (n : Int) : ACalls E 68 [i64 n] (fun r t => r = bl (smallB n) ∧ t = []) := by -- checkroll/checkrollref12.small
  refine ACalls.of_awp (n := 9) (rs := [.tmp 2]) Tryz.func68 rfl Tryz.ntmps68 rfl ?_
  repeat' (first
    | refine AWP.seqk fun K hK => ?_
    | (refine AWP.region ?_; simp only [go_sem])
    | (refine hK _ ?_; clear hK K)
    | refine AWP.block ?_
    | refine AWP.cond rfl (fun c => ?_) (fun c => ?_) <;> first | exact Bool.noConfusion c | (try simp only [dD] at c)
    | refine AWP.skip ?_
    | (refine AWP.exit ?_; simp only [go_sem])
    | (refine AGuard.splitN (fun h => ?_) (fun h => ?_) <;> simp only [h, go_sem] <;> (try simp only [dD] at h))
    | (refine AGuard.split (fun h => ?_) (fun h => ?_) <;> simp only [h, go_sem] <;> (try simp only [dD] at h))
    | (refine AGet.haveM (by assumption) ?_; (try simp only [go_sem]))
    | (refine AGet.have' (by assumption) ?_; (try simp only [go_sem]))
    | ((first | refine AGet.nth ?_ (fun b hb => ?_) | refine AGet.nth1 ?_ (fun b hb => ?_) | with_reducible refine And.intro ?_ ?_); (focus (first | omega | assumption | exact List.length_pos_iff.2 (by assumption) | (simp only [List.length_append, List.length_cons, List.length_nil, List.length_map, List.length_take, List.length_drop] at *; omega) | (rw [wrap64_id (by omega) (by omega)]; omega) | (simp; done) | (simp [spare_len]; done) | (exact ⟨by omega, by omega⟩))); (try simp only [hb, go_sem]))
    | (
        refine AWP.ret ?_
        refine AEnd.is ?_; simp only [go_sem, out_v, out_s, out_n, v_int, v_bool, v_str]; (simp_all [smallB] <;> omega))
    | refine AWP.fin (by assumption) ?_)

set_option maxHeartbeats 4000000 in
set_option maxRecDepth 8000 in
theorem r11name_c (s : Bs) : ACalls E 186 [str s] (fun r t => r = bl (namedB s) ∧ t = []) := by -- checkroll/checkrollref11.name
  refine ACalls.of_awp (n := 11) (rs := [.tmp 2]) Tryz.func186 rfl Tryz.ntmps186 rfl ?_
  repeat' (first
    | refine AWP.seqk fun K hK => ?_
    | (refine AWP.region ?_; simp only [go_sem])
    | (refine hK _ ?_; clear hK K)
    | refine AWP.block ?_
    | refine AWP.cond rfl (fun c => ?_) (fun c => ?_) <;> first | exact Bool.noConfusion c | (try simp only [dD] at c)
    | refine AWP.skip ?_
    | (refine AWP.exit ?_; simp only [go_sem])
    | (refine AGuard.splitN (fun h => ?_) (fun h => ?_) <;> simp only [h, go_sem] <;> (try simp only [dD] at h))
    | (refine AGuard.split (fun h => ?_) (fun h => ?_) <;> simp only [h, go_sem] <;> (try simp only [dD] at h))
    | (refine AGet.haveM (by assumption) ?_; (try simp only [go_sem]))
    | (refine AGet.have' (by assumption) ?_; (try simp only [go_sem]))
    | ((first | refine AGet.nth ?_ (fun b hb => ?_) | refine AGet.nth1 ?_ (fun b hb => ?_) | with_reducible refine And.intro ?_ ?_); (focus (first | omega | assumption | exact List.length_pos_iff.2 (by assumption) | (simp only [List.length_append, List.length_cons, List.length_nil, List.length_map, List.length_take, List.length_drop] at *; omega) | (rw [wrap64_id (by omega) (by omega)]; omega) | (simp; done) | (simp [spare_len]; done) | (exact ⟨by omega, by omega⟩))); (try simp only [hb, go_sem]))
    | (
        refine AWP.ret ?_
        refine AEnd.is ?_; simp only [go_sem, out_v, out_s, out_n, v_int, v_bool, v_str]; (cases s <;> simp_all [namedB] <;> omega))
    | refine AWP.fin (by assumption) ?_)

set_option maxHeartbeats 4000000 in
set_option maxRecDepth 8000 in
theorem r11may_c (o : Od) : ACalls E 139 [odV o] (fun r t => r = bl (mayB o) ∧ t = []) := by -- checkroll/checkrollref11.May
  refine ACalls.of_awp (n := 38) (rs := [.tmp 2]) Tryz.func139 rfl Tryz.ntmps139 rfl ?_
  repeat' (first
    | refine AWP.seqk fun K hK => ?_
    | (refine AWP.region ?_; simp only [go_sem])
    | (refine hK _ ?_; clear hK K)
    | refine AWP.block ?_
    | refine AWP.cond rfl (fun c => ?_) (fun c => ?_) <;> first | exact Bool.noConfusion c | (try simp only [dD] at c)
    | refine AWP.skip ?_
    | (refine AWP.exit ?_; simp only [go_sem])
    | (refine ACall.one (r11name_c _) (by kernel_rfl) rfl ?_; simp only [go_sem])
    | (refine ACall.one (r11small_c _) (by kernel_rfl) rfl ?_; simp only [go_sem])
    | (refine AGuard.splitN (fun h => ?_) (fun h => ?_) <;> simp only [h, go_sem] <;> (try simp only [dD] at h))
    | (refine AGuard.split (fun h => ?_) (fun h => ?_) <;> simp only [h, go_sem] <;> (try simp only [dD] at h))
    | (refine AGet.haveM (by assumption) ?_; (try simp only [go_sem]))
    | (refine AGet.have' (by assumption) ?_; (try simp only [go_sem]))
    | ((first | refine AGet.nth ?_ (fun b hb => ?_) | refine AGet.nth1 ?_ (fun b hb => ?_) | with_reducible refine And.intro ?_ ?_); (focus (first | omega | assumption | exact List.length_pos_iff.2 (by assumption) | (simp only [List.length_append, List.length_cons, List.length_nil, List.length_map, List.length_take, List.length_drop] at *; omega) | (rw [wrap64_id (by omega) (by omega)]; omega) | (simp; done) | (simp [spare_len]; done) | (exact ⟨by omega, by omega⟩))); (try simp only [hb, go_sem]))
    | (
        refine AWP.ret ?_
        refine AEnd.is ?_; simp only [go_sem, out_v, out_s, out_n, v_int, v_bool, v_str]; (simp_all [mayB] <;> (intros; omega)))
    | refine AWP.fin (by assumption) ?_)

set_option maxHeartbeats 4000000 in
set_option maxRecDepth 8000 in
theorem seen_c (l : List Bs) (id : Bs) (hl : l.length ≤ 9223372036854775807) : ACalls E 66 [.sl none 1 (l.map str), str id] (fun r t => r = i64 (idI l id) ∧ t = []) := by -- checkroll/checkrollref12.seen
  refine ACalls.of_awp (n := 19) (rs := [.tmp 4]) Tryz.func66 rfl Tryz.ntmps66 rfl ?_
  repeat' (first
    | refine AWP.seqk fun K hK => ?_
    | (refine AWP.region ?_; simp only [go_sem])
    | (refine hK _ ?_; clear hK K)
    | refine AWP.block ?_
    | refine AWP.cond rfl (fun c => ?_) (fun c => ?_) <;> first | exact Bool.noConfusion c | (try simp only [dD] at c)
    | refine AWP.skip ?_
    | (refine AWP.exit ?_; simp only [go_sem])
    | (refine AGet.haveM (by assumption) ?_; (try simp only [go_sem]))
    | (refine AGet.have' (by assumption) ?_; (try simp only [go_sem]))
    | ((first | refine AGet.nth ?_ (fun b hb => ?_) | refine AGet.nth1 ?_ (fun b hb => ?_) | with_reducible refine And.intro ?_ ?_); (focus (first | omega | assumption | exact List.length_pos_iff.2 (by assumption) | (simp only [List.length_append, List.length_cons, List.length_nil, List.length_map, List.length_take, List.length_drop] at *; omega) | (rw [wrap64_id (by omega) (by omega)]; omega) | (simp; done) | (simp [spare_len]; done) | (exact ⟨by omega, by omega⟩))); (try simp only [hb, go_sem]))
    | (
        refine AWP.here 2 6 4 rfl ?_
        refine AWP.loopN (ι := Nat) [4, 6, 7, 8, 9, 10, 11, 12, 13, 14, 15, 16, 17, 18] (fun (i : Nat) => [(5, i64 i)]) (fun (i : Nat) => i ≤ l.length ∧ idxGo (fun s => decide (s = id)) i (l.drop i) = idI l id) (fun (i : Nat) => l.length - i) (0) ?_ ?_ ?_
        · (try simp only [go_sem]); (repeat' (first | refine And.intro ?_ ?_ | exact .inl rfl | exact .inr rfl | exact .inr ⟨rfl, rfl⟩ | trivial | (simp; done)))
        · exact ⟨by omega, by rw [idI_idx']; rfl⟩
        rintro i ⟨h1, h2⟩
        simp only [go_sem])
    | (
        refine ⟨i + 1, ?_, ?_, ?_⟩
        · (try simp only [go_sem]); (try rw [wrap64_id (by omega) (by omega)]); (repeat' (first | refine And.intro ?_ ?_ | exact .inl rfl | exact .inr rfl | exact .inr ⟨rfl, rfl⟩ | trivial | (simp; done)))
        · exact ⟨by omega, by rw [drop_of (by assumption)] at h2; rw [← h2]; simp [idxGo, *]⟩
        · (try simp only []); omega)
    | (
        refine AWP.ret ?_
        refine AEnd.is ?_; simp only [go_sem, out_v, out_s, out_n, v_int, v_bool, v_str]; (first | (rw [drop_of (by assumption)] at h2; rw [← h2]; simp [idxGo, *]; done) | (rw [drop_end (by omega)] at h2; rw [← h2]; simp [idxGo])))
    | refine AWP.fin (by assumption) ?_)

set_option maxHeartbeats 4000000 in
set_option maxRecDepth 8000 in
theorem r12at_c (l : List Dn) (id : Bs) (hl : l.length ≤ 9223372036854775807) : ACalls E 67 [dnsV l, str id] (fun r t => r = i64 (atI l id) ∧ t = []) := by -- checkroll/checkrollref12.At
  refine ACalls.of_awp (n := 20) (rs := [.tmp 4]) Tryz.func67 rfl Tryz.ntmps67 rfl ?_
  repeat' (first
    | refine AWP.seqk fun K hK => ?_
    | (refine AWP.region ?_; simp only [go_sem])
    | (refine hK _ ?_; clear hK K)
    | refine AWP.block ?_
    | refine AWP.cond rfl (fun c => ?_) (fun c => ?_) <;> first | exact Bool.noConfusion c | (try simp only [dD] at c)
    | refine AWP.skip ?_
    | (refine AWP.exit ?_; simp only [go_sem])
    | (refine AGet.haveM (by assumption) ?_; (try simp only [go_sem]))
    | (refine AGet.have' (by assumption) ?_; (try simp only [go_sem]))
    | ((first | refine AGet.nth ?_ (fun b hb => ?_) | refine AGet.nth1 ?_ (fun b hb => ?_) | with_reducible refine And.intro ?_ ?_); (focus (first | omega | assumption | exact List.length_pos_iff.2 (by assumption) | (simp only [List.length_append, List.length_cons, List.length_nil, List.length_map, List.length_take, List.length_drop] at *; omega) | (rw [wrap64_id (by omega) (by omega)]; omega) | (simp; done) | (simp [spare_len]; done) | (exact ⟨by omega, by omega⟩))); (try simp only [hb, go_sem]))
    | (
        refine AWP.here 2 6 4 rfl ?_
        refine AWP.loopN (ι := Nat) [4, 6, 7, 8, 9, 10, 11, 12, 13, 14, 15, 16, 17, 18, 19] (fun (i : Nat) => [(5, i64 i)]) (fun (i : Nat) => i ≤ l.length ∧ idxGo (fun s => decide (s.id = id)) i (l.drop i) = atI l id) (fun (i : Nat) => l.length - i) (0) ?_ ?_ ?_
        · (try simp only [go_sem]); (repeat' (first | refine And.intro ?_ ?_ | exact .inl rfl | exact .inr rfl | exact .inr ⟨rfl, rfl⟩ | trivial | (simp; done)))
        · exact ⟨by omega, by rw [atI_idx]; rfl⟩
        rintro i ⟨h1, h2⟩
        simp only [go_sem])
    | (
        refine ⟨i + 1, ?_, ?_, ?_⟩
        · (try simp only [go_sem]); (try rw [wrap64_id (by omega) (by omega)]); (repeat' (first | refine And.intro ?_ ?_ | exact .inl rfl | exact .inr rfl | exact .inr ⟨rfl, rfl⟩ | trivial | (simp; done)))
        · exact ⟨by omega, by rw [drop_of (by assumption)] at h2; rw [← h2]; simp [idxGo, *]⟩
        · (try simp only []); omega)
    | (
        refine AWP.ret ?_
        refine AEnd.is ?_; simp only [go_sem, out_v, out_s, out_n, v_int, v_bool, v_str]; (first | (rw [drop_of (by assumption)] at h2; rw [← h2]; simp [idxGo, *]; done) | (rw [drop_end (by omega)] at h2; rw [← h2]; simp [idxGo])))
    | refine AWP.fin (by assumption) ?_)

set_option maxHeartbeats 4000000 in
set_option maxRecDepth 8000 in
theorem r11at_c (l : List Od) (id : Bs) (hl : l.length ≤ 9223372036854775807) : ACalls E 123 [odsV l, str id] (fun r t => r = i64 (placeI l id) ∧ t = []) := by -- checkroll/checkrollref11.At
  refine ACalls.of_awp (n := 20) (rs := [.tmp 4]) Tryz.func123 rfl Tryz.ntmps123 rfl ?_
  repeat' (first
    | refine AWP.seqk fun K hK => ?_
    | (refine AWP.region ?_; simp only [go_sem])
    | (refine hK _ ?_; clear hK K)
    | refine AWP.block ?_
    | refine AWP.cond rfl (fun c => ?_) (fun c => ?_) <;> first | exact Bool.noConfusion c | (try simp only [dD] at c)
    | refine AWP.skip ?_
    | (refine AWP.exit ?_; simp only [go_sem])
    | (refine AGet.haveM (by assumption) ?_; (try simp only [go_sem]))
    | (refine AGet.have' (by assumption) ?_; (try simp only [go_sem]))
    | ((first | refine AGet.nth ?_ (fun b hb => ?_) | refine AGet.nth1 ?_ (fun b hb => ?_) | with_reducible refine And.intro ?_ ?_); (focus (first | omega | assumption | exact List.length_pos_iff.2 (by assumption) | (simp only [List.length_append, List.length_cons, List.length_nil, List.length_map, List.length_take, List.length_drop] at *; omega) | (rw [wrap64_id (by omega) (by omega)]; omega) | (simp; done) | (simp [spare_len]; done) | (exact ⟨by omega, by omega⟩))); (try simp only [hb, go_sem]))
    | (
        refine AWP.here 2 6 4 rfl ?_
        refine AWP.loopN (ι := Nat) [4, 6, 7, 8, 9, 10, 11, 12, 13, 14, 15, 16, 17, 18, 19] (fun (i : Nat) => [(5, i64 i)]) (fun (i : Nat) => i ≤ l.length ∧ idxGo (fun s => decide (s.id = id)) i (l.drop i) = placeI l id) (fun (i : Nat) => l.length - i) (0) ?_ ?_ ?_
        · (try simp only [go_sem]); (repeat' (first | refine And.intro ?_ ?_ | exact .inl rfl | exact .inr rfl | exact .inr ⟨rfl, rfl⟩ | trivial | (simp; done)))
        · exact ⟨by omega, by rw [placeI_idx]; rfl⟩
        rintro i ⟨h1, h2⟩
        simp only [go_sem])
    | (
        refine ⟨i + 1, ?_, ?_, ?_⟩
        · (try simp only [go_sem]); (try rw [wrap64_id (by omega) (by omega)]); (repeat' (first | refine And.intro ?_ ?_ | exact .inl rfl | exact .inr rfl | exact .inr ⟨rfl, rfl⟩ | trivial | (simp; done)))
        · exact ⟨by omega, by rw [drop_of (by assumption)] at h2; rw [← h2]; simp [idxGo, *]⟩
        · (try simp only []); omega)
    | (
        refine AWP.ret ?_
        refine AEnd.is ?_; simp only [go_sem, out_v, out_s, out_n, v_int, v_bool, v_str]; (first | (rw [drop_of (by assumption)] at h2; rw [← h2]; simp [idxGo, *]; done) | (rw [drop_end (by omega)] at h2; rw [← h2]; simp [idxGo])))
    | refine AWP.fin (by assumption) ?_)

set_option maxHeartbeats 4000000 in
set_option maxRecDepth 8000 in
theorem r11right_c (l : List Od) (hl : l.length ≤ 9223372036854775807) : ACalls E 65 [odsV l] (fun r t => r = bl (rightO l) ∧ t = []) := by -- checkroll/checkrollref11.Right
  refine ACalls.of_awp (n := 31) (rs := [.tmp 2]) Tryz.func65 rfl Tryz.ntmps65 rfl ?_
  repeat' (first
    | refine AWP.seqk fun K hK => ?_
    | (refine AWP.region ?_; simp only [go_sem])
    | (refine hK _ ?_; clear hK K)
    | refine AWP.block ?_
    | refine AWP.cond rfl (fun c => ?_) (fun c => ?_) <;> first | exact Bool.noConfusion c | (try simp only [dD] at c)
    | refine AWP.skip ?_
    | (refine AWP.exit ?_; simp only [go_sem])
    | (refine ACall.one (r11may_c _) (by kernel_rfl) rfl ?_; simp only [go_sem])
    | (refine ACall.one (r11at_c _ _ (by first | assumption | omega | (simp only [List.length_take]; omega))) (by kernel_rfl) rfl ?_; simp only [go_sem])
    | (refine AGuard.splitN (fun h => ?_) (fun h => ?_) <;> simp only [h, go_sem] <;> (try simp only [dD] at h))
    | (refine AGuard.split (fun h => ?_) (fun h => ?_) <;> simp only [h, go_sem] <;> (try simp only [dD] at h))
    | (refine AGet.haveM (by assumption) ?_; (try simp only [go_sem]))
    | (refine AGet.have' (by assumption) ?_; (try simp only [go_sem]))
    | ((first | refine AGet.nth ?_ (fun b hb => ?_) | refine AGet.nth1 ?_ (fun b hb => ?_) | with_reducible refine And.intro ?_ ?_); (focus (first | omega | assumption | exact List.length_pos_iff.2 (by assumption) | (simp only [List.length_append, List.length_cons, List.length_nil, List.length_map, List.length_take, List.length_drop] at *; omega) | (rw [wrap64_id (by omega) (by omega)]; omega) | (simp; done) | (simp [spare_len]; done) | (exact ⟨by omega, by omega⟩))); (try simp only [hb, go_sem]))
    | (
        refine AWP.here 2 4 4 rfl ?_
        refine AWP.loopN (ι := Nat) [2, 4, 5, 6, 7, 8, 9, 10, 11, 12, 13, 14, 15, 16, 17, 18, 19, 20, 21, 22, 23, 24, 25, 26, 27, 28, 29, 30] (fun (i : Nat) => [(3, i64 i)]) (fun (i : Nat) => i ≤ l.length ∧ i ≤ 64 ∧ rightGo l i = true) (fun (i : Nat) => l.length - i) (0) ?_ ?_ ?_
        · (try simp only [go_sem]); (repeat' (first | refine And.intro ?_ ?_ | exact .inl rfl | exact .inr rfl | exact .inr ⟨rfl, rfl⟩ | trivial | (simp; done)))
        · exact ⟨by omega, by omega, rfl⟩
        rintro i ⟨h1, h2, h3⟩
        simp only [go_sem])
    | (
        refine ⟨i + 1, ?_, ?_, ?_⟩
        · (try simp only [go_sem]); (try rw [wrap64_id (by omega) (by omega)]); (repeat' (first | refine And.intro ?_ ?_ | exact .inl rfl | exact .inr rfl | exact .inr ⟨rfl, rfl⟩ | trivial | (simp; done)))
        · exact ⟨by omega, by omega, rightGo_next h3 (okAt_ref hb (by assumption) (by omega))⟩
        · (try simp only []); omega)
    | (
        refine AWP.ret ?_
        refine AEnd.is ?_; simp only [go_sem, out_v, out_s, out_n, v_int, v_bool, v_str]; (first
        | (rw [right_long h1 (by omega) (by omega)]; done)
        | (rw [right_no2 (by omega) (okAt_no1 hb (by assumption))]; done)
        | (rw [right_no2 (by omega) (okAt_refno hb (by omega))]; done)
        | (rw [right_yes (by omega) (by omega) h3]; done)))
    | refine AWP.fin (by assumption) ?_)


end Go.Proofs.YtajeeghgiilhiaaGreat
end
section
set_option linter.unusedVariables false
set_option linter.unusedSimpArgs false
namespace Go.Proofs.YtajeeghgiilhiaaGreat
open Go Go.Abs Go.RowKit Go.Bk
theorem twice_next {l : List Bs} {i : Nat} {p b : Bs} (hp : l[i]? = some p) (hb : l[i + 1]? = some b) (h : ¬ b = p) : twiceB (l.drop (i + 1)) = twiceB (l.drop i) := by
  rw [drop_of hp, drop_of hb]; simp [twiceB, h]
theorem twice_yes {l : List Bs} {i : Nat} {p b : Bs} (hp : l[i]? = some p) (hb : l[i + 1]? = some b) (h : b = p) : twiceB (l.drop i) = true := by
  rw [drop_of hp, drop_of hb]; simp [twiceB, h]
theorem twice_end {l : List Bs} {i : Nat} (h : l.length ≤ i + 1) : twiceB (l.drop i) = false := by
  cases hd : l.drop i with
  | nil => rfl
  | cons x m =>
    have := congrArg List.length hd
    rw [List.length_drop, List.length_cons] at this
    have : m = [] := List.eq_nil_of_length_eq_zero (by omega)
    subst this; rfl
theorem half_eq {i j : Nat} (h1 : i ≤ 1000000) (h2 : j ≤ 1000000) : IntKind.i64.wrap ((IntKind.u64.wrap (IntKind.i64.wrap ((i : Int) + j))).fdiv (2 ^ (min 1 64))) = (((i + j) / 2 : Nat) : Int) := by
  have e0 : IntKind.i64.wrap ((i : Int) + j) = (i : Int) + j := wrap64_id (by omega) (by omega)
  have e1 : IntKind.u64.wrap ((i : Int) + j) = ((i : Int) + j) := by
    simp only [IntKind.wrap, IntKind.bits, IntKind.signed]
    have : ((i : Int) + j) % 2 ^ 64 = ((i : Int) + j) := by omega
    simp only [this]; simp
  rw [e0, e1, show (2 : Int) ^ (min 1 64) = 2 by decide, Int.fdiv_eq_ediv_of_nonneg _ (by omega)]
  rw [wrap64_id (by omega) (by omega)]; omega
theorem lows {l : List Bs} {x y : Bs} {i m : Nat} (hs : l.Pairwise (fun a b => a ≤ b)) (h3 : ∀ k y, k < i → l[k]? = some y → y < x) (hb : l[m]? = some y) (h : y < x) : ∀ k y, k < m + 1 → l[k]? = some y → y < x := by
  intro k z hk hz
  rcases Nat.lt_or_ge k m with h' | h'
  · obtain ⟨hk1, rfl⟩ := List.getElem?_eq_some_iff.1 hz
    obtain ⟨hm1, rfl⟩ := List.getElem?_eq_some_iff.1 hb
    exact List.lt_of_le_of_lt (List.pairwise_iff_getElem.1 hs k m hk1 hm1 h') h
  · have : k = m := by omega
    subst this
    rw [hb] at hz; cases hz; exact h
theorem highs {l : List Bs} {x y : Bs} {j m : Nat} (hs : l.Pairwise (fun a b => a ≤ b)) (h4 : ∀ k y, j ≤ k → l[k]? = some y → ¬ y < x) (hb : l[m]? = some y) (h : ¬ y < x) : ∀ k y, m ≤ k → l[k]? = some y → ¬ y < x := by
  intro k z hk hz hc
  rcases Nat.lt_or_ge m k with h' | h'
  · obtain ⟨hk1, rfl⟩ := List.getElem?_eq_some_iff.1 hz
    obtain ⟨hm1, rfl⟩ := List.getElem?_eq_some_iff.1 hb
    exact h (List.lt_of_le_of_lt (List.pairwise_iff_getElem.1 hs m k hm1 hk1 h') hc)
  · have : k = m := by omega
    subst this
    rw [hb] at hz; cases hz; exact h hc
theorem found_yes {l : List Bs} {x y : Bs} {i : Nat} (h3 : ∀ k y, k < i → l[k]? = some y → y < x) (h4 : ∀ k y, i ≤ k → l[k]? = some y → ¬ y < x) (hs : l.Pairwise (fun a b => a ≤ b)) (hb : l[i]? = some y) : decide (x ∈ l) = decide (y = x) := by
  by_cases h : y = x
  · subst h; simp [List.mem_of_getElem? hb]
  · have : ¬ x ∈ l := fun hm => by
      obtain ⟨k, hk⟩ := List.mem_iff_getElem?.1 hm
      rcases Nat.lt_trichotomy k i with h' | h' | h'
      · exact List.lt_irrefl x (h3 k x h' hk)
      · subst h'; rw [hk] at hb; cases hb; exact h rfl
      · obtain ⟨hk1, e1⟩ := List.getElem?_eq_some_iff.1 hk
        obtain ⟨hm1, e2⟩ := List.getElem?_eq_some_iff.1 hb
        have := List.pairwise_iff_getElem.1 hs i k hm1 hk1 h'
        rw [e1, e2] at this
        have h5 := h4 i y (Nat.le_refl _) hb
        exact h (List.le_antisymm this (List.not_lt.1 h5))
    simp [this, h]
theorem found_no {l : List Bs} {x : Bs} {i : Nat} (hi : l.length ≤ i) (h3 : ∀ k y, k < i → l[k]? = some y → y < x) : decide (x ∈ l) = false := by
  simp only [decide_eq_false_iff_not]
  intro hm
  obtain ⟨k, hk⟩ := List.mem_iff_getElem?.1 hm
  exact List.lt_irrefl x (h3 k x (by have := get_lt hk; omega) hk)

set_option maxHeartbeats 4000000 in
set_option maxRecDepth 8000 in
theorem twice_c (l : List Bs) (hl : l.length ≤ 9223372036854775807) : ACalls E 100 [.sl none 1 (l.map str)] (fun r t => r = bl (twiceB l) ∧ t = []) := by -- checkroll/book.twice
  refine ACalls.of_awp (n := 20) (rs := [.tmp 2]) Tryz.func100 rfl Tryz.ntmps100 rfl ?_
  repeat' (first
    | refine AWP.seqk fun K hK => ?_
    | (
        refine AWP.here 4 10 10 rfl ?_
        have hlt : i + 1 < l.length := by omega
        obtain ⟨p, hp⟩ : ∃ p, l[i]? = some p := ⟨_, List.getElem?_eq_getElem (by omega)⟩
        refine AWP.regionO [0, 1, 2, 3, 4, 5, 6, 7, 8, 9] [] (by kernel_rfl) (by kernel_rfl) rfl ?_; simp only [go_sem, hw, hp]
        refine AGet.nth hlt (fun b hb => ?_)
        simp only [hb, go_sem, hw, hp])
    | (refine AWP.region ?_; simp only [go_sem])
    | (refine AWP.here 4 10 10 rfl ?_; refine AWP.regionO [0, 1, 2, 3, 4, 5, 6, 7, 8, 9] [] (by kernel_rfl) (by kernel_rfl) rfl ?_; simp only [go_sem])
    | (refine hK _ ?_; clear hK K)
    | refine AWP.block ?_
    | refine AWP.cond rfl (fun c => ?_) (fun c => ?_) <;> first | exact Bool.noConfusion c | (try simp only [dD] at c)
    | refine AWP.skip ?_
    | (refine AWP.exit ?_; simp only [go_sem])
    | (refine AGet.haveM (by assumption) ?_; (try simp only [go_sem]))
    | (refine AGet.have' (by assumption) ?_; (try simp only [go_sem]))
    | ((first | refine AGet.nth ?_ (fun b hb => ?_) | refine AGet.nth1 ?_ (fun b hb => ?_) | with_reducible refine And.intro ?_ ?_); (focus (first | omega | assumption | exact List.length_pos_iff.2 (by assumption) | (simp only [List.length_append, List.length_cons, List.length_nil, List.length_map, List.length_take, List.length_drop] at *; omega) | (rw [wrap64_id (by omega) (by omega)]; omega) | (simp; done) | (simp [spare_len]; done) | (exact ⟨by omega, by omega⟩))); (try simp only [hb, go_sem]))
    | (
        refine AWP.here 2 4 4 rfl ?_
        refine AWP.loopN (ι := Nat) [2, 4, 5, 6, 7, 8, 9, 10, 11, 12, 13, 14, 15, 16, 17, 18, 19] (fun (i : Nat) => [(3, i64 (i + 1 : Nat))]) (fun (i : Nat) => i ≤ l.length ∧ twiceB (l.drop i) = twiceB l) (fun (i : Nat) => l.length - i) (0) ?_ ?_ ?_
        · (try simp only [go_sem]); (repeat' (first | refine And.intro ?_ ?_ | exact .inl rfl | exact .inr rfl | exact .inr ⟨rfl, rfl⟩ | trivial | (simp; done)))
        · exact ⟨by omega, rfl⟩
        rintro i ⟨h1, h2⟩
        simp only [go_sem]
        have hw : (IntKind.i64.wrap (((i + 1 : Nat) : Int) - 1)) = (i : Int) := by rw [wrap64_id (by omega) (by omega)]; omega)
    | (
        refine ⟨i + 1, ?_, ?_, ?_⟩
        · (try simp only [go_sem]); (try rw [wrap64_id (by omega) (by omega)]); (first | (simp; omega) | (simp; done))
        · exact ⟨by omega, by rw [← h2]; exact twice_next hp hb (by assumption)⟩
        · (try simp only []); omega)
    | (
        refine AWP.ret ?_
        refine AEnd.is ?_; simp only [go_sem, out_v, out_s, out_n, v_int, v_bool, v_str] <;> (first
        | (rw [← h2, twice_yes hp hb (by assumption)]; done)
        | (rw [← h2, twice_end (by omega)]; done)))
    | refine AWP.fin (by assumption) ?_)

set_option maxHeartbeats 4000000 in
set_option maxRecDepth 8000 in
theorem snan_c (s : Bs) : ACalls E 167 [str s] (fun r t => r = bl false ∧ t = []) := by -- slices.isNaN[string]
  refine ACalls.of_awp (n := 6) (rs := [.tmp 2]) Tryz.func167 rfl Tryz.ntmps167 rfl ?_
  repeat' (first
    | refine AWP.seqk fun K hK => ?_
    | (refine AWP.region ?_; simp only [go_sem])
    | (refine hK _ ?_; clear hK K)
    | refine AWP.block ?_
    | refine AWP.cond rfl (fun c => ?_) (fun c => ?_) <;> first | exact Bool.noConfusion c | (try simp only [dD] at c)
    | refine AWP.skip ?_
    | (refine AWP.exit ?_; simp only [go_sem])
    | (refine AGet.haveM (by assumption) ?_; (try simp only [go_sem]))
    | (refine AGet.have' (by assumption) ?_; (try simp only [go_sem]))
    | ((first | refine AGet.nth ?_ (fun b hb => ?_) | refine AGet.nth1 ?_ (fun b hb => ?_) | with_reducible refine And.intro ?_ ?_); (focus (first | omega | assumption | exact List.length_pos_iff.2 (by assumption) | (simp only [List.length_append, List.length_cons, List.length_nil, List.length_map, List.length_take, List.length_drop] at *; omega) | (rw [wrap64_id (by omega) (by omega)]; omega) | (simp; done) | (simp [spare_len]; done) | (exact ⟨by omega, by omega⟩))); (try simp only [hb, go_sem]))
    | (
        refine AWP.ret ?_
        refine AEnd.is ?_; simp only [go_sem, out_v, out_s, out_n, v_int, v_bool, v_str] <;> (simp; done))
    | refine AWP.fin (by assumption) ?_)

set_option maxHeartbeats 4000000 in
set_option maxRecDepth 8000 in
theorem cnan_c (s : Bs) : ACalls E 183 [str s] (fun r t => r = bl false ∧ t = []) := by -- cmp.isNaN[string]
  refine ACalls.of_awp (n := 6) (rs := [.tmp 2]) Tryz.func183 rfl Tryz.ntmps183 rfl ?_
  repeat' (first
    | refine AWP.seqk fun K hK => ?_
    | (refine AWP.region ?_; simp only [go_sem])
    | (refine hK _ ?_; clear hK K)
    | refine AWP.block ?_
    | refine AWP.cond rfl (fun c => ?_) (fun c => ?_) <;> first | exact Bool.noConfusion c | (try simp only [dD] at c)
    | refine AWP.skip ?_
    | (refine AWP.exit ?_; simp only [go_sem])
    | (refine AGet.haveM (by assumption) ?_; (try simp only [go_sem]))
    | (refine AGet.have' (by assumption) ?_; (try simp only [go_sem]))
    | ((first | refine AGet.nth ?_ (fun b hb => ?_) | refine AGet.nth1 ?_ (fun b hb => ?_) | with_reducible refine And.intro ?_ ?_); (focus (first | omega | assumption | exact List.length_pos_iff.2 (by assumption) | (simp only [List.length_append, List.length_cons, List.length_nil, List.length_map, List.length_take, List.length_drop] at *; omega) | (rw [wrap64_id (by omega) (by omega)]; omega) | (simp; done) | (simp [spare_len]; done) | (exact ⟨by omega, by omega⟩))); (try simp only [hb, go_sem]))
    | (
        refine AWP.ret ?_
        refine AEnd.is ?_; simp only [go_sem, out_v, out_s, out_n, v_int, v_bool, v_str] <;> (simp; done))
    | refine AWP.fin (by assumption) ?_)

set_option maxHeartbeats 4000000 in
set_option maxRecDepth 8000 in
theorem cless_c (s u : Bs) : ACalls E 166 [str s, str u] (fun r t => r = bl (decide (s < u)) ∧ t = []) := by -- cmp.Less[string]
  refine ACalls.of_awp (n := 17) (rs := [.tmp 4]) Tryz.func166 rfl Tryz.ntmps166 rfl ?_
  repeat' (first
    | refine AWP.seqk fun K hK => ?_
    | (refine AWP.region ?_; simp only [go_sem, Go.Proofs.bytesLess_eq])
    | (refine hK _ ?_; clear hK K)
    | refine AWP.block ?_
    | refine AWP.cond rfl (fun c => ?_) (fun c => ?_) <;> first | exact Bool.noConfusion c | (try simp only [dD] at c)
    | refine AWP.skip ?_
    | (refine AWP.exit ?_; simp only [go_sem, Go.Proofs.bytesLess_eq])
    | (refine ACall.one (cnan_c _) (by kernel_rfl) rfl ?_; simp only [go_sem, Go.Proofs.bytesLess_eq])
    | (refine AGuard.splitN (fun h => ?_) (fun h => ?_) <;> simp only [h, go_sem, Go.Proofs.bytesLess_eq] <;> (try simp only [dD] at h))
    | (refine AGuard.split (fun h => ?_) (fun h => ?_) <;> simp only [h, go_sem, Go.Proofs.bytesLess_eq] <;> (try simp only [dD] at h))
    | (refine AGet.haveM (by assumption) ?_; (try simp only [go_sem, Go.Proofs.bytesLess_eq]))
    | (refine AGet.have' (by assumption) ?_; (try simp only [go_sem, Go.Proofs.bytesLess_eq]))
    | ((first | refine AGet.nth ?_ (fun b hb => ?_) | refine AGet.nth1 ?_ (fun b hb => ?_) | with_reducible refine And.intro ?_ ?_); (focus (first | omega | assumption | exact List.length_pos_iff.2 (by assumption) | (simp only [List.length_append, List.length_cons, List.length_nil, List.length_map, List.length_take, List.length_drop] at *; omega) | (rw [wrap64_id (by omega) (by omega)]; omega) | (simp; done) | (simp [spare_len]; done) | (exact ⟨by omega, by omega⟩))); (try simp only [hb, go_sem, Go.Proofs.bytesLess_eq]))
    | (
        refine AWP.ret ?_
        refine AEnd.is ?_; simp only [go_sem, out_v, out_s, out_n, v_int, v_bool, v_str] <;> (simp [Go.Proofs.bytesLess_eq]; done))
    | refine AWP.fin (by assumption) ?_)

set_option maxHeartbeats 4000000 in
set_option maxRecDepth 8000 in
theorem bsearch_c (l : List Bs) (x : Bs) (hs : l.Pairwise (fun a b => a ≤ b)) (hl : l.length ≤ 1000000) : ACalls E 102 [.sl none 1 (l.map str), str x] (fun r t => (∃ n : Int, r = .tup [i64 n, bl (decide (x ∈ l))]) ∧ t = []) := by -- slices.BinarySearch[[]string,string]
  refine ACalls.of_awp (n := 54) (rs := [.tmp 4, .tmp 5]) Tryz.func102 rfl Tryz.ntmps102 rfl ?_
  repeat' (first
    | refine AWP.seqk fun K hK => ?_
    | (
        refine AWP.here 5 22 6 rfl ?_
        rw [half_eq (i := i) (j := j) (by omega) (by omega)]
        refine AWP.region ?_; simp only [go_sem])
    | (refine AWP.region ?_; simp only [go_sem])
    | (refine hK _ ?_; clear hK K)
    | refine AWP.block ?_
    | refine AWP.cond rfl (fun c => ?_) (fun c => ?_) <;> first | exact Bool.noConfusion c | (try simp only [dD] at c)
    | refine AWP.skip ?_
    | (refine AWP.exit ?_; simp only [go_sem])
    | (refine ACall.one (cless_c _ _) (by kernel_rfl) rfl ?_; simp only [go_sem])
    | (refine ACall.one (snan_c _) (by kernel_rfl) rfl ?_; simp only [go_sem])
    | (refine AGuard.splitN (fun h => ?_) (fun h => ?_) <;> simp only [h, go_sem] <;> (try simp only [dD] at h))
    | (refine AGuard.split (fun h => ?_) (fun h => ?_) <;> simp only [h, go_sem] <;> (try simp only [dD] at h))
    | (refine AGet.haveM (by assumption) ?_; (try simp only [go_sem]))
    | (refine AGet.have' (by assumption) ?_; (try simp only [go_sem]))
    | ((first | refine AGet.nth ?_ (fun b hb => ?_) | refine AGet.nth1 ?_ (fun b hb => ?_) | with_reducible refine And.intro ?_ ?_); (focus (first | omega | assumption | exact List.length_pos_iff.2 (by assumption) | (simp only [List.length_append, List.length_cons, List.length_nil, List.length_map, List.length_take, List.length_drop] at *; omega) | (rw [wrap64_id (by omega) (by omega)]; omega) | (simp; done) | (simp [spare_len]; done) | (exact ⟨by omega, by omega⟩))); (try simp only [hb, go_sem]))
    | (
        refine AWP.here 3 13 3 rfl ?_
        refine AWP.loopN (ι := Nat × Nat) [9, 13, 14, 15, 16, 17, 18, 19, 20, 21, 22, 23, 24, 25, 26, 27, 28, 29, 30] (fun ⟨i, j⟩ => [(7, i64 i), (8, i64 j)]) (fun ⟨i, j⟩ => i ≤ j ∧ j ≤ l.length ∧ (∀ k y, k < i → l[k]? = some y → y < x) ∧ (∀ k y, j ≤ k → l[k]? = some y → ¬ y < x)) (fun ⟨i, j⟩ => j - i) ((0, l.length)) ?_ ?_ ?_
        · (try simp only [go_sem]); (repeat' (first | refine And.intro ?_ ?_ | exact .inl rfl | exact .inr rfl | exact .inr ⟨rfl, rfl⟩ | trivial | (simp; done)))
        · exact ⟨by simp, by simp, by simp, fun k y h1 h2 => absurd (get_lt h2) (by simpa using h1)⟩
        rintro ⟨i, j⟩ ⟨h1, h2, h3, h4⟩
        simp only [go_sem])
    | (
        first
        | (refine ⟨((i + j) / 2 + 1, j), ?_, ?_, ?_⟩
           · (try simp only [go_sem]); (try rw [wrap64_id (by omega) (by omega)]); simp
           · exact ⟨by show (i + j) / 2 + 1 ≤ j; omega, h2, lows hs h3 hb (by assumption), h4⟩
           · show j - ((i + j) / 2 + 1) < j - i; omega)
        | (refine ⟨(i, (i + j) / 2), ?_, ?_, ?_⟩
           · (try simp only [go_sem]); (try simp)
           · exact ⟨by show i ≤ (i + j) / 2; omega, by show (i + j) / 2 ≤ l.length; omega, h3, highs hs h4 hb (by assumption)⟩
           · show (i + j) / 2 - i < j - i; omega))
    | (
        refine AWP.ret ?_
        simp only [go_sem]
        refine ⟨[], .tup [i64 i, bl (decide (x ∈ l))], rfl, ⟨rfl, ?_, trivial⟩, ⟨i, rfl⟩, rfl⟩
        refine congrArg (fun b => Value.bool b) ?_
        obtain rfl : i = j := by omega
        first | (rw [found_yes h3 h4 hs hb]; simp [*]; done) | exact (found_no (by omega) h3).symm)
    | refine AWP.fin (by assumption) ?_)


end Go.Proofs.YtajeeghgiilhiaaGreat
end
section
set_option linter.unusedVariables false
set_option linter.unusedSimpArgs false
namespace Go.Proofs.YtajeeghgiilhiaaGreat
open Go Go.Abs Go.RowKit Go.Bk
theorem cl_sl {l : List Bs} : ∀ x ∈ (AV.agg [.sl none 1 (l.map str)]).leaves, x.clean1 = some x := by
  intro x hx
  simp only [AV.leaves, List.mem_cons, List.not_mem_nil, or_false] at hx
  subst hx; rfl
theorem cl_strs (l : List Bs) : ∀ e ∈ l.map str, ∀ x ∈ e.leaves, x.clean1 = some x := by
  intro e he x hx
  obtain ⟨o, _, rfl⟩ := List.mem_map.1 he
  simp only [AV.leaves, List.mem_cons, List.not_mem_nil, or_false] at hx
  subst hx; rfl
theorem fresh_strs (l : List Bs) : Fresh [l.length] (.sl (some 0) 1 (l.map str)) := by
  refine ⟨by simp, ?_⟩
  intro e he y hy
  obtain ⟨o, _, rfl⟩ := List.mem_map.1 he
  simp only [AV.leaves, List.mem_cons, List.not_mem_nil, or_false] at hy
  exact ⟨_, hy⟩
theorem strs_take {l : List Bs} {m : Nat} : (l.map str ++ spare 1 m).take l.length = l.map str := List.take_left' (by simp)
theorem strs_snoc {l : List Bs} {x : Bs} : l.map str ++ [str x] = (l ++ [x]).map str := by simp
theorem right_b1 {b : Bk} (h : headB b = false) : rightBk b = false := by simp [rightBk, h]
theorem right_b2 {b : Bk} (h : twiceB (srt b.ids) = true) : rightBk b = false := by
  rw [twiceB_srt] at h; simp [rightBk]; intro _ h2; simp [h2] at h
theorem right_b3 {b : Bk} {i : Nat} {f : Dn} (hb : b.fills[i]? = some f) (h : fillB b f = false) : rightBk b = false := by
  have : b.fills.all (fillB b) = false := by
    rw [List.all_eq_false]; exact ⟨f, List.mem_of_getElem? hb, by simp [h]⟩
  unfold rightBk; rw [this]; simp
theorem right_b4 {b : Bk} (h1 : headB b = true) (h2 : twiceB (srt b.ids) = false) (h3 : b.fills.all (fillB b) = true) : (!(!decide (b.fills.map (·.id)).Nodup)) = rightBk b := by
  rw [twiceB_srt] at h2
  unfold rightBk; rw [h1, h3]
  have : decide b.ids.Nodup = true := by simpa using h2
  rw [this]; simp
theorem fill_yes {b : Bk} {f : Dn} (h1 : smallB f.qty = true) (h2 : smallB f.price = true) (h3 : ¬ f.time < 0) (h4 : ¬ b.clock < f.time) (h5 : f.id ∈ sortL b.ids) : fillB b f = true := by
  rw [mem_srt] at h5
  simp [fillB, h1, h2, h5]; omega
theorem fill_no {b : Bk} {f : Dn} (h5 : ¬ f.id ∈ sortL b.ids) : fillB b f = false := by
  rw [mem_srt] at h5
  simp [fillB, h5]
theorem all_take {α : Type} {l : List α} {p : α → Bool} {i : Nat} {x : α} (hb : l[i]? = some x) (h : (l.take i).all p = true) (hx : p x = true) : (l.take (i + 1)).all p = true := by
  rw [take_next hb, List.all_append, h]; simp [hx]

set_option maxHeartbeats 8000000 in
set_option maxRecDepth 8000 in
theorem bright_c (bk : Bk) (ho : bk.orders.length ≤ 9223372036854775807) (hf : bk.fills.length ≤ 9223372036854775807) (hi : bk.ids.length ≤ 9223372036854775807) : ACalls E 39 [bkV bk] (fun r t => r = bl (rightBk bk) ∧ t = []) := by -- checkroll/book.Right
  refine ACalls.of_awp (n := 100) (rs := [.tmp 2]) Tryz.func39 rfl Tryz.ntmps39 rfl ?_
  repeat' (first
    | refine AWP.seqk fun K hK => ?_
    | (
        refine AWP.here 16 94 2 rfl ?_
        rw [strs_take, strs_snoc]
        refine AWP.renum [0, 1, 4] (by decide) rfl rfl ?_
        simp only [go_sem]
        refine AWP.region ?_; simp only [go_sem])
    | (
        refine AWP.here 17 95 2 rfl ?_
        refine AWP.regionL ?_
        refine AWPL.at 2 1 rfl ?_
        simp only [go_sem]
        refine AWPL.sortS (by kernel_rfl) rfl (fun blk off cap ss w h1 h2 h3 => Go.Proofs.AnyM.slices_Sort_string Go.Proofs.Tryz.sort50 blk off cap ss w h1 h2 h3) (fun p cap w => Go.Proofs.AnyM.slices_Sort_string_none Go.Proofs.Tryz.sort50 p cap w) (id := 2) (l := nl) (sp := spare 1 m) rfl rfl (by omega) ?_
        simp only [go_sem]
        refine AWPL.of ?_
        simp only [go_sem])
    | (refine AWP.here 3 45 5 rfl ?_; refine AWP.regionL ?_; refine AWPL.at 5 2 rfl ?_; simp only [go_sem])
    | (refine AWP.region ?_; simp only [go_sem])
    | (refine hK _ ?_; clear hK K)
    | refine AWP.block ?_
    | refine AWP.cond rfl (fun c => ?_) (fun c => ?_) <;> first | exact Bool.noConfusion c | (try simp only [dD] at c)
    | refine AWP.skip ?_
    | (refine AWP.exit ?_; simp only [go_sem])
    | (refine ACall.one (oright_c _ (by first | assumption | omega | (simp only [List.length_take]; omega))) (by kernel_rfl) rfl ?_; simp only [go_sem])
    | (refine ACall.snap (sorted_c bk.ids (by omega)) (by kernel_rfl) rfl (.cons (.fn (.cons (.ptr (e := .agg [.sl none 1 (bk.ids.map str)]) rfl cl_sl) .nil)) .nil) ?_; rintro r t ⟨rfl, rfl⟩; refine ⟨fresh_strs _, ?_⟩; simp only [go_sem])
    | (refine ACall.one (twice_c _ (by rw [sortL_len]; omega)) (by kernel_rfl) rfl ?_; simp only [go_sem])
    | (refine ACall.snapOne (twice_c (sortL nl) (by rw [sortL_len]; omega)) (by kernel_rfl) rfl (.cons (.one (.mu' rfl (by simp [sortL_len]) (cl_strs _))) .nil) ?_; simp only [go_sem])
    | (refine ACall.one (bamount_c _) (by kernel_rfl) rfl ?_; simp only [go_sem])
    | (refine ACall.of (bsearch_c (sortL bk.ids) _ (srt_sorted _) (by rw [sortL_len]; omega)) (by kernel_rfl) rfl ?_; rintro r t ⟨⟨n, rfl⟩, rfl⟩; simp only [go_sem])
    | (refine AWPL.call (rs := [.tmp 2]) Tryz.func99 rfl Tryz.ntmps99 rfl (by kernel_rfl) rfl rfl ?_; simp only [go_sem])
    | (refine AGuard.splitN (fun h => ?_) (fun h => ?_) <;> simp only [h, go_sem] <;> (try simp only [dD] at h))
    | (refine AGuard.split (fun h => ?_) (fun h => ?_) <;> simp only [h, go_sem] <;> (try simp only [dD] at h))
    | (refine AGet.haveM (by assumption) ?_; (try simp only [go_sem]))
    | (refine AGet.have' (by assumption) ?_; (try simp only [go_sem]))
    | ((first | refine AGet.nth ?_ (fun b hb => ?_) | refine AGet.nth1 ?_ (fun b hb => ?_) | with_reducible refine And.intro ?_ ?_); (focus (first | omega | assumption | exact List.length_pos_iff.2 (by assumption) | (simp only [List.length_append, List.length_cons, List.length_nil, List.length_map, List.length_take, List.length_drop] at *; omega) | (rw [wrap64_id (by omega) (by omega)]; omega) | (simp; done) | (simp [spare_len]; done) | (exact ⟨by omega, by omega⟩))); (try simp only [hb, go_sem]))
    | (
        refine AWP.here 8 55 1 rfl ?_
        refine AWP.nilMu 4 1 rfl ?_
        simp only [go_sem]
        refine AWP.loopM (ι := Nat × List Bs × Nat) [2, 6, 7, 8, 55, 56, 57, 58, 59, 60, 61, 62, 63, 64, 65, 66, 67, 68, 69, 70, 71, 72, 73, 74, 75, 76, 77, 78, 79, 80, 81, 82, 83, 84, 85, 86, 87, 88, 89, 90, 91, 92, 93, 94] (fun ⟨i, nl, m⟩ => [(54, i64 i), (4, .mu 2 1 0 nl.length (nl.length + m))]) (fun ⟨i, nl, m⟩ => [some [.agg [odsV bk.orders, dnsV bk.fills, .sl none 1 (bk.ids.map str), i64 bk.clock, i64 bk.bad]], some [.agg [.sl none 1 (bk.ids.map str)]], some (nl.map str ++ spare 1 m)]) (fun ⟨i, nl, m⟩ => [(sortL bk.ids).length]) (fun ⟨i, nl, m⟩ => i ≤ bk.fills.length ∧ (bk.fills.take i).all (fillB bk) = true ∧ nl = (bk.fills.take i).map (·.id)) (fun ⟨i, nl, m⟩ => bk.fills.length - i) ((0, [], 0)) ?_ ?_ ?_
        · (try simp only [go_sem]); (repeat' (first | refine And.intro ?_ ?_ | exact .inl rfl | exact .inr rfl | exact .inr ⟨rfl, rfl⟩ | trivial | exact .inr (oblA rfl) | exact .inr ⟨rfl, oblA rfl⟩ | exact .inr bel_strs | exact .inr ⟨rfl, bel_strs⟩ | exact .inr ⟨by simp, bel_strs⟩ | (simp; done) | exact .inr ⟨rfl, by simp⟩ | exact .inr ⟨by simp, by simp⟩))
        · exact ⟨Nat.zero_le _, by simp, by simp⟩
        rintro ⟨i, nl, m⟩ ⟨h1, h2, h3⟩
        simp only [go_sem]
        have hnl : nl.length = i := by rw [h3, List.length_map, List.length_take]; omega)
    | (
        refine ⟨(i + 1, nl ++ [b.id], mm), ?_, ?_, ?_⟩
        · (try simp only [go_sem]); (try rw [wrap64_id (by omega) (by omega)]); (repeat' (first | refine And.intro ?_ ?_ | exact .inl rfl | exact .inr rfl | exact .inr ⟨rfl, rfl⟩ | trivial | exact .inr (oblA rfl) | exact .inr ⟨rfl, oblA rfl⟩ | exact .inr bel_strs | exact .inr ⟨rfl, bel_strs⟩ | exact .inr ⟨by simp, bel_strs⟩ | (simp; done) | exact .inr ⟨rfl, by simp⟩ | exact .inr ⟨by simp, by simp⟩))
        · exact ⟨by show i + 1 ≤ bk.fills.length; omega, all_take (by assumption) h2 (fill_yes (by assumption) (by assumption) (by omega) (by omega) (by assumption)), by rw [h3, take_next (by assumption)]; simp⟩
        · show bk.fills.length - (i + 1) < bk.fills.length - i; omega)
    | (
        refine AWP.ret ?_
        refine AEnd.is ?_; simp only [go_sem, out_v, out_s, out_n, v_int, v_bool, v_str] <;> (first
        | (rw [right_b1 (by first | (simp [headB, *]; done) | (simp [headB]; intros; omega))]; done)
        | (rw [right_b2 (by assumption)]; done)
        | (rw [right_b3 hb (by first | (simp [fillB, *]; done) | (simp [fillB]; intros; omega))]; done)
        | (rw [right_b3 hb (fill_no (by assumption))]; done)
        | (rw [twiceB_srt, h3, List.take_of_length_le (by omega)]; rw [List.take_of_length_le (by omega)] at h2; exact right_b4 (by simp [headB, *]; omega) (by assumption) h2)
        | skip))
    | (refine AWP.ret ?_; refine AInPost.ret rfl ?_; simp only [go_sem])
    | (refine AWPL.of ?_; simp only [go_sem])
    | (refine fun (mm : Nat) => ?_; simp only [go_sem])
    | refine AWP.fin (by assumption) ?_)


end Go.Proofs.YtajeeghgiilhiaaGreat
end
section
set_option linter.unusedVariables false
set_option linter.unusedSimpArgs false
namespace Go.Proofs.YtajeeghgiilhiaaGreat
open Go Go.Abs Go.RowKit Go.Bk
abbrev wV (w : Ws) : AV := .agg [i64 w.1, i64 w.2]
theorem nof1 {f : Dn} {acc sym : Bs} (h : f.live = false) : ¬ (f.live = true ∧ f.acc = acc ∧ f.sym = sym) := by simp [h]
theorem nof2 {f : Dn} {acc sym : Bs} (h : ¬ f.acc = acc) : ¬ (f.live = true ∧ f.acc = acc ∧ f.sym = sym) := fun h2 => h h2.2.1
theorem nof3 {f : Dn} {acc sym : Bs} (h : ¬ f.sym = sym) : ¬ (f.live = true ∧ f.acc = acc ∧ f.sym = sym) := fun h2 => h h2.2.2
theorem noo1 {o : Od} {acc sym : Bs} (h : ¬ o.acc = acc) : ¬ (o.acc = acc ∧ o.sym = sym) := fun h2 => h h2.1
theorem noo2 {o : Od} {acc sym : Bs} (h : ¬ o.sym = sym) : ¬ (o.acc = acc ∧ o.sym = sym) := fun h2 => h h2.2
theorem od_same {o : Od} {acc sym : Bs} (h1 : o.acc = acc) (h2 : o.sym = sym) : (⟨o.id, acc, sym, o.buy, o.qty, o.price, o.done, o.opn⟩ : Od) = o := by subst h1; subst h2; rfl
theorem oleft_t {o p : Od} (h : p = o) : ACalls E 111 [odV p] (fun r t => r = i64 (leftF o) ∧ t = []) := by subst h; exact oleft_c p
theorem of_no {b : Bk} {acc sym : Bs} (h : rightBk b = false) : ofF b acc sym = (0, 0) := by unfold ofF; rw [h]; rfl

set_option maxHeartbeats 4000000 in
set_option maxRecDepth 8000 in
theorem plus_c (p q : Ws) : ACalls E 70 [wV p, wV q] (fun r t => r = wV (plusW p q) ∧ t = []) := by -- checkroll/expose.Plus
  refine ACalls.of_awp (n := 16) (rs := [.cell 4 45]) Tryz.func70 rfl Tryz.ntmps70 rfl ?_
  repeat' (first
    | refine AWP.seqk fun K hK => ?_
    | (refine AWP.region ?_; simp only [go_sem])
    | (refine hK _ ?_; clear hK K)
    | refine AWP.block ?_
    | refine AWP.cond rfl (fun c => ?_) (fun c => ?_) <;> first | exact Bool.noConfusion c | (try simp only [dD] at c)
    | refine AWP.skip ?_
    | (refine AWP.exit ?_; simp only [go_sem])
    | (refine AGet.haveM (by assumption) ?_; (try simp only [go_sem]))
    | (refine AGet.have' (by assumption) ?_; (try simp only [go_sem]))
    | ((first | refine AGet.nth ?_ (fun b hb => ?_) | refine AGet.nth1 ?_ (fun b hb => ?_) | with_reducible refine And.intro ?_ ?_); (focus (first | omega | assumption | exact List.length_pos_iff.2 (by assumption) | (simp only [List.length_append, List.length_cons, List.length_nil, List.length_map, List.length_take, List.length_drop] at *; omega) | (rw [wrap64_id (by omega) (by omega)]; omega) | (simp; done) | (simp [spare_len]; done) | (exact ⟨by omega, by omega⟩))); (try simp only [hb, go_sem]))
    | (
        refine AWP.ret ?_
        refine AEnd.is ?_; simp only [go_sem, out_v, out_s, out_n, v_int, v_bool, v_str] <;> (simp [plusW]; done))
    | refine AWP.fin (by assumption) ?_)

set_option maxHeartbeats 4000000 in
set_option maxRecDepth 8000 in
theorem side_c (y : Bool) (q : Int) : ACalls E 109 [bl y, i64 q] (fun r t => r = wV (sideW y q) ∧ t = []) := by -- checkroll/expose.side
  refine ACalls.of_awp (n := 10) (rs := [.cell 4 45]) Tryz.func109 rfl Tryz.ntmps109 rfl ?_
  repeat' (first
    | refine AWP.seqk fun K hK => ?_
    | (refine AWP.region ?_; simp only [go_sem])
    | (refine hK _ ?_; clear hK K)
    | refine AWP.block ?_
    | refine AWP.cond rfl (fun c => ?_) (fun c => ?_) <;> first | exact Bool.noConfusion c | (try simp only [dD] at c)
    | refine AWP.skip ?_
    | (refine AWP.exit ?_; simp only [go_sem])
    | (refine AGet.haveM (by assumption) ?_; (try simp only [go_sem]))
    | (refine AGet.have' (by assumption) ?_; (try simp only [go_sem]))
    | ((first | refine AGet.nth ?_ (fun b hb => ?_) | refine AGet.nth1 ?_ (fun b hb => ?_) | with_reducible refine And.intro ?_ ?_); (focus (first | omega | assumption | exact List.length_pos_iff.2 (by assumption) | (simp only [List.length_append, List.length_cons, List.length_nil, List.length_map, List.length_take, List.length_drop] at *; omega) | (rw [wrap64_id (by omega) (by omega)]; omega) | (simp; done) | (simp [spare_len]; done) | (exact ⟨by omega, by omega⟩))); (try simp only [hb, go_sem]))
    | (
        refine AWP.ret ?_
        refine AEnd.is ?_; simp only [go_sem, out_v, out_s, out_n, v_int, v_bool, v_str] <;> (simp [sideW, *]; done))
    | refine AWP.fin (by assumption) ?_)

set_option maxHeartbeats 4000000 in
set_option maxRecDepth 8000 in
theorem final_c (bk : Bk) (f : Dn) : ACalls E 110 [bkV bk, dnV f] (fun r t => r = bl (finalF bk f) ∧ t = []) := by -- checkroll/expose.final
  refine ACalls.of_awp (n := 19) (rs := [.tmp 4]) Tryz.func110 rfl Tryz.ntmps110 rfl ?_
  repeat' (first
    | refine AWP.seqk fun K hK => ?_
    | (refine AWP.region ?_; simp only [go_sem])
    | (refine hK _ ?_; clear hK K)
    | refine AWP.block ?_
    | refine AWP.cond rfl (fun c => ?_) (fun c => ?_) <;> first | exact Bool.noConfusion c | (try simp only [dD] at c)
    | refine AWP.skip ?_
    | (refine AWP.exit ?_; simp only [go_sem])
    | (refine AGuard.splitN (fun h => ?_) (fun h => ?_) <;> simp only [h, go_sem] <;> (try simp only [dD] at h))
    | (refine AGuard.split (fun h => ?_) (fun h => ?_) <;> simp only [h, go_sem] <;> (try simp only [dD] at h))
    | (refine AGet.haveM (by assumption) ?_; (try simp only [go_sem]))
    | (refine AGet.have' (by assumption) ?_; (try simp only [go_sem]))
    | ((first | refine AGet.nth ?_ (fun b hb => ?_) | refine AGet.nth1 ?_ (fun b hb => ?_) | with_reducible refine And.intro ?_ ?_); (focus (first | omega | assumption | exact List.length_pos_iff.2 (by assumption) | (simp only [List.length_append, List.length_cons, List.length_nil, List.length_map, List.length_take, List.length_drop] at *; omega) | (rw [wrap64_id (by omega) (by omega)]; omega) | (simp; done) | (simp [spare_len]; done) | (exact ⟨by omega, by omega⟩))); (try simp only [hb, go_sem]))
    | (
        refine AWP.ret ?_
        refine AEnd.is ?_; simp only [go_sem, out_v, out_s, out_n, v_int, v_bool, v_str] <;> (first | (unfold finalF; rw [if_pos (by omega)]; done) | (unfold finalF; rw [if_neg (by omega)]; done) | (unfold finalF; rw [if_pos (by omega)]; simp; done) | (unfold finalF; rw [if_neg (by omega)]; simp; done) | skip))
    | refine AWP.fin (by assumption) ?_)

theorem final_t {bk : Bk} {f g : Dn} (h : g.time = f.time) : ACalls E 110 [bkV bk, dnV g] (fun r t => r = bl (finalF bk f) ∧ t = []) := by
  have e : finalF bk f = finalF bk g := by unfold finalF; rw [h]
  rw [e]; exact final_c bk g

set_option maxHeartbeats 8000000 in
set_option maxRecDepth 8000 in
theorem eof_c (bk : Bk) (acc sym : Bs) (ho : bk.orders.length ≤ 9223372036854775807) (hf : bk.fills.length ≤ 9223372036854775807) (hi : bk.ids.length ≤ 9223372036854775807) : ACalls E 42 [bkV bk, str acc, str sym] (fun r t => r = wV (ofF bk acc sym) ∧ t = []) := by -- checkroll/expose.Of
  refine ACalls.of_awp (n := 84) (rs := [.cell 6 45]) Tryz.func42 rfl Tryz.ntmps42 rfl ?_
  repeat' (first
    | refine AWP.seqk fun K hK => ?_
    | (
        refine AWP.here 6 21 4 rfl ?_
        obtain ⟨f, hb⟩ : ∃ f, bk.fills[i]? = some f := ⟨_, List.getElem?_eq_getElem (by omega)⟩
        refine AWP.region ?_; simp only [go_sem])
    | (
        refine AWP.here 14 63 4 rfl ?_
        obtain ⟨o, hc⟩ : ∃ o, bk.orders[j]? = some o := ⟨_, List.getElem?_eq_getElem (by omega)⟩
        refine AWP.region ?_; simp only [go_sem])
    | (refine AWP.region ?_; simp only [go_sem])
    | (refine AWP.here 8 38 8 rfl ?_; refine AWP.regionO [0, 1, 2, 3, 4, 5, 6, 7] [] (by kernel_rfl) (by kernel_rfl) rfl ?_; simp only [go_sem])
    | (refine AWP.here 10 48 10 rfl ?_; refine AWP.regionO [0, 1, 2, 3, 4, 5, 6, 7, 8, 9] [] (by kernel_rfl) (by kernel_rfl) rfl ?_; simp only [go_sem])
    | (refine AWP.here 16 75 8 rfl ?_; refine AWP.regionO [0, 1, 2, 3, 4, 5, 6, 7] [] (by kernel_rfl) (by kernel_rfl) rfl ?_; simp only [go_sem])
    | (refine hK _ ?_; clear hK K)
    | refine AWP.block ?_
    | refine AWP.cond rfl (fun c => ?_) (fun c => ?_) <;> first | exact Bool.noConfusion c | (try simp only [dD] at c)
    | refine AWP.skip ?_
    | (refine AWP.exit ?_; simp only [go_sem])
    | (refine ACall.one (bright_c bk ho hf hi) (by kernel_rfl) rfl ?_; simp only [go_sem])
    | (refine ACall.one (side_c f.buy f.qty) (by kernel_rfl) rfl ?_; simp only [go_sem])
    | (refine ACall.one (side_c (!f.buy) (IntKind.i64.wrap (0 - f.qty))) (by kernel_rfl) rfl ?_; simp only [go_sem])
    | (refine ACall.one (side_c o.buy (leftF o)) (by kernel_rfl) rfl ?_; simp only [go_sem])
    | (refine ACall.one (plus_c w (sideW f.buy f.qty)) (by kernel_rfl) rfl ?_; simp only [go_sem])
    | (refine ACall.one (plus_c (plusW w (sideW f.buy f.qty)) (sideW (!f.buy) (IntKind.i64.wrap (0 - f.qty)))) (by kernel_rfl) rfl ?_; simp only [go_sem])
    | (refine ACall.one (plus_c u (sideW o.buy (leftF o))) (by kernel_rfl) rfl ?_; simp only [go_sem])
    | (refine ACall.one (final_t (bk := bk) (f := f) (g := ⟨f.id, f.ord, f.acc, f.sym, f.buy, f.qty, f.price, f.time, true⟩) rfl) (by kernel_rfl) rfl ?_; simp only [go_sem])
    | (refine ACall.one (final_t (bk := bk) (f := f) (g := ⟨f.id, f.ord, f.acc, sym, f.buy, f.qty, f.price, f.time, true⟩) rfl) (by kernel_rfl) rfl ?_; simp only [go_sem])
    | (refine ACall.one (final_t (bk := bk) (f := f) (g := ⟨f.id, f.ord, acc, f.sym, f.buy, f.qty, f.price, f.time, true⟩) rfl) (by kernel_rfl) rfl ?_; simp only [go_sem])
    | (refine ACall.one (final_t (bk := bk) (f := f) (g := ⟨f.id, f.ord, acc, sym, f.buy, f.qty, f.price, f.time, true⟩) rfl) (by kernel_rfl) rfl ?_; simp only [go_sem])
    | (refine ACall.one (oleft_c o) (by kernel_rfl) rfl ?_; simp only [go_sem])
    | (refine ACall.one (oleft_t (o := o) (p := ⟨o.id, acc, sym, o.buy, o.qty, o.price, o.done, o.opn⟩) (od_same (by assumption) (by assumption))) (by kernel_rfl) rfl ?_; simp only [go_sem])
    | (refine AGuard.splitN (fun h => ?_) (fun h => ?_) <;> simp only [h, go_sem] <;> (try simp only [dD] at h))
    | (refine AGuard.split (fun h => ?_) (fun h => ?_) <;> simp only [h, go_sem] <;> (try simp only [dD] at h))
    | (refine AGet.haveM (by assumption) ?_; (try simp only [go_sem]))
    | (refine AGet.have' (by assumption) ?_; (try simp only [go_sem]))
    | ((first | refine AGet.nth ?_ (fun b hb => ?_) | refine AGet.nth1 ?_ (fun b hb => ?_) | with_reducible refine And.intro ?_ ?_); (focus (first | omega | assumption | exact List.length_pos_iff.2 (by assumption) | (simp only [List.length_append, List.length_cons, List.length_nil, List.length_map, List.length_take, List.length_drop] at *; omega) | (rw [wrap64_id (by omega) (by omega)]; omega) | (simp; done) | (simp [spare_len]; done) | (exact ⟨by omega, by omega⟩))); (try simp only [hb, go_sem]))
    | (
        refine AWP.here 5 20 1 rfl ?_
        refine AWP.loopM (ι := Nat × Ws) [9, 20, 21, 22, 23, 24, 25, 26, 27, 28, 29, 30, 31, 32, 33, 34, 35, 36, 37, 38, 39, 40, 41, 42, 43, 44, 45, 46, 47, 48, 49, 50, 51, 52, 53, 54, 55, 56, 57] (fun ⟨i, w⟩ => [(19, i64 i)]) (fun ⟨i, w⟩ => [some [.agg [odsV bk.orders, dnsV bk.fills, .sl none 1 (bk.ids.map str), i64 bk.clock, i64 bk.bad]], some [.agg [i64 0, i64 0]], some [.agg [i64 w.1, i64 w.2]]]) (fun ⟨i, w⟩ => []) (fun ⟨i, w⟩ => i ≤ bk.fills.length ∧ w = upF bk acc sym i) (fun ⟨i, w⟩ => bk.fills.length - i) ((0, ((0, 0) : Ws))) ?_ ?_ ?_
        · (try simp only [go_sem]); (repeat' (first | refine And.intro ?_ ?_ | exact .inl rfl | exact .inr rfl | exact .inr ⟨rfl, rfl⟩ | trivial | exact .inr (oblA rfl) | exact .inr ⟨rfl, oblA rfl⟩ | exact .inr bel_strs | exact .inr ⟨rfl, bel_strs⟩ | exact .inr ⟨by simp, bel_strs⟩ | (simp; done) | exact .inr ⟨rfl, by simp⟩ | exact .inr ⟨by simp, by simp⟩)); done
        · exact ⟨Nat.zero_le _, rfl⟩
        rintro ⟨i, w⟩ ⟨h1, h2⟩
        simp only [go_sem]
        have hr : rightBk bk = true := by assumption)
    | (
        refine AWP.here 13 62 1 rfl ?_
        refine AWP.loopM (ι := Nat × Ws) [11, 62, 63, 64, 65, 66, 67, 68, 69, 70, 71, 72, 73, 74, 75, 76, 77, 78, 79, 80, 81, 82] (fun ⟨j, u⟩ => [(61, i64 j)]) (fun ⟨j, u⟩ => [some [.agg [odsV bk.orders, dnsV bk.fills, .sl none 1 (bk.ids.map str), i64 bk.clock, i64 bk.bad]], some [.agg [i64 0, i64 0]], some [.agg [i64 u.1, i64 u.2]]]) (fun ⟨j, u⟩ => []) (fun ⟨j, u⟩ => j ≤ bk.orders.length ∧ u = upO bk acc sym j) (fun ⟨j, u⟩ => bk.orders.length - j) ((0, w)) ?_ ?_ ?_
        · (try simp only [go_sem]); (repeat' (first | refine And.intro ?_ ?_ | exact .inl rfl | exact .inr rfl | exact .inr ⟨rfl, rfl⟩ | trivial | exact .inr (oblA rfl) | exact .inr ⟨rfl, oblA rfl⟩ | exact .inr bel_strs | exact .inr ⟨rfl, bel_strs⟩ | exact .inr ⟨by simp, bel_strs⟩ | (simp; done) | exact .inr ⟨rfl, by simp⟩ | exact .inr ⟨by simp, by simp⟩)); done
        · exact ⟨Nat.zero_le _, upO_zero (by omega) h2⟩
        rintro ⟨j, u⟩ ⟨g1, g2⟩
        simp only [go_sem])
    | (
        first
        | (refine ⟨(i + 1, w), ?_, ⟨by show i + 1 ≤ bk.fills.length; omega, up_no hb h2 (by first | exact nof1 (by assumption) | exact nof2 (by assumption) | exact nof3 (by assumption))⟩, by show bk.fills.length - (i + 1) < bk.fills.length - i; omega⟩
           (try simp only [go_sem]); (try rw [wrap64_id (by omega) (by omega)]); (repeat' (first | refine And.intro ?_ ?_ | exact .inl rfl | exact .inr rfl | exact .inr ⟨rfl, rfl⟩ | trivial | exact .inr (oblA rfl) | exact .inr ⟨rfl, oblA rfl⟩ | exact .inr bel_strs | exact .inr ⟨rfl, bel_strs⟩ | exact .inr ⟨by simp, bel_strs⟩ | (simp; done) | exact .inr ⟨rfl, by simp⟩ | exact .inr ⟨by simp, by simp⟩)); done)
        | (refine ⟨(i + 1, plusW w (sideW f.buy f.qty)), ?_, ⟨by show i + 1 ≤ bk.fills.length; omega, up_yes hr hb h2 ⟨by assumption, by assumption, by assumption⟩ (by assumption)⟩, by show bk.fills.length - (i + 1) < bk.fills.length - i; omega⟩
           (try simp only [go_sem]); (try rw [wrap64_id (by omega) (by omega)]); (repeat' (first | refine And.intro ?_ ?_ | exact .inl rfl | exact .inr rfl | exact .inr ⟨rfl, rfl⟩ | trivial | exact .inr (oblA rfl) | exact .inr ⟨rfl, oblA rfl⟩ | exact .inr bel_strs | exact .inr ⟨rfl, bel_strs⟩ | exact .inr ⟨by simp, bel_strs⟩ | (simp; done) | exact .inr ⟨rfl, by simp⟩ | exact .inr ⟨by simp, by simp⟩)); done)
        | (refine ⟨(i + 1, plusW (plusW w (sideW f.buy f.qty)) (sideW (!f.buy) (IntKind.i64.wrap (0 - f.qty)))), ?_, ⟨by show i + 1 ≤ bk.fills.length; omega, up_fin hr hb h2 ⟨by assumption, by assumption, by assumption⟩ (by assumption)⟩, by show bk.fills.length - (i + 1) < bk.fills.length - i; omega⟩
           (try simp only [go_sem]); (try rw [wrap64_id (by omega) (by omega)]); (repeat' (first | refine And.intro ?_ ?_ | exact .inl rfl | exact .inr rfl | exact .inr ⟨rfl, rfl⟩ | trivial | exact .inr (oblA rfl) | exact .inr ⟨rfl, oblA rfl⟩ | exact .inr bel_strs | exact .inr ⟨rfl, bel_strs⟩ | exact .inr ⟨by simp, bel_strs⟩ | (simp; done) | exact .inr ⟨rfl, by simp⟩ | exact .inr ⟨by simp, by simp⟩)); done))
    | (
        first
        | (refine ⟨(j + 1, u), ?_, ⟨by show j + 1 ≤ bk.orders.length; omega, upO_no hc g2 (by first | exact noo1 (by assumption) | exact noo2 (by assumption))⟩, by show bk.orders.length - (j + 1) < bk.orders.length - j; omega⟩
           (try simp only [go_sem]); (try rw [wrap64_id (by omega) (by omega)]); (repeat' (first | refine And.intro ?_ ?_ | exact .inl rfl | exact .inr rfl | exact .inr ⟨rfl, rfl⟩ | trivial | exact .inr (oblA rfl) | exact .inr ⟨rfl, oblA rfl⟩ | exact .inr bel_strs | exact .inr ⟨rfl, bel_strs⟩ | exact .inr ⟨by simp, bel_strs⟩ | (simp; done) | exact .inr ⟨rfl, by simp⟩ | exact .inr ⟨by simp, by simp⟩)); done)
        | (refine ⟨(j + 1, plusW u (sideW o.buy (leftF o))), ?_, ⟨by show j + 1 ≤ bk.orders.length; omega, upO_yes hr hc g2 ⟨by assumption, by assumption⟩⟩, by show bk.orders.length - (j + 1) < bk.orders.length - j; omega⟩
           (try simp only [go_sem]); (try rw [wrap64_id (by omega) (by omega)]); (repeat' (first | refine And.intro ?_ ?_ | exact .inl rfl | exact .inr rfl | exact .inr ⟨rfl, rfl⟩ | trivial | exact .inr (oblA rfl) | exact .inr ⟨rfl, oblA rfl⟩ | exact .inr bel_strs | exact .inr ⟨rfl, bel_strs⟩ | exact .inr ⟨by simp, bel_strs⟩ | (simp; done) | exact .inr ⟨rfl, by simp⟩ | exact .inr ⟨by simp, by simp⟩)); done))
    | (
        refine AWP.ret ?_
        refine AEnd.is ?_; simp only [go_sem, out_v, out_s, out_n, v_int, v_bool, v_str] <;> (first
        | (rw [← upO_end hr (by omega) g2]; done)
        | (rw [← upO_end hr (by omega) g2]; simp; done)
        | (rw [of_no (by assumption)]; done)
        | (rw [of_no (by assumption)]; simp; done)
        | skip))
    | refine AWP.fin (by assumption) ?_)


end Go.Proofs.YtajeeghgiilhiaaGreat
end
section
set_option linter.unusedVariables false
set_option linter.unusedSimpArgs false
namespace Go.Proofs.YtajeeghgiilhiaaGreat
open Go Go.Abs Go.RowKit Go.Bk
abbrev poV (p : Po) : AV := .agg [str p.acc, str p.sym, i64 p.qty, i64 p.value, bl p.over]
theorem sgn_buy {f : Dn} (h : f.buy = true) : sgn f = f.qty := by unfold sgn; rw [h]; rfl
theorem sgn_sell {f : Dn} (h : f.buy = false) : sgn f = -f.qty := by unfold sgn; rw [h]; rfl

set_option maxHeartbeats 8000000 in
set_option maxRecDepth 8000 in
theorem lof_c (bk : Bk) (acc sym : Bs) (ho : bk.orders.length ≤ 9223372036854775807) (hf : bk.fills.length ≤ 9223372036854775807) (hi : bk.ids.length ≤ 9223372036854775807) : ACalls E 72 [bkV bk, str acc, str sym] (fun r t => r = poV (posF bk acc sym) ∧ t = []) := by -- checkroll/ledger.Of
  refine ACalls.of_awp (n := 98) (rs := [.cell 6 49]) Tryz.func72 rfl Tryz.ntmps72 rfl ?_
  repeat' (first
    | refine AWP.seqk fun K hK => ?_
    | (
        refine AWP.here 7 31 4 rfl ?_
        obtain ⟨f, hb⟩ : ∃ f, bk.fills[i]? = some f := ⟨_, List.getElem?_eq_getElem (by omega)⟩
        have hfa := right_amounts hr f (List.mem_of_getElem? hb)
        have hw : IntKind.i64.wrap (0 - f.qty) = -f.qty := by rw [wrap64_id (by omega) (by omega)]; omega
        refine AWP.region ?_; simp only [go_sem])
    | (
        refine AWP.here 11 53 3 rfl ?_
        refine AWP.region ?_; simp only [go_sem, hw])
    | (refine AWP.region ?_; simp only [go_sem])
    | (refine hK _ ?_; clear hK K)
    | refine AWP.block ?_
    | refine AWP.cond rfl (fun c => ?_) (fun c => ?_) <;> first | exact Bool.noConfusion c | (try simp only [dD] at c)
    | refine AWP.skip ?_
    | (refine AWP.exit ?_; simp only [go_sem])
    | (refine ACall.one (bright_c bk ho hf hi) (by kernel_rfl) rfl ?_; simp only [go_sem])
    | (refine ACall.one (nmul_c _ _) (by kernel_rfl) rfl ?_; simp only [go_sem])
    | (refine ACall.one (nsum_c qs (by omega)) (by kernel_rfl) rfl ?_; simp only [go_sem])
    | (refine ACall.one (nsum_c vs (by omega)) (by kernel_rfl) rfl ?_; simp only [go_sem])
    | (refine AGuard.splitN (fun h => ?_) (fun h => ?_) <;> simp only [h, go_sem] <;> (try simp only [dD] at h))
    | (refine AGuard.split (fun h => ?_) (fun h => ?_) <;> simp only [h, go_sem] <;> (try simp only [dD] at h))
    | (refine AGet.haveM (by assumption) ?_; (try simp only [go_sem]))
    | (refine AGet.have' (by assumption) ?_; (try simp only [go_sem]))
    | ((first | refine AGet.nth ?_ (fun b hb => ?_) | refine AGet.nth1 ?_ (fun b hb => ?_) | with_reducible refine And.intro ?_ ?_); (focus (first | omega | assumption | exact List.length_pos_iff.2 (by assumption) | (simp only [List.length_append, List.length_cons, List.length_nil, List.length_map, List.length_take, List.length_drop] at *; omega) | (rw [wrap64_id (by omega) (by omega)]; omega) | (simp; done) | (simp [spare_len]; done) | (exact ⟨by omega, by omega⟩))); (try simp only [hb, go_sem]))
    | (
        refine AWP.here 6 30 1 rfl ?_
        refine AWP.nilTok 8 1 rfl ?_
        refine AWP.nilTok 9 1 rfl ?_
        simp only [go_sem]
        refine AWP.loopM (ι := Nat × List Int × List Int) [11, 12, 13, 14, 30, 31, 32, 33, 34, 35, 36, 37, 38, 39, 40, 41, 42, 43, 44, 45, 46, 47, 48, 49, 50, 51, 52, 53, 54, 55, 56, 57, 58, 59, 60, 61, 62, 63, 64, 65, 66, 67, 68, 69, 70, 71, 72, 73, 74] (fun ⟨i, qs, vs⟩ => [(29, i64 i), (8, .sl (some 0) 1 (qs.map i64)), (9, .sl (some 1) 1 (vs.map i64))]) (fun ⟨i, qs, vs⟩ => [some [.agg [odsV bk.orders, dnsV bk.fills, .sl none 1 (bk.ids.map str), i64 bk.clock, i64 bk.bad]], some [.agg [str [], str [], i64 0, i64 0, bl false]], some [.agg [str acc, str sym, i64 0, i64 0, bl false]]]) (fun ⟨i, qs, vs⟩ => [qs.length, vs.length]) (fun ⟨i, qs, vs⟩ => Gath bk acc sym i qs vs) (fun ⟨i, qs, vs⟩ => bk.fills.length - i) ((0, [], [])) ?_ ?_ ?_
        · (try simp only [go_sem]); (repeat' (first | refine And.intro ?_ ?_ | exact .inl rfl | exact .inr rfl | exact .inr ⟨rfl, rfl⟩ | trivial | exact .inr (oblA rfl) | exact .inr ⟨rfl, oblA rfl⟩ | exact .inr bel_strs | exact .inr ⟨rfl, bel_strs⟩ | exact .inr ⟨by simp, bel_strs⟩ | (simp; done) | exact .inr ⟨rfl, by simp⟩ | exact .inr ⟨by simp, by simp⟩)); done
        · exact Gath.zero
        rintro ⟨i, qs, vs⟩ hg
        simp only [go_sem]
        have hr : rightBk bk = true := by assumption
        have hgl := hg.len hr)
    | (
        first
        | (refine ⟨(i + 1, qs, vs), ?_, hg.no hb (by first | exact nof1 (by assumption) | exact nof2 (by assumption) | exact nof3 (by assumption)), by show bk.fills.length - (i + 1) < bk.fills.length - i; omega⟩
           (try simp only [go_sem]); (try rw [wrap64_id (by omega) (by omega)]); (repeat' (first | refine And.intro ?_ ?_ | exact .inl rfl | exact .inr rfl | exact .inr ⟨rfl, rfl⟩ | trivial | exact .inr (oblA rfl) | exact .inr ⟨rfl, oblA rfl⟩ | exact .inr bel_strs | exact .inr ⟨rfl, bel_strs⟩ | exact .inr ⟨by simp, bel_strs⟩ | (simp; done) | exact .inr ⟨rfl, by simp⟩ | exact .inr ⟨by simp, by simp⟩)); done)
        | (refine ⟨(i + 1, qs ++ [f.qty], vs ++ [(mulF (f.qty) f.price).1]), ?_, hg.yes hb ⟨by assumption, by assumption, by assumption⟩ (sgn_buy (by assumption)) (by assumption), by show bk.fills.length - (i + 1) < bk.fills.length - i; omega⟩
           (try simp only [go_sem]); (try rw [wrap64_id (by omega) (by omega)]); (repeat' (first | refine And.intro ?_ ?_ | exact .inl rfl | exact .inr rfl | exact .inr ⟨rfl, rfl⟩ | trivial | exact .inr (oblA rfl) | exact .inr ⟨rfl, oblA rfl⟩ | exact .inr bel_strs | exact .inr ⟨rfl, bel_strs⟩ | exact .inr ⟨by simp, bel_strs⟩ | (simp; done) | exact .inr ⟨rfl, by simp⟩ | exact .inr ⟨by simp, by simp⟩)); done)
        | (refine ⟨(i + 1, qs ++ [-f.qty], vs ++ [(mulF (-f.qty) f.price).1]), ?_, hg.yes hb ⟨by assumption, by assumption, by assumption⟩ (sgn_sell (by assumption)) (by assumption), by show bk.fills.length - (i + 1) < bk.fills.length - i; omega⟩
           (try simp only [go_sem]); (try rw [wrap64_id (by omega) (by omega)]); (repeat' (first | refine And.intro ?_ ?_ | exact .inl rfl | exact .inr rfl | exact .inr ⟨rfl, rfl⟩ | trivial | exact .inr (oblA rfl) | exact .inr ⟨rfl, oblA rfl⟩ | exact .inr bel_strs | exact .inr ⟨rfl, bel_strs⟩ | exact .inr ⟨by simp, bel_strs⟩ | (simp; done) | exact .inr ⟨rfl, by simp⟩ | exact .inr ⟨by simp, by simp⟩)); done))
    | (
        refine AWP.ret ?_
        refine AEnd.is ?_; simp only [go_sem, out_v, out_s, out_n, v_int, v_bool, v_str] <;> (first
        | (rw [pos_none (by assumption)]; simp; done)
        | (rw [pos_over hr hb ⟨by assumption, by assumption, by assumption⟩ (sgn_buy (by assumption)) (by assumption)]; simp; done)
        | (rw [pos_over hr hb ⟨by assumption, by assumption, by assumption⟩ (sgn_sell (by assumption)) (by assumption)]; simp; done)
        | (rw [pos_no1 hg hr (by omega) (.inl (by assumption))]; simp; done)
        | (rw [pos_no1 hg hr (by omega) (.inr (by assumption))]; simp; done)
        | (rw [pos_yes hg hr (by omega) (by assumption) (by assumption)]; simp; done)
        | skip))
    | refine AWP.fin (by assumption) ?_)


end Go.Proofs.YtajeeghgiilhiaaGreat
end
section
set_option linter.unusedVariables false
set_option linter.unusedSimpArgs false
namespace Go.Proofs.YtajeeghgiilhiaaGreat
open Go Go.Abs Go.RowKit Go.Bk
set_option maxHeartbeats 4000000 in
set_option maxRecDepth 8000 in
theorem oclone_p (l : List Od) (hl : l.length ≤ 1000000) : ACalls E 126 [.sl none 8 (l.map odV)] (fun r t => r = .sl none 8 (l.map odV) ∧ t = []) := by -- slices.Clone[[]checkroll/api.Order,checkroll/api.Order]
  refine ACalls.of_awp (n := 8) (rs := [.tmp 2]) Tryz.func126 rfl Tryz.ntmps126 rfl ?_
  repeat' (first
    | refine AWP.seqk fun K hK => ?_
    | (refine AWP.region ?_; simp only [go_sem])
    | (refine hK _ ?_; clear hK K)
    | refine AWP.block ?_
    | refine AWP.cond rfl (fun c => ?_) (fun c => ?_) <;> first | exact Bool.noConfusion c | (try simp only [dD] at c)
    | refine AWP.skip ?_
    | (refine AWP.exit ?_; simp only [go_sem])
    | (refine AGet.haveM (by assumption) ?_; (try simp only [go_sem]))
    | (refine AGet.have' (by assumption) ?_; (try simp only [go_sem]))
    | ((first | refine AGet.nth ?_ (fun b hb => ?_) | refine AGet.nth1 ?_ (fun b hb => ?_) | with_reducible refine And.intro ?_ ?_); (focus (first | omega | assumption | exact List.length_pos_iff.2 (by assumption) | (simp only [List.length_append, List.length_cons, List.length_nil, List.length_map, List.length_take, List.length_drop] at *; omega) | (rw [wrap64_id (by omega) (by omega)]; omega) | (simp; done) | (simp [spare_len]; done) | (exact ⟨by omega, by omega⟩))); (try simp only [hb, go_sem]))
    | (
        refine AWP.ret ?_
        refine AEnd.is ?_; simp only [go_sem, out_v, out_s, out_n, v_int, v_bool, v_str] <;> (first
        | (have he : l = [] := by
             apply Classical.byContradiction; intro hne
             have := hbb (by simpa using hne)
             rw [this] at c; exact absurd c (by simp)
           simp [he]; done)
        | (simp; done)))
    | (refine fun (bb : Bool) (hbb : _ → bb = false) => ?_)
    | refine AWP.fin (by assumption) ?_)

set_option maxHeartbeats 4000000 in
set_option maxRecDepth 8000 in
theorem dclone_c (l : List Dn) (hl : l.length ≤ 1000000) : ACalls E 127 [.sl none 9 (l.map dnV)] (fun r t => r = .sl (some 0) 9 (l.map dnV) ∧ t = [l.length]) := by -- slices.Clone[[]checkroll/api.Done,checkroll/api.Done]
  refine ACalls.of_awp (n := 8) (rs := [.tmp 2]) Tryz.func127 rfl Tryz.ntmps127 rfl ?_
  repeat' (first
    | refine AWP.seqk fun K hK => ?_
    | (refine AWP.region ?_; simp only [go_sem])
    | (refine hK _ ?_; clear hK K)
    | refine AWP.block ?_
    | refine AWP.cond rfl (fun c => ?_) (fun c => ?_) <;> first | exact Bool.noConfusion c | (try simp only [dD] at c)
    | refine AWP.skip ?_
    | (refine AWP.exit ?_; simp only [go_sem])
    | (refine AGet.haveM (by assumption) ?_; (try simp only [go_sem]))
    | (refine AGet.have' (by assumption) ?_; (try simp only [go_sem]))
    | ((first | refine AGet.nth ?_ (fun b hb => ?_) | refine AGet.nth1 ?_ (fun b hb => ?_) | with_reducible refine And.intro ?_ ?_); (focus (first | omega | assumption | exact List.length_pos_iff.2 (by assumption) | (simp only [List.length_append, List.length_cons, List.length_nil, List.length_map, List.length_take, List.length_drop] at *; omega) | (rw [wrap64_id (by omega) (by omega)]; omega) | (simp; done) | (simp [spare_len]; done) | (exact ⟨by omega, by omega⟩))); (try simp only [hb, go_sem]))
    | (
        refine AWP.ret ?_
        simp only [go_sem]
        first
        | (have he : l = [] := by
             apply Classical.byContradiction; intro hne
             have := hbb (by simpa using hne)
             rw [this] at c; exact absurd c (by simp)
           exact ⟨[(false, 9)], .sl (some 0) 9 [], rfl, rfl, by rw [he]; rfl, by rw [he]; rfl⟩)
        | exact ⟨[(true, 0)], .sl (some 0) 9 _, rfl, ⟨rfl, rfl, rfl⟩, by simp, by simp [selLens]⟩)
    | (refine fun (bb : Bool) (hbb : _ → bb = false) => ?_)
    | refine AWP.fin (by assumption) ?_)

set_option maxHeartbeats 4000000 in
set_option maxRecDepth 8000 in
theorem sclone_c (l : List Bs) (hl : l.length ≤ 1000000) : ACalls E 128 [.sl none 1 (l.map str)] (fun r t => r = .sl (some 0) 1 (l.map str) ∧ t = [l.length]) := by -- slices.Clone[[]string,string]
  refine ACalls.of_awp (n := 8) (rs := [.tmp 2]) Tryz.func128 rfl Tryz.ntmps128 rfl ?_
  repeat' (first
    | refine AWP.seqk fun K hK => ?_
    | (refine AWP.region ?_; simp only [go_sem])
    | (refine hK _ ?_; clear hK K)
    | refine AWP.block ?_
    | refine AWP.cond rfl (fun c => ?_) (fun c => ?_) <;> first | exact Bool.noConfusion c | (try simp only [dD] at c)
    | refine AWP.skip ?_
    | (refine AWP.exit ?_; simp only [go_sem])
    | (refine AGet.haveM (by assumption) ?_; (try simp only [go_sem]))
    | (refine AGet.have' (by assumption) ?_; (try simp only [go_sem]))
    | ((first | refine AGet.nth ?_ (fun b hb => ?_) | refine AGet.nth1 ?_ (fun b hb => ?_) | with_reducible refine And.intro ?_ ?_); (focus (first | omega | assumption | exact List.length_pos_iff.2 (by assumption) | (simp only [List.length_append, List.length_cons, List.length_nil, List.length_map, List.length_take, List.length_drop] at *; omega) | (rw [wrap64_id (by omega) (by omega)]; omega) | (simp; done) | (simp [spare_len]; done) | (exact ⟨by omega, by omega⟩))); (try simp only [hb, go_sem]))
    | (
        refine AWP.ret ?_
        simp only [go_sem]
        first
        | (have he : l = [] := by
             apply Classical.byContradiction; intro hne
             have := hbb (by simpa using hne)
             rw [this] at c; exact absurd c (by simp)
           exact ⟨[(false, 1)], .sl (some 0) 1 [], rfl, rfl, by rw [he]; rfl, by rw [he]; rfl⟩)
        | exact ⟨[(true, 0)], .sl (some 0) 1 _, rfl, ⟨rfl, rfl, rfl⟩, by simp, by simp [selLens]⟩)
    | (refine fun (bb : Bool) (hbb : _ → bb = false) => ?_)
    | refine AWP.fin (by assumption) ?_)


end Go.Proofs.YtajeeghgiilhiaaGreat
end
section
set_option linter.unusedVariables false
set_option linter.unusedSimpArgs false
namespace Go.Proofs.YtajeeghgiilhiaaGreat
open Go Go.Abs Go.RowKit Go.Bk

end Go.Proofs.YtajeeghgiilhiaaGreat
end
section
set_option linter.unusedVariables false
set_option linter.unusedSimpArgs false
namespace Go.Proofs.YtajeeghgiilhiaaGreat
open Go Go.Abs Go.RowKit Go.Bk
end Go.Proofs.YtajeeghgiilhiaaGreat
end
section
set_option linter.unusedVariables false
set_option linter.unusedSimpArgs false
namespace Go.Proofs.YtajeeghgiilhiaaGreat
open Go Go.Abs Go.RowKit Go.Bk
set_option maxHeartbeats 4000000 in
set_option maxRecDepth 8000 in
theorem ccmpg_c (s u : Bs) : ACalls E 132 [str s, str u] (fun r t => r = i64 (cmpS s u) ∧ t = []) := by -- cmp.Compare[string]
  refine ACalls.of_awp (n := 20) (rs := [.tmp 4]) Tryz.func132 rfl Tryz.ntmps132 rfl ?_
  repeat' (first
    | refine AWP.seqk fun K hK => ?_
    | (refine AWP.region ?_; simp only [go_sem, Go.Proofs.bytesLess_eq])
    | (refine hK _ ?_; clear hK K)
    | refine AWP.block ?_
    | refine AWP.cond rfl (fun c => ?_) (fun c => ?_) <;> first | exact Bool.noConfusion c | (try simp only [dD] at c)
    | refine AWP.skip ?_
    | (refine AWP.exit ?_; simp only [go_sem, Go.Proofs.bytesLess_eq])
    | (refine ACall.one (cnan_c _) (by kernel_rfl) rfl ?_; simp only [go_sem, Go.Proofs.bytesLess_eq])
    | (refine AGet.haveM (by assumption) ?_; (try simp only [go_sem, Go.Proofs.bytesLess_eq]))
    | (refine AGet.have' (by assumption) ?_; (try simp only [go_sem, Go.Proofs.bytesLess_eq]))
    | ((first | refine AGet.nth ?_ (fun b hb => ?_) | refine AGet.nth1 ?_ (fun b hb => ?_) | with_reducible refine And.intro ?_ ?_); (focus (first | omega | assumption | exact List.length_pos_iff.2 (by assumption) | (simp only [List.length_append, List.length_cons, List.length_nil, List.length_map, List.length_take, List.length_drop] at *; omega) | (rw [wrap64_id (by omega) (by omega)]; omega) | (simp; done) | (simp [spare_len]; done) | (exact ⟨by omega, by omega⟩))); (try simp only [hb, go_sem, Go.Proofs.bytesLess_eq]))
    | (
        refine AWP.ret ?_
        refine AEnd.is ?_; simp only [go_sem, out_v, out_s, out_n, v_int, v_bool, v_str] <;> (simp only [cmpS]; (try simp only [decide_eq_true_eq, decide_eq_false_iff_not, Bool.or_eq_true, Bool.or_eq_false_iff, not_or, Bool.not_eq_true, Bool.not_eq_false] at *); first | (rw [if_pos (by assumption)]; done) | (simp_all; done) | (rcases ‹_ ∨ _› with h3 | h3 <;> simp_all; done) | skip))
    | refine AWP.fin (by assumption) ?_
    | fail)

end Go.Proofs.YtajeeghgiilhiaaGreat
end
section
/- A contract that tells a new row with its token, without it. -/
set_option linter.unusedVariables false
set_option linter.unusedSimpArgs false
namespace Go.Abs
open Go Go.RowKit
theorem inb_ret {id : Nat} {Q : Exit → St → Prop} {s : St} : AInBlock id Q .ret s = Q .ret s := rfl
theorem athen_ret {n : St → Prop} {Q : Exit → St → Prop} {s : St} : AThen n Q .ret s = Q .ret s := rfl
theorem ACalls.untok {E : Env} {f : FuncId} {args : List AV} {k n t0 : Nat} {es : List AV} (h : ACalls E f args fun r t => r = .sl (some t0) k es ∧ t = [n]) : ACalls E f args fun r t => r = .sl none k es ∧ t = [] :=
  fun w im vs h0 hg h1 h2 => (h w im vs h0 hg h1 h2).mono fun _ _ ⟨v, r, tks, im', a, b, d, e, f, g, i, j⟩ => by
    obtain ⟨rfl, _⟩ := j
    exact ⟨v, _, [], im', a, b, d, e, f, ⟨fun i T b h => by simp at h, fun i j T U b d h => by simp at h⟩, .base i.sl_base, rfl, rfl⟩
end Go.Abs
end
section
/- A row made with zeros in it. -/
set_option linter.unusedVariables false
set_option linter.unusedSimpArgs false
namespace Go.Abs
open Go Go.RowKit
end Go.Abs
end
section
/- A leaf of an element of an own row is told otherwise. -/
set_option linter.unusedVariables false
set_option linter.unusedSimpArgs false
namespace Go.Abs
open Go Go.RowKit
variable {w0 : World} {im0 : Base} {c : Ctx} {st : St} {a : Act} {w : World}
end Go.Abs
end
section
/- Parts of an own row: sliced in the midst, appended to its own beginning. -/
set_option linter.unusedVariables false
set_option linter.unusedSimpArgs false
namespace Go.Abs
open Go Go.RowKit
theorem OCells.drop {c : Ctx} {k : Nat} {es : List AV} {cs : List Value} (h : OCells c k es cs) (d : Nat) : OCells c k (es.drop d) (cs.drop (d * k)) := by
  refine ⟨fun i e he => h.1 (d + i) e (by rwa [List.getElem?_drop] at he), fun i e j x he hx => ?_⟩
  rw [List.getElem?_drop] at he
  obtain ⟨v, h1, h2⟩ := h.2 (d + i) e j x he hx
  refine ⟨v, ?_, h2⟩
  rw [List.getElem?_drop, ← h1]
  congr 1
  rw [Nat.add_mul]; omega
section
variable {P : Program} {w0 : World} {im0 : Base} {c : Ctx} {st : St} {a : Act} {w : World}
end
section
variable {E : Env} {Q : Exit → St → Prop} {st : St} {ops : Array Oper} {l : List Oper}
end
end Go.Abs
end
section
/- A region that draws its order: what each operation yields is told once, for all orders; calls by reference may stand in it. -/
set_option linter.unusedVariables false
set_option linter.unusedSimpArgs false
namespace Go.Abs
open Go Go.RowKit

/-- What one operation does to a state, whatever comes behind it. -/
def FOp (E : Env) (ops : Array Oper) (o : Oper) (s s' : St) : Prop := ∀ Q : Exit → St → Prop, Q .normal s' → AWPL E ops [o] Q s

theorem FOp.list {E : Env} {ops : Array Oper} {o : Oper} {s s' : St} (h : AList E ops [o] s fun z => z = s') : FOp E ops o s s' := fun Q hQ => by
  obtain ⟨q, hq, h1, h2⟩ := h
  refine AWPL.of ⟨q, hq, fun e => aop_mono (h1 e) fun z hz => ?_, fun e => ?_⟩
  · have hz : z = s' := hz
    subst hz; exact hQ
  · have hz : s.put o.dst (.v undef) = s' := h2 e
    show Q .normal _
    rw [hz]; exact hQ
theorem FOp.call {E : Env} {ops : Array Oper} {o : Oper} {s s' : St} (h : ∀ Q : Exit → St → Prop, AWPL E ops [] Q s' → AWPL E ops [o] Q s) : FOp E ops o s s' := fun Q hQ => h Q (AWPL.of hQ)

section
variable {E : Env} {ops : Array Oper} {anc : List (List Nat)} {cs : List Nat} {ow : Nat → List (Option (List AV))} {vals : List AV} {st : St}

end

section
variable {E : Env} {Q : Exit → St → Prop} {st : St} {ops : Array Oper} {l : List Oper}
end
theorem wkO_self {no nt : Nat} : ∀ {own : List (Option (List AV))}, (∀ es, some es ∈ own → ∀ e ∈ es, ∀ z ∈ e.leaves, z.bel no nt = true) → WkO no nt own own
  | [], _ => trivial
  | x :: xs, h => ⟨.inr ⟨rfl, fun es e => h es (by rw [e]; exact List.mem_cons_self ..)⟩, wkO_self fun es hes => h es (List.mem_cons_of_mem _ hes)⟩
theorem wkK_self : ∀ {tk : List Nat}, WkK tk tk
  | [] => trivial
  | _ :: _ => ⟨rfl, wkK_self⟩
end Go.Abs
end
section
/- Own blocks behind those of a caller; a leaf's token is forgotten. -/
set_option linter.unusedVariables false
set_option linter.unusedSimpArgs false
namespace Go.Abs
open Go Go.RowKit
theorem AV.bel1_mono {no nt no' nt' : Nat} (h1 : no ≤ no') (h2 : nt ≤ nt') {x : AV} (h : x.bel1 no nt = true) : x.bel1 no' nt' = true := by
  cases x with
  | sl t k es => cases t with
    | none => rfl
    | some t => simp only [AV.bel1, decide_eq_true_eq] at *; omega
  | mu => simp only [AV.bel1, decide_eq_true_eq] at *; omega
  | ptr => simp only [AV.bel1, decide_eq_true_eq] at *; omega
  | fn f cs => cases cs <;> simp_all [AV.bel1]
  | _ => simp_all [AV.bel1]
theorem AV.bel2_mono {no nt no' nt' : Nat} (h1 : no ≤ no') (h2 : nt ≤ nt') {x : AV} (h : x.bel2 no nt = true) : x.bel2 no' nt' = true := by
  cases x with
  | agg cs => simp only [AV.bel2, List.all_eq_true] at *; exact fun y hy => AV.bel1_mono h1 h2 (h y hy)
  | fn f cs => simp only [AV.bel2, List.all_eq_true] at *; exact fun y hy => AV.bel1_mono h1 h2 (h y hy)
  | _ => simp only [AV.bel2] at *; first | exact AV.bel1_mono h1 h2 h | rfl
theorem AV.bel_mono {no nt no' nt' : Nat} (h1 : no ≤ no') (h2 : nt ≤ nt') {x : AV} (h : x.bel no nt = true) : x.bel no' nt' = true := by
  cases x with
  | tup cs => simp only [AV.bel, List.all_eq_true] at *; exact fun y hy => AV.bel2_mono h1 h2 (h y hy)
  | _ => simp only [AV.bel] at *; exact AV.bel2_mono h1 h2 h
/-- Own blocks that name nothing further on. -/
def OwnBel (own : List (Option (List AV))) (no nt : Nat) : Prop := ∀ es, some es ∈ own → ∀ e ∈ es, ∀ z ∈ e.leaves, z.bel no nt = true
theorem OwnBel.mono {own : List (Option (List AV))} {no nt no' nt' : Nat} (h : OwnBel own no nt) (h1 : no ≤ no') (h2 : nt ≤ nt') : OwnBel own no' nt' := fun es hes e he z hz => AV.bel_mono h1 h2 (h es hes e he z hz)
theorem OwnBel.app {own l : List (Option (List AV))} {no nt : Nat} (h : OwnBel own no nt) (h2 : OwnBel l no nt) : OwnBel (own ++ l) no nt := fun es hes => (List.mem_append.1 hes).elim (h es) (h2 es)
theorem OwnBel.set {own : List (Option (List AV))} {no nt id : Nat} {x : List AV} (h : OwnBel own no nt) (h2 : ∀ e ∈ x, ∀ z ∈ e.leaves, z.bel no nt = true) : OwnBel (own.set id (some x)) no nt := fun es hes => by
  rcases List.mem_or_eq_of_mem_set hes with hes | hes
  · exact h es hes
  · simp only [Option.some.injEq] at hes; subst hes; exact h2
theorem OwnBel.nil {no nt : Nat} : OwnBel [] no nt := fun es hes => by simp at hes
theorem OwnBel.cons {own : List (Option (List AV))} {no nt : Nat} {x : Option (List AV)} (h : ∀ es, x = some es → ∀ e ∈ es, ∀ z ∈ e.leaves, z.bel no nt = true) (h2 : OwnBel own no nt) : OwnBel (x :: own) no nt := fun es hes => by
  rcases List.mem_cons.1 hes with hes | hes
  · exact h es hes.symm
  · exact h2 es hes
theorem OwnBel.wk {own : List (Option (List AV))} {no nt : Nat} (h : OwnBel own no nt) : WkO no nt own own := wkO_self h
section
variable {α : Type} {own : List α} {a b c x : α}
end
end Go.Abs
end
