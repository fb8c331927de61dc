import Derived.Test.YtajeeghgiilhiaaT4
set_option linter.unusedVariables false
set_option linter.unusedSimpArgs false
namespace Go.Proofs.Ytajeeghgiilhiaa
open Go Go.Abs Go.RowKit Go.Bk
theorem grpF_len : ∀ (k : Nat) (l : List Po), (grpF k l).length ≤ k
  | 0, _ => by simp [grpF]
  | k + 1, [] => by simp [grpF]
  | k + 1, p :: l => by rw [grpF, List.length_cons]; have := grpF_len k (l.dropWhile fun q => decide (nmP q = nmP p)); omega
theorem merge_len (ls : List (List Po)) : (mergeF ls).1.length ≤ ls.flatten.length := by
  unfold mergeF; split
  · exact grpF_len _ _
  · simp

set_option maxHeartbeats 16000000 in
set_option maxRecDepth 8000 in
theorem mall_c (ls : List (List Po)) (hl1 : ls.length ≤ 1000000) (hl2 : ls.flatten.length ≤ 1000000) : ACalls E 11 [pssV ls] (fun r t => r = .tup [posV (mergeF ls).1, i64 (mergeF ls).2] ∧ t = []) := by -- checkroll/merge.All
  refine ACalls.of_awp (n := 55) (rs := [.tmp 2, .tmp 3]) Try.func11 rfl Try.ntmps11 rfl ?_
  repeat' (first
    | refine AWP.seqk fun K hK => ?_
    | (
        refine AWP.here 4 13 3 rfl ?_
        obtain ⟨l, hx⟩ : ∃ l, ls[i]? = some l := ⟨_, List.getElem?_eq_getElem (by omega)⟩
        have hml := mem_len hx
        have hfn := flat_len (ls := ls) (i := i + 1)
        rw [flat_next hx, List.length_append] at hfn
        refine AWP.region ?_; simp only [go_sem])
    | (
        refine AWP.here 8 21 2 rfl ?_
        refine AWP.renum [1] (by decide) rfl rfl ?_
        simp only [go_sem, po_ren, List.length_map]
        refine AWP.region ?_; simp only [go_sem])
    | (
        refine AWP.here 10 7 1 rfl ?_
        refine AWP.publishN 4 0 5 ls.flatten.length (ls.flatten.length + m) ((stbP ls.flatten).map poV) (spare 5 m) rfl rfl (by rw [List.length_map, stbP_len]) (cl_po _) ?_
        simp only [go_sem]
        refine AWP.region ?_; simp only [go_sem])
    | (
        refine AWP.here 12 8 1 rfl ?_
        obtain ⟨p, r, hq⟩ : ∃ p r, q = p :: r := by
          match q, (show 0 < q.length by omega) with
          | p :: r, _ => exact ⟨p, r, rfl⟩
        have hq0 : q[0]? = some p := by rw [hq]; rfl
        refine AWP.region ?_; simp only [go_sem])
    | (
        refine AWP.here 15 44 8 rfl ?_
        have hn : n = 1 + (r.takeWhile (smB p)).length := by
          first | exact tw_stop j1 j2 (hq ▸ hb) (by assumption) | exact tw_end j2 (by rw [← hq]; omega)
        have ht : q.take n = p :: r.takeWhile (smB p) := by rw [hn, hq]; exact tw_take
        have hd : q.drop n = r.dropWhile (smB p) := by rw [hn, hq]; exact tw_drop
        have hnl : n ≤ q.length := by omega
        refine AWP.region ?_; simp only [go_sem])
    | (
        refine AWP.here 7 18 4 rfl ?_
        refine AWP.regionL ?_
        refine AWPL.at 4 2 rfl ?_
        simp only [go_sem]
        refine AWPL.appMuG (es := (ls.take i).flatten.map poV) (xs := l.map poV) (m0 := m) sr22 ap22 (by simp only [List.length_map]; rfl) rfl rfl (by simp only [List.length_map]; omega) (by simp only [List.length_map]; omega) ?_
        intro mm
        simp only [go_sem]
        refine AWPL.of ?_
        simp only [go_sem])
    | (
        refine AWP.here 9 22 2 rfl ?_
        have hti : ls.take i = ls := List.take_of_length_le (by omega)
        have hall : ls.all riseP = true := all_riseEnd (by omega) h2
        rw [hti]
        refine AWP.regionL ?_
        refine AWPL.at 2 1 rfl ?_
        simp only [go_sem]
        (repeat (refine ⟨⟨_, rfl⟩, ?_⟩))
        refine ssf_call (id := 0) (m := m) (N := ls.flatten.length) (d := ls.flatten.toArray) (by rfl) (by rfl) (by rfl) (by first | rfl | (simp [AV.bel, AV.bel2, AV.bel1]; done)) (OwnBel.cons (fun es h => by cases h; exact bel_rowP ls.flatten.toArray m) OwnBel.nil) (by omega) (by simp) ?_
        simp only [go_sem]
        refine AWPL.of ?_
        simp only [go_sem])
    | (refine AWP.region ?_; simp only [go_sem])
    | (refine AWP.here 13 27 15 rfl ?_; refine AWP.regionO [0, 1, 2, 3, 4, 5, 6, 7, 8, 9, 10, 11, 12, 13, 14] [] (by kernel_rfl) (by kernel_rfl) rfl ?_; simp only [go_sem])
    | (refine hK _ ?_; clear hK K)
    | refine AWP.block ?_
    | refine AWP.cond rfl (fun c => ?_) (fun c => ?_) <;> first | exact Bool.noConfusion c | (try simp only [dD] at c)
    | refine AWP.skip ?_
    | (refine AWP.exit ?_; simp only [go_sem])
    | (refine ACall.one (mright_c l (by have := mem_len hx; omega)) (by kernel_rfl) rfl ?_; simp only [go_sem])
    | (refine ACall.one (byn_c p b) (by kernel_rfl) rfl ?_; simp only [go_sem])
    | (rw [ht]; refine ACall.one (mtog_c (p :: r.takeWhile (smB p)) p (by have := tw_le (p := p) (r := r); rw [← hq] at this; simp only [List.length_cons]; omega) rfl) (by kernel_rfl) rfl ?_; simp only [go_sem])
    | (refine AGuard.splitN (fun h => ?_) (fun h => ?_) <;> simp only [h, go_sem] <;> (try simp only [dD] at h))
    | (refine AGuard.split (fun h => ?_) (fun h => ?_) <;> simp only [h, go_sem] <;> (try simp only [dD] at h))
    | (refine AGet.haveM (by assumption) ?_; (try simp only [go_sem]))
    | (refine AGet.have' (by assumption) ?_; (try simp only [go_sem]))
    | ((first | refine AGet.nth ?_ (fun b hb => ?_) | refine AGet.nth1 ?_ (fun b hb => ?_) | with_reducible refine And.intro ?_ ?_); (focus (first | omega | assumption | exact List.length_pos_iff.2 (by assumption) | (simp only [List.length_append, List.length_cons, List.length_nil, List.length_map, List.length_take, List.length_drop] at *; omega) | (rw [wrap64_id (by omega) (by omega)]; omega) | (simp; done) | (simp [spare_len]; done) | (exact ⟨by omega, by omega⟩))); (try simp only [hb, go_sem]))
    | (
        refine AWP.here 3 12 1 rfl ?_
        refine AWP.nilMu 4 5 rfl ?_
        simp only [go_sem]
        refine AWP.loopM (ι := Nat × Nat) [2, 3, 6, 12, 13, 14, 15, 16, 17, 18, 19, 20, 21] (fun ⟨i, m⟩ => [(11, i64 i), (4, .mu 0 5 0 (ls.take i).flatten.length ((ls.take i).flatten.length + m))]) (fun ⟨i, m⟩ => [some ((ls.take i).flatten.map poV ++ spare 5 m)]) (fun ⟨i, m⟩ => []) (fun ⟨i, m⟩ => i ≤ ls.length ∧ (ls.take i).all riseP = true) (fun ⟨i, m⟩ => ls.length - i) ((0, 0)) ?_ ?_ ?_
        · (try simp only [go_sem]); (repeat' (first | exact .inr bel_pos | exact .inr ⟨rfl, bel_pos⟩ | exact .inr ⟨by simp, bel_pos⟩ | refine And.intro ?_ ?_ | exact .inl rfl | exact .inr rfl | exact .inr ⟨rfl, rfl⟩ | trivial | exact .inr (oblA rfl) | exact .inr ⟨rfl, oblA rfl⟩ | exact .inr bel_strs | exact .inr ⟨rfl, bel_strs⟩ | exact .inr ⟨by simp, bel_strs⟩ | (simp; done) | exact .inr ⟨rfl, by simp⟩ | exact .inr ⟨by simp, by simp⟩)); done
        · exact ⟨by omega, rfl⟩
        rintro ⟨i, m⟩ ⟨h1, h2⟩
        simp only [go_sem]
        have hfl := flat_len (ls := ls) (i := i))
    | (
        refine AWP.here 11 24 3 rfl ?_
        refine AWP.nilTok 7 5 rfl ?_
        simp only [go_sem]
        refine AWP.loopM (ι := List Po × List Po) [8, 24, 25, 26, 27, 28, 29, 30, 31, 32, 33, 34, 35, 36, 37, 38, 39, 40, 41, 42, 43, 44, 45, 46, 47, 48, 49, 50, 51, 52, 53] (fun ⟨q, out⟩ => [(4, posV q), (7, .sl (some 0) 5 (out.map poV))]) (fun ⟨q, out⟩ => [none]) (fun ⟨q, out⟩ => [out.length]) (fun ⟨q, out⟩ => q.length + out.length ≤ ls.flatten.length ∧ out ++ grpA q = grpA (stbP ls.flatten)) (fun ⟨q, out⟩ => q.length) ((stbP ls.flatten, [])) ?_ ?_ ?_
        · (try simp only [go_sem]); (repeat' (first | exact .inr bel_pos | exact .inr ⟨rfl, bel_pos⟩ | exact .inr ⟨by simp, bel_pos⟩ | refine And.intro ?_ ?_ | exact .inl rfl | exact .inr rfl | exact .inr ⟨rfl, rfl⟩ | trivial | exact .inr (oblA rfl) | exact .inr ⟨rfl, oblA rfl⟩ | exact .inr bel_strs | exact .inr ⟨rfl, bel_strs⟩ | exact .inr ⟨by simp, bel_strs⟩ | (simp; done) | exact .inr ⟨rfl, by simp⟩ | exact .inr ⟨by simp, by simp⟩)); done
        · exact ⟨by rw [stbP_len]; simp, rfl⟩
        rintro ⟨q, out⟩ ⟨k1, k2⟩
        simp only [go_sem])
    | (
        refine AWP.here 13 27 15 rfl ?_
        have hrl := tw_le (p := p) (r := r)
        rw [← hq] at hrl
        refine AWP.loopN (ι := Nat) [27, 28, 29, 30, 31, 32, 33, 34, 35, 36, 37, 38, 39, 40, 41, 42, 43] (fun (n : Nat) => [(8, i64 n)]) (fun (n : Nat) => 1 ≤ n ∧ n ≤ 1 + (r.takeWhile (smB p)).length) (fun (n : Nat) => q.length - n) (1) ?_ ?_ ?_
        · (try simp only [go_sem]); (repeat' (first | refine And.intro ?_ ?_ | exact .inl rfl | exact .inr rfl | exact .inr ⟨rfl, rfl⟩ | trivial | exact .inr (oblA rfl) | exact .inr ⟨rfl, oblA rfl⟩ | exact .inr bel_strs | exact .inr ⟨rfl, bel_strs⟩ | exact .inr ⟨by simp, bel_strs⟩ | (simp; done) | exact .inr ⟨rfl, by simp⟩ | exact .inr ⟨by simp, by simp⟩)); done
        · exact ⟨by omega, by omega⟩
        rintro n ⟨j1, j2⟩
        simp only [go_sem])
    | (
        refine ⟨(i + 1, mm), ?_, ⟨by show i + 1 ≤ ls.length; omega, all_riseNext hx h2 (by assumption)⟩, by show ls.length - (i + 1) < ls.length - i; omega⟩
        (try simp only [go_sem]); (try rw [wrap64_id (by omega) (by omega)]); rw [flat_next hx, List.length_append]; (repeat' (first | exact .inr bel_pos | exact .inr ⟨rfl, bel_pos⟩ | exact .inr ⟨by simp, bel_pos⟩ | refine And.intro ?_ ?_ | exact .inl rfl | exact .inr rfl | exact .inr ⟨rfl, rfl⟩ | trivial | exact .inr (oblA rfl) | exact .inr ⟨rfl, oblA rfl⟩ | exact .inr bel_strs | exact .inr ⟨rfl, bel_strs⟩ | exact .inr ⟨by simp, bel_strs⟩ | (simp; done) | exact .inr ⟨rfl, by simp⟩ | exact .inr ⟨by simp, by simp⟩)); done)
    | (
        refine ⟨(r.dropWhile (smB p), out ++ [togF (nmP p) (p :: r.takeWhile (smB p))]), ?_, ⟨by show (r.dropWhile (smB p)).length + (out ++ [_]).length ≤ _; rw [← hd, List.length_drop, List.length_append, List.length_singleton]; omega, by show (out ++ [_]) ++ grpA (r.dropWhile (smB p)) = _; rw [← k2, hq, grpA_cons]; simp⟩, by show (r.dropWhile (smB p)).length < q.length; rw [← hd, List.length_drop]; omega⟩
        (try simp only [go_sem]); rw [hd]; (try simp only [List.map_append, List.map_cons, List.map_nil, List.length_append, List.length_singleton]); (repeat' (first | exact .inr bel_pos | exact .inr ⟨rfl, bel_pos⟩ | exact .inr ⟨by simp, bel_pos⟩ | refine And.intro ?_ ?_ | exact .inl rfl | exact .inr rfl | exact .inr ⟨rfl, rfl⟩ | trivial | exact .inr (oblA rfl) | exact .inr ⟨rfl, oblA rfl⟩ | exact .inr bel_strs | exact .inr ⟨rfl, bel_strs⟩ | exact .inr ⟨by simp, bel_strs⟩ | (simp; done) | exact .inr ⟨rfl, by simp⟩ | exact .inr ⟨by simp, by simp⟩)); done)
    | (
        refine ⟨n + 1, ?_, ?_, ?_⟩
        · (try simp only [go_sem]); (try rw [wrap64_id (by omega) (by omega)]); (repeat' (first | refine And.intro ?_ ?_ | exact .inl rfl | exact .inr rfl | exact .inr ⟨rfl, rfl⟩ | trivial | exact .inr (oblA rfl) | exact .inr ⟨rfl, oblA rfl⟩ | exact .inr bel_strs | exact .inr ⟨rfl, bel_strs⟩ | exact .inr ⟨by simp, bel_strs⟩ | (simp; done) | exact .inr ⟨rfl, by simp⟩ | exact .inr ⟨by simp, by simp⟩)); done
        · exact ⟨by omega, tw_next j1 j2 (hq ▸ hb) (by assumption)⟩
        · (try simp only []); omega)
    | (
        refine AWP.ret ?_
        refine AEnd.is ?_; simp only [go_sem, out_v, out_s, out_n, v_int, v_bool, v_str] <;> (first | (rw [all_riseNo hx (by assumption)]; exact ⟨trivial, rfl⟩) | (rw [mergeF_eq hall, ← k2]; simp [grpA, grpF, show q = [] from List.eq_nil_of_length_eq_zero (by omega)]; done) | skip))
    | refine AWP.fin (by assumption) ?_
    | fail)

set_option maxHeartbeats 4000000 in
set_option maxRecDepth 8000 in
theorem over1_c (p : Po) : ACalls E 26 [poV p] (fun r t => r = bl p.over ∧ t = []) := by -- checkroll/roll.over$1
  refine ACalls.of_awp (n := 5) (rs := [.tmp 2]) Try.func26 rfl Try.ntmps26 rfl ?_
  repeat' (first
    | refine AWP.seqk fun K hK => ?_
    | (refine AWP.region ?_; simp only [go_sem])
    | (refine hK _ ?_; clear hK K)
    | refine AWP.block ?_
    | refine AWP.cond rfl (fun c => ?_) (fun c => ?_) <;> first | exact Bool.noConfusion c | (try simp only [dD] at c)
    | refine AWP.skip ?_
    | (refine AWP.exit ?_; simp only [go_sem])
    | (refine AGet.haveM (by assumption) ?_; (try simp only [go_sem]))
    | (refine AGet.have' (by assumption) ?_; (try simp only [go_sem]))
    | ((first | refine AGet.nth ?_ (fun b hb => ?_) | refine AGet.nth1 ?_ (fun b hb => ?_) | with_reducible refine And.intro ?_ ?_); (focus (first | omega | assumption | exact List.length_pos_iff.2 (by assumption) | (simp only [List.length_append, List.length_cons, List.length_nil, List.length_map, List.length_take, List.length_drop] at *; omega) | (rw [wrap64_id (by omega) (by omega)]; omega) | (simp; done) | (simp [spare_len]; done) | (exact ⟨by omega, by omega⟩))); (try simp only [hb, go_sem]))
    | (
        refine AWP.ret ?_
        refine AEnd.is ?_; simp only [go_sem, out_v, out_s, out_n, v_int, v_bool, v_str] <;> rfl)
    | refine AWP.fin (by assumption) ?_
    | fail)

set_option maxHeartbeats 4000000 in
set_option maxRecDepth 8000 in
theorem ovidx_c (l : List Po) (hl : l.length ≤ 9223372036854775807) : ACalls E 49 [posV l, .fn 26 []] (fun r t => r = i64 (idxP (fun p : Po => p.over) l) ∧ t = []) := by -- slices.IndexFunc[[]checkroll/api.Pos,checkroll/api.Pos]
  refine ACalls.of_awp (n := 19) (rs := [.tmp 4]) Try.func49 rfl Try.ntmps49 rfl ?_
  repeat' (first
    | refine AWP.seqk fun K hK => ?_
    | (refine AWP.region ?_; simp only [go_sem])
    | (refine hK _ ?_; clear hK K)
    | refine AWP.block ?_
    | refine AWP.cond rfl (fun c => ?_) (fun c => ?_) <;> first | exact Bool.noConfusion c | (try simp only [dD] at c)
    | refine AWP.skip ?_
    | (refine AWP.exit ?_; simp only [go_sem])
    | (refine ACall.one (over1_c _) (by kernel_rfl) rfl ?_; simp only [go_sem])
    | (refine AGet.haveM (by assumption) ?_; (try simp only [go_sem]))
    | (refine AGet.have' (by assumption) ?_; (try simp only [go_sem]))
    | ((first | refine AGet.nth ?_ (fun b hb => ?_) | refine AGet.nth1 ?_ (fun b hb => ?_) | with_reducible refine And.intro ?_ ?_); (focus (first | omega | assumption | exact List.length_pos_iff.2 (by assumption) | (simp only [List.length_append, List.length_cons, List.length_nil, List.length_map, List.length_take, List.length_drop] at *; omega) | (rw [wrap64_id (by omega) (by omega)]; omega) | (simp; done) | (simp [spare_len]; done) | (exact ⟨by omega, by omega⟩))); (try simp only [hb, go_sem]))
    | (
        refine AWP.here 2 9 1 rfl ?_
        refine AWP.loopN (ι := Nat) [4, 5, 9, 10, 11, 12, 13, 14, 15, 16, 17, 18] (fun (i : Nat) => [(8, i64 i)]) (fun (i : Nat) => i ≤ l.length ∧ (l.take i).all (fun p : Po => !p.over) = true) (fun (i : Nat) => l.length - i) (0) ?_ ?_ ?_
        · (try simp only [go_sem]); (repeat' (first | refine And.intro ?_ ?_ | exact .inl rfl | exact .inr rfl | exact .inr ⟨rfl, rfl⟩ | trivial | exact .inr (oblA rfl) | exact .inr ⟨rfl, oblA rfl⟩ | exact .inr bel_strs | exact .inr ⟨rfl, bel_strs⟩ | exact .inr ⟨by simp, bel_strs⟩ | (simp; done) | exact .inr ⟨rfl, by simp⟩ | exact .inr ⟨by simp, by simp⟩)); done
        · exact ⟨by omega, by simp⟩
        rintro i ⟨h1, h2⟩
        simp only [go_sem])
    | (
        refine ⟨i + 1, ?_, ?_, ?_⟩
        · (try simp only [go_sem]); (try rw [wrap64_id (by omega) (by omega)]); (repeat' (first | refine And.intro ?_ ?_ | exact .inl rfl | exact .inr rfl | exact .inr ⟨rfl, rfl⟩ | trivial | exact .inr (oblA rfl) | exact .inr ⟨rfl, oblA rfl⟩ | exact .inr bel_strs | exact .inr ⟨rfl, bel_strs⟩ | exact .inr ⟨by simp, bel_strs⟩ | (simp; done) | exact .inr ⟨rfl, by simp⟩ | exact .inr ⟨by simp, by simp⟩)); done
        · exact ⟨by omega, all_next hb h2 (by simp_all)⟩
        · (try simp only []); omega)
    | (
        refine AWP.ret ?_
        refine AEnd.is ?_; simp only [go_sem, out_v, out_s, out_n, v_int, v_bool, v_str] <;> (first | (rw [idxP_of hb (by simp_all) h2]; done) | (rw [idxP_none (by omega) h2]; done) | skip))
    | refine AWP.fin (by assumption) ?_
    | fail)

set_option maxHeartbeats 4000000 in
set_option maxRecDepth 8000 in
theorem ovcf_c (l : List Po) (hl : l.length ≤ 9223372036854775807) : ACalls E 25 [posV l, .fn 26 []] (fun r t => r = bl (decide (0 ≤ idxP (fun p : Po => p.over) l)) ∧ t = []) := by -- slices.ContainsFunc[[]checkroll/api.Pos,checkroll/api.Pos]
  refine ACalls.of_awp (n := 9) (rs := [.tmp 4]) Try.func25 rfl Try.ntmps25 rfl ?_
  repeat' (first
    | refine AWP.seqk fun K hK => ?_
    | (refine AWP.region ?_; simp only [go_sem])
    | (refine hK _ ?_; clear hK K)
    | refine AWP.block ?_
    | refine AWP.cond rfl (fun c => ?_) (fun c => ?_) <;> first | exact Bool.noConfusion c | (try simp only [dD] at c)
    | refine AWP.skip ?_
    | (refine AWP.exit ?_; simp only [go_sem])
    | (refine ACall.one (ovidx_c l hl) (by kernel_rfl) rfl ?_; simp only [go_sem])
    | (refine AGet.haveM (by assumption) ?_; (try simp only [go_sem]))
    | (refine AGet.have' (by assumption) ?_; (try simp only [go_sem]))
    | ((first | refine AGet.nth ?_ (fun b hb => ?_) | refine AGet.nth1 ?_ (fun b hb => ?_) | with_reducible refine And.intro ?_ ?_); (focus (first | omega | assumption | exact List.length_pos_iff.2 (by assumption) | (simp only [List.length_append, List.length_cons, List.length_nil, List.length_map, List.length_take, List.length_drop] at *; omega) | (rw [wrap64_id (by omega) (by omega)]; omega) | (simp; done) | (simp [spare_len]; done) | (exact ⟨by omega, by omega⟩))); (try simp only [hb, go_sem]))
    | (
        refine AWP.ret ?_
        refine AEnd.is ?_; simp only [go_sem, out_v, out_s, out_n, v_int, v_bool, v_str] <;> rfl)
    | refine AWP.fin (by assumption) ?_
    | fail)

set_option maxHeartbeats 4000000 in
set_option maxRecDepth 8000 in
theorem rover_c (l : List Po) (hl : l.length ≤ 9223372036854775807) : ACalls E 12 [posV l] (fun r t => r = bl (l.any (·.over)) ∧ t = []) := by -- checkroll/roll.over
  refine ACalls.of_awp (n := 5) (rs := [.tmp 2]) Try.func12 rfl Try.ntmps12 rfl ?_
  repeat' (first
    | refine AWP.seqk fun K hK => ?_
    | (refine AWP.region ?_; simp only [go_sem])
    | (refine hK _ ?_; clear hK K)
    | refine AWP.block ?_
    | refine AWP.cond rfl (fun c => ?_) (fun c => ?_) <;> first | exact Bool.noConfusion c | (try simp only [dD] at c)
    | refine AWP.skip ?_
    | (refine AWP.exit ?_; simp only [go_sem])
    | (refine ACall.one (ovcf_c l hl) (by kernel_rfl) rfl ?_; simp only [go_sem])
    | (refine AGet.haveM (by assumption) ?_; (try simp only [go_sem]))
    | (refine AGet.have' (by assumption) ?_; (try simp only [go_sem]))
    | ((first | refine AGet.nth ?_ (fun b hb => ?_) | refine AGet.nth1 ?_ (fun b hb => ?_) | with_reducible refine And.intro ?_ ?_); (focus (first | omega | assumption | exact List.length_pos_iff.2 (by assumption) | (simp only [List.length_append, List.length_cons, List.length_nil, List.length_map, List.length_take, List.length_drop] at *; omega) | (rw [wrap64_id (by omega) (by omega)]; omega) | (simp; done) | (simp [spare_len]; done) | (exact ⟨by omega, by omega⟩))); (try simp only [hb, go_sem]))
    | (
        refine AWP.ret ?_
        refine AEnd.is ?_; simp only [go_sem, out_v, out_s, out_n, v_int, v_bool, v_str] <;> (first | exact idxP_any | skip))
    | refine AWP.fin (by assumption) ?_
    | fail)

set_option maxHeartbeats 4000000 in
set_option maxRecDepth 8000 in
theorem rcarry_c (x y : List Po) (hx : x.length ≤ 400000) (hy : y.length ≤ 400000) : ACalls E 6 [posV x, posV y] (fun r t => r = .tup [posV (carryF x y).1, i64 (carryF x y).2] ∧ t = []) := by -- checkroll/roll.Carry
  have hml := merge_len [x, y]
  simp only [List.flatten_cons, List.flatten_nil, List.append_nil, List.length_append] at hml
  refine ACalls.of_awp (n := 21) (rs := [.tmp 4, .tmp 5]) Try.func6 rfl Try.ntmps6 rfl ?_
  repeat' (first
    | refine AWP.seqk fun K hK => ?_
    | (refine AWP.region ?_; simp only [go_sem])
    | (refine hK _ ?_; clear hK K)
    | refine AWP.block ?_
    | refine AWP.cond rfl (fun c => ?_) (fun c => ?_) <;> first | exact Bool.noConfusion c | (try simp only [dD] at c)
    | refine AWP.skip ?_
    | (refine AWP.exit ?_; simp only [go_sem])
    | (refine ACall.one (mall_c [x, y] (by simp) (by simp only [List.flatten_cons, List.flatten_nil, List.append_nil, List.length_append]; omega)) (by kernel_rfl) rfl ?_; simp only [go_sem])
    | (refine ACall.one (rover_c (mergeF [x, y]).1 (by omega)) (by kernel_rfl) rfl ?_; simp only [go_sem])
    | (refine AGet.haveM (by assumption) ?_; (try simp only [go_sem]))
    | (refine AGet.have' (by assumption) ?_; (try simp only [go_sem]))
    | ((first | refine AGet.nth ?_ (fun b hb => ?_) | refine AGet.nth1 ?_ (fun b hb => ?_) | with_reducible refine And.intro ?_ ?_); (focus (first | omega | assumption | exact List.length_pos_iff.2 (by assumption) | (simp only [List.length_append, List.length_cons, List.length_nil, List.length_map, List.length_take, List.length_drop] at *; omega) | (rw [wrap64_id (by omega) (by omega)]; omega) | (simp; done) | (simp [spare_len]; done) | (exact ⟨by omega, by omega⟩))); (try simp only [hb, go_sem]))
    | (
        refine AWP.ret ?_
        refine AEnd.is ?_; simp only [go_sem, out_v, out_s, out_n, v_int, v_bool, v_str] <;> (first | (unfold carryF; rw [if_pos (by assumption)]; first | exact ⟨trivial, rfl⟩ | (simp; done)) | (unfold carryF; rw [if_neg (by simp_all), if_pos (by assumption)]; first | exact ⟨trivial, rfl⟩ | (simp; done)) | (unfold carryF; rw [if_neg (by simp_all), if_neg (by simp_all)]; first | exact ⟨⟨rfl, rfl⟩, rfl⟩ | (simp; done)) | skip))
    | refine AWP.fin (by assumption) ?_
    | fail)


end Go.Proofs.Ytajeeghgiilhiaa
