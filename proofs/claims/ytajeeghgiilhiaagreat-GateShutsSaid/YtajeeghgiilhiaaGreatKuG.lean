/- Texts of one chain, put together (N3, N4, N5). -/
import Derived.Test.YtajeeghgiilhiaaGreatKuF
set_option linter.unusedVariables false
set_option linter.unusedSimpArgs false
section
namespace Go.Proofs.YtajeeghgiilhiaaGreat
open Go Go.Abs Go.RowKit Go.Bk
theorem res_err {r : List Od × Int} {e : Int} (h : r.2 = e) (he : e ≠ 0) : ∃ x, AV.tup [.any, i64 e] = .tup [x, i64 r.2] ∧ (r.2 = 0 → x = odsV r.1) := ⟨.any, by rw [h], fun h0 => absurd (h.symm.trans h0) he⟩
theorem res_ok {r : List Od × Int} {l : List Od} (h : r = (l, 0)) : ∃ x, AV.tup [odsV l, i64 0] = .tup [x, i64 r.2] ∧ (r.2 = 0 → x = odsV r.1) := ⟨odsV l, by rw [h], fun _ => by rw [h]⟩
set_option maxHeartbeats 4000000 in
set_option maxRecDepth 8000 in
theorem oopen_c (l : List Od) (id : Bs) (hl : l.length ≤ 9223372036854775807) : ACalls E 238 [odsV l, str id] (fun r t => r = i64 (openI l id) ∧ t = []) := by
 refine ACalls.of_awp (n := 20) (rs := [.tmp 4]) Tryz.func238 rfl Tryz.ntmps238 rfl ?_
 refine AWP.seqk fun K1 hK1 => ?_
 refine AWP.region ?_
 simp only [go_sem]
 repeat' (first | fail)
 refine hK1 _ ?_; clear hK1 K1
 refine AWP.seqk fun K2 hK2 => ?_
 refine AWP.region ?_
 simp only [go_sem]
 repeat' (first | (refine ACall.one (oplace_c _ _ (by first | omega | fail)) (by kernel_rfl) rfl ?_; simp only [go_sem]) | fail)
 refine hK2 _ ?_; clear hK2 K2
 refine AWP.seqk fun K3 hK3 => ?_
 refine AWP.seqk fun K4 hK4 => ?_
 rcases placeI_cases l id with ⟨e, e2⟩ | ⟨n, o, e, e2, hb⟩ <;> simp only [e]
 all_goals (
   refine AWP.region ?_
   simp only [go_sem]
   repeat' (first | (refine AGet.haveM (by assumption) ?_; (try simp only [go_sem])) | fail)
   all_goals (
     refine hK4 _ ?_; clear hK4 K4
     refine AWP.cond rfl (fun c18 => ?_) (fun c18 => ?_)
     · first | exact Bool.noConfusion c18 | (
         try simp only [dD] at c18
         refine AWP.seqk fun K5 hK5 => ?_
         refine AWP.region ?_
         simp only [go_sem]
         repeat' (first | fail)
         refine hK5 _ ?_; clear hK5 K5
         refine AWP.ret ?_
         try simp only [go_sem]
         clear hK3 K3
         first
         | exact ⟨[], .v _, rfl, rfl, by rw [openI_no e hb (by assumption)], rfl⟩
         | fail)
     · first | (
         try simp only [dD] at c18
         refine AWP.skip ?_
         refine hK3 _ ?_; clear hK3 K3
         refine AWP.seqk fun K6 hK6 => ?_
         refine AWP.region ?_
         simp only [go_sem]
         repeat' (first | fail)
         refine hK6 _ ?_; clear hK6 K6
         refine AWP.ret ?_
         try simp only [go_sem]
         first
         | exact ⟨[], .v _, rfl, rfl, by rw [openI_yes e hb (by assumption)], rfl⟩
         | exact ⟨[], .v _, rfl, rfl, by rw [openI_none (by omega), e], rfl⟩
         | fail)))
set_option maxHeartbeats 4000000 in
set_option maxRecDepth 8000 in
theorem ofind_c (l : List Od) (id : Bs) (hl : l.length ≤ 9223372036854775807) : ACalls E 157 [odsV l, str id] (fun r t => r = .tup [odV (findF l id).1, bl (findF l id).2] ∧ t = []) := by
 refine ACalls.of_awp (n := 21) (rs := [.cell 4 65, .tmp 5]) Tryz.func157 rfl Tryz.ntmps157 rfl ?_
 refine AWP.seqk fun K1 hK1 => ?_
 refine AWP.region ?_
 simp only [go_sem]
 repeat' (first | fail)
 refine hK1 _ ?_; clear hK1 K1
 refine AWP.seqk fun K2 hK2 => ?_
 refine AWP.seqk fun K3 hK3 => ?_
 refine AWP.region ?_
 simp only [go_sem]
 repeat' (first | (refine ACall.one (oright_c _ (by omega)) (by kernel_rfl) rfl ?_; simp only [go_sem]) | fail)
 refine hK3 _ ?_; clear hK3 K3
 refine AWP.cond rfl (fun c9 => ?_) (fun c9 => ?_)
 · first | (
     try simp only [dD] at c9
     refine AWP.seqk fun K4 hK4 => ?_
     refine AWP.region ?_
     simp only [go_sem]
     repeat' (first | fail)
     refine hK4 _ ?_; clear hK4 K4
     refine AWP.ret ?_
     try simp only [go_sem]
     clear hK2 K2
     first
     | exact ⟨[], .tup [odV zeroO, .v _], rfl, ⟨⟨rfl, rfl, rfl, rfl, rfl, rfl, rfl, rfl, trivial⟩, rfl, trivial⟩, by rw [find_no1 (by assumption)], rfl⟩
     | fail)
 · first | (
     try simp only [dD] at c9
     refine AWP.skip ?_
     refine hK2 _ ?_; clear hK2 K2
     refine AWP.seqk fun K5 hK5 => ?_
     refine AWP.region ?_
     simp only [go_sem]
     repeat' (first | (refine ACall.one (oplace_c _ _ (by first | omega | fail)) (by kernel_rfl) rfl ?_; simp only [go_sem]) | fail)
     refine hK5 _ ?_; clear hK5 K5
     refine AWP.seqk fun K6 hK6 => ?_
     refine AWP.seqk fun K7 hK7 => ?_
     refine AWP.region ?_
     simp only [go_sem]
     repeat' (first | fail)
     refine hK7 _ ?_; clear hK7 K7
     refine AWP.cond rfl (fun c15 => ?_) (fun c15 => ?_)
     · first | (
         try simp only [dD] at c15
         refine AWP.seqk fun K8 hK8 => ?_
         refine AWP.region ?_
         simp only [go_sem]
         repeat' (first | fail)
         refine hK8 _ ?_; clear hK8 K8
         refine AWP.ret ?_
         try simp only [go_sem]
         clear hK6 K6
         first
         | exact ⟨[], .tup [odV zeroO, .v _], rfl, ⟨⟨rfl, rfl, rfl, rfl, rfl, rfl, rfl, rfl, trivial⟩, rfl, trivial⟩, by rw [find_no2 (by assumption) (by omega)], rfl⟩
         | fail)
     · first | (
         try simp only [dD] at c15
         refine AWP.skip ?_
         refine hK6 _ ?_; clear hK6 K6
         refine AWP.seqk fun K9 hK9 => ?_
         obtain ⟨n, o, e, e2, hb⟩ : ∃ n o, placeI l id = (n : Nat) ∧ placeF l id = some n ∧ l[n]? = some o := by
           rcases placeI_cases l id with ⟨e, e2⟩ | h
           · exact absurd (show placeI l id < 0 by omega) (by assumption)
           · exact h
         simp only [e]
         refine AWP.region ?_
         simp only [go_sem]
         repeat' (first | (refine AGet.haveM (by assumption) ?_; (try simp only [go_sem])) | fail)
         refine hK9 _ ?_; clear hK9 K9
         refine AWP.ret ?_
         try simp only [go_sem]
         first
         | exact ⟨[], .tup [odV o, .v _], rfl, ⟨⟨rfl, rfl, rfl, rfl, rfl, rfl, rfl, rfl, trivial⟩, rfl, trivial⟩, by rw [find_yes (by assumption) e hb], rfl⟩
         | fail))
set_option maxHeartbeats 4000000 in
set_option maxRecDepth 8000 in
theorem oclone_c (l : List Od) (hl : l.length ≤ 1000000) : ACalls E 126 [odsV l] (fun r t => r = .sl (some 0) 8 (l.map odV) ∧ t = [l.length]) := by
 refine ACalls.of_awp (n := 8) (rs := [.tmp 2]) Tryz.func126 rfl Tryz.ntmps126 rfl ?_
 refine AWP.seqk fun K1 hK1 => ?_
 refine AWP.region ?_
 simp only [go_sem]
 repeat' (first | fail)
 refine hK1 _ ?_; clear hK1 K1
 refine AWP.seqk fun K2 hK2 => ?_
 refine AWP.seqk fun K3 hK3 => ?_
 refine AWP.region ?_
 simp only [go_sem]
 repeat' (first | ((first | with_reducible refine And.intro ?_ ?_); (focus ((first | (simp; done)))); (try simp only [hb, go_sem])))
 intro bb hbb
 refine hK3 _ ?_; clear hK3 K3
 refine AWP.cond rfl (fun c4 => ?_) (fun c4 => ?_)
 · first | (
     try simp only [dD] at c4
     refine AWP.seqk fun K4 hK4 => ?_
     refine AWP.region ?_
     simp only [go_sem]
     repeat' (first | fail)
     refine hK4 _ ?_; clear hK4 K4
     refine AWP.ret ?_
     try simp only [go_sem]
     clear hK2 K2
     first
     | (have he : l = [] := by
          apply Classical.byContradiction; intro hne
          have := hbb (by simpa using hne)
          rw [this] at c4; exact absurd c4 (by simp)
        exact ⟨[(false, 8)], .sl (some 0) 8 [], rfl, rfl, by rw [he]; rfl, by rw [he]; rfl⟩)
     | fail)
 · first | (
     try simp only [dD] at c4
     refine AWP.skip ?_
     refine hK2 _ ?_; clear hK2 K2
     refine AWP.seqk fun K5 hK5 => ?_
     refine AWP.region ?_
     simp only [go_sem]
     repeat' (first | ((first | with_reducible refine And.intro ?_ ?_); (focus ((first | omega | fail))); (try simp only [hb, go_sem])))
     refine hK5 _ ?_; clear hK5 K5
     refine AWP.ret ?_
     try simp only [go_sem]
     first
     | exact ⟨[(true, 0)], .sl (some 0) 8 _, rfl, ⟨rfl, rfl, rfl⟩, by simp, by simp [selLens]⟩
     | fail)
set_option maxHeartbeats 4000000 in
set_option maxRecDepth 8000 in
theorem onew_c (l : List Od) (o : Od) (hl : l.length ≤ 1000000) : ACalls E 208 [odsV l, odV o] (fun r t => (∃ x, r = .tup [x, i64 (newO l o).2] ∧ ((newO l o).2 = 0 → x = odsV (newO l o).1)) ∧ t = []) := by
 refine ACalls.of_awp (n := 36) (rs := [.tmp 4, .tmp 5]) Tryz.func208 rfl Tryz.ntmps208 rfl ?_
 refine AWP.seqk fun K1 hK1 => ?_
 refine AWP.region ?_
 simp only [go_sem]
 repeat' (first | fail)
 refine hK1 _ ?_; clear hK1 K1
 refine AWP.seqk fun K2 hK2 => ?_
 refine AWP.region ?_
 simp only [go_sem]
 repeat' (first | (refine ACall.of (oclone_c l hl) (by kernel_rfl) rfl ?_; rintro r t ⟨rfl, rfl⟩ <;> simp only [go_sem]) | fail)
 refine hK2 _ ?_; clear hK2 K2
 refine AWP.seqk fun K3 hK3 => ?_
 refine AWP.region ?_
 simp only [go_sem]
 repeat' (first | fail)
 refine hK3 _ ?_; clear hK3 K3
 refine AWP.seqk fun K4 hK4 => ?_
 refine AWP.region ?_
 simp only [go_sem]
 repeat' (first | fail)
 refine hK4 _ ?_; clear hK4 K4
 refine AWP.seqk fun K5 hK5 => ?_
 refine AWP.block ?_
 refine AWP.seqk fun K6 hK6 => ?_
 refine AWP.region ?_
 simp only [go_sem]
 repeat' (first | (refine ACall.one (oright_c _ (by omega)) (by kernel_rfl) rfl ?_; simp only [go_sem]) | (refine ACall.one (omay_c ⟨o.id, o.acc, o.sym, o.buy, o.qty, o.price, 0, true⟩) (by kernel_rfl) rfl ?_; simp only [go_sem]) | (refine AGuard.split (fun h => ?_) (fun h => ?_) <;> simp only [h, go_sem] <;> try simp only [dD] at h) | fail)
 all_goals (
   refine hK6 _ ?_; clear hK6 K6
   refine AWP.cond rfl (fun c10 => ?_) (fun c10 => ?_)
   · first | (
       try simp only [dD] at c10
       refine AWP.seqk fun K7 hK7 => ?_
       refine AWP.region ?_
       simp only [go_sem]
       repeat' (first | fail)
       refine hK7 _ ?_; clear hK7 K7
       refine AWP.ret ?_
       try simp only [go_sem]
       clear hK5 K5
       first
       | exact ⟨[], .tup [.any, .v _], rfl, ⟨trivial, rfl, trivial⟩, res_err (new_e1 (by assumption)) (by decide), rfl⟩
       | exact ⟨[], .tup [.any, .v _], rfl, ⟨trivial, rfl, trivial⟩, res_err (new_e1' (by assumption)) (by decide), rfl⟩
       | fail)
   · first | exact Bool.noConfusion c10 | (
       try simp only [dD] at c10
       refine AWP.seqk fun K8 hK8 => ?_
       refine AWP.region ?_
       simp only [go_sem]
       repeat' (first | (refine ACall.one (oplace_c _ _ (by first | omega | fail)) (by kernel_rfl) rfl ?_; simp only [go_sem]) | fail)
       refine hK8 _ ?_; clear hK8 K8
       refine AWP.cond rfl (fun c20 => ?_) (fun c20 => ?_)
       · first | (
           try simp only [dD] at c20
           refine AWP.seqk fun K9 hK9 => ?_
           refine AWP.region ?_
           simp only [go_sem]
           repeat' (first | fail)
           refine hK9 _ ?_; clear hK9 K9
           refine AWP.ret ?_
           try simp only [go_sem]
           clear hK5 K5
           first
           | exact ⟨[], .tup [.any, .v _], rfl, ⟨trivial, rfl, trivial⟩, res_err (new_e7 (by assumption) (by assumption) (by assumption)) (by decide), rfl⟩
           | fail)
       · first | (
           try simp only [dD] at c20
           refine AWP.seqk fun K10 hK10 => ?_
           refine AWP.region ?_
           simp only [go_sem]
           repeat' (first | ((first | with_reducible refine And.intro ?_ ?_); (focus ((first | (simp; done)))); (try simp only [hb, go_sem])))
           refine hK10 _ ?_; clear hK10 K10
           refine AWP.cond rfl (fun c27 => ?_) (fun c27 => ?_)
           · first | (
               try simp only [dD] at c27
               refine AWP.seqk fun K11 hK11 => ?_
               refine AWP.region ?_
               simp only [go_sem]
               repeat' (first | fail)
               refine hK11 _ ?_; clear hK11 K11
               refine AWP.ret ?_
               try simp only [go_sem]
               clear hK5 K5
               first
               | exact ⟨[], .tup [.any, .v _], rfl, ⟨trivial, rfl, trivial⟩, res_err (new_e5 (by assumption) (by assumption) (by assumption) (by omega)) (by decide), rfl⟩
               | fail)
           · first | (
               try simp only [dD] at c27
               refine AWP.skip ?_
               refine hK5 _ ?_; clear hK5 K5
               refine AWP.seqk fun K12 hK12 => ?_
               refine AWP.region ?_
               simp only [go_sem]
               repeat' (first | ((first | with_reducible refine And.intro ?_ ?_); (focus ((first | omega | fail))); (try simp only [hb, go_sem])))
               refine hK12 _ ?_; clear hK12 K12
               refine AWP.ret ?_
               try simp only [go_sem]
               first
               | exact ⟨[], .tup [.sl none 8 _, .v _], rfl, ⟨⟨rfl, by rw [List.map_append]; rfl⟩, rfl, trivial⟩, res_ok (new_ok (by assumption) (by assumption) (by assumption) (by omega)), rfl⟩
               | fail))))
end Go.Proofs.YtajeeghgiilhiaaGreat
end
section
namespace Go.Proofs.YtajeeghgiilhiaaGreat
open Go Go.Abs Go.RowKit Go.Bk
set_option maxHeartbeats 4000000 in
set_option maxRecDepth 8000 in
theorem oclose_c (l : List Od) (id : Bs) (hl : l.length ≤ 1000000) : ACalls E 212 [odsV l, str id] (fun r t => (∃ x, r = .tup [x, i64 (closeO l id).2] ∧ ((closeO l id).2 = 0 → x = odsV (closeO l id).1)) ∧ t = []) := by
 refine ACalls.of_awp (n := 24) (rs := [.tmp 4, .tmp 5]) Tryz.func212 rfl Tryz.ntmps212 rfl ?_
 refine AWP.seqk fun K1 hK1 => ?_
 refine AWP.region ?_
 simp only [go_sem]
 repeat' (first | fail)
 refine hK1 _ ?_; clear hK1 K1
 refine AWP.seqk fun K2 hK2 => ?_
 refine AWP.region ?_
 simp only [go_sem]
 repeat' (first | (refine ACall.take (oclone_c l hl) (by kernel_rfl) rfl (.cons (.one (.clean rfl)) .nil) ?_; rintro r t ⟨rfl, rfl⟩; refine ⟨0, 8, _, rfl, by simp, pl_od _, fun m => ?_⟩; simp only [go_sem, List.length_map]) | fail)
 refine hK2 _ ?_; clear hK2 K2
 refine AWP.seqk fun K3 hK3 => ?_
 refine AWP.seqk fun K4 hK4 => ?_
 refine AWP.region ?_
 simp only [go_sem]
 repeat' (first | (refine ACall.snapOne (oright_c l (by omega)) (by kernel_rfl) rfl (.cons (.one (.mu' rfl (by simp) (cl_od l))) .nil) ?_; simp only [go_sem]) | fail)
 refine hK4 _ ?_; clear hK4 K4
 refine AWP.cond rfl (fun c11 => ?_) (fun c11 => ?_)
 · first | (
     try simp only [dD] at c11
     refine AWP.seqk fun K5 hK5 => ?_
     refine AWP.region ?_
     simp only [go_sem]
     repeat' (first | fail)
     refine hK5 _ ?_; clear hK5 K5
     refine AWP.ret ?_
     try simp only [go_sem]
     clear hK3 K3
     first
     | exact ⟨[], .tup [.any, .v _], rfl, ⟨trivial, rfl, trivial⟩, res_err (close_e1 (by assumption)) (by decide), rfl⟩
     | fail)
 · first | (
     try simp only [dD] at c11
     refine AWP.skip ?_
     refine hK3 _ ?_; clear hK3 K3
     refine AWP.seqk fun K6 hK6 => ?_
     refine AWP.region ?_
     simp only [go_sem]
     repeat' (first | (refine ACall.snapOne (oopen_c l _ (by omega)) (by kernel_rfl) rfl (.cons (.one (.mu' rfl (by simp) (cl_od l))) (.cons (.one (.clean rfl)) .nil)) ?_; simp only [go_sem]) | fail)
     refine hK6 _ ?_; clear hK6 K6
     refine AWP.seqk fun K7 hK7 => ?_
     refine AWP.seqk fun K8 hK8 => ?_
     refine AWP.region ?_
     simp only [go_sem]
     repeat' (first | fail)
     refine hK8 _ ?_; clear hK8 K8
     refine AWP.cond rfl (fun c17 => ?_) (fun c17 => ?_)
     · first | (
         try simp only [dD] at c17
         refine AWP.seqk fun K9 hK9 => ?_
         refine AWP.region ?_
         simp only [go_sem]
         repeat' (first | fail)
         refine hK9 _ ?_; clear hK9 K9
         refine AWP.ret ?_
         try simp only [go_sem]
         clear hK7 K7
         first
         | exact ⟨[], .tup [.any, .v _], rfl, ⟨trivial, rfl, trivial⟩, res_err (close_e6 (by assumption) (open_none (by assumption))) (by decide), rfl⟩
         | fail)
     · first | (
         try simp only [dD] at c17
         refine AWP.skip ?_
         refine hK7 _ ?_; clear hK7 K7
         refine AWP.seqk fun K10 hK10 => ?_
         obtain ⟨n, o, e, e2, hb, ho⟩ : ∃ n o, openI l id = (n : Nat) ∧ openF l id = some n ∧ l[n]? = some o ∧ o.opn = true := by
           rcases open_cases l id with ⟨e, e2⟩ | h
           · exact absurd (show openI l id < 0 by omega) (by assumption)
           · exact h
         simp only [e]
         have hn : n < l.length := get_lt hb
         have hg := od_get hb (spare 8 m)
         refine AWP.region ?_
         simp only [go_sem, hg]
         repeat' (first | ((first | with_reducible refine And.intro ?_ ?_); (focus ((first | omega | fail))); (try simp only [hb, go_sem, hg])))
         refine hK10 _ ?_; clear hK10 K10
         refine AWP.seqk fun K11 hK11 => ?_
         refine AWP.publishN 0 0 8 l.length _ ((l.set n ⟨o.id, o.acc, o.sym, o.buy, o.qty, o.price, o.done, false⟩).map odV) (spare 8 m) rfl (congrArg (fun x => some (some x)) (od_set (o' := ⟨o.id, o.acc, o.sym, o.buy, o.qty, o.price, o.done, false⟩) hb (spare 8 m))) (by simp) (cl_od _) ?_
         simp only [go_sem]
         refine AWP.region ?_
         simp only [go_sem]
         repeat' (first | fail)
         refine hK11 _ ?_; clear hK11 K11
         refine AWP.ret ?_
         try simp only [go_sem]
         first
         | exact ⟨[], .tup [.sl none 8 _, .v _], rfl, ⟨⟨rfl, rfl⟩, rfl, trivial⟩, res_ok (close_ok (by assumption) e2 hb), rfl⟩
         | fail))
set_option maxHeartbeats 4000000 in
set_option maxRecDepth 8000 in
theorem ofill_c (l : List Od) (id : Bs) (q p : Int) (hq : q ≤ 4611686018427387904) (hl : l.length ≤ 1000000) : ACalls E 236 [odsV l, str id, i64 q, i64 p] (fun r t => (∃ x, r = .tup [x, i64 (fillO l id q p).2] ∧ ((fillO l id q p).2 = 0 → x = odsV (fillO l id q p).1)) ∧ t = []) := by
 refine ACalls.of_awp (n := 68) (rs := [.tmp 8, .tmp 9]) Tryz.func236 rfl Tryz.ntmps236 rfl ?_
 refine AWP.seqk fun K1 hK1 => ?_
 refine AWP.region ?_
 simp only [go_sem]
 repeat' (first | fail)
 refine hK1 _ ?_; clear hK1 K1
 refine AWP.seqk fun K2 hK2 => ?_
 refine AWP.region ?_
 simp only [go_sem]
 repeat' (first | (refine ACall.take (oclone_c l hl) (by kernel_rfl) rfl (.cons (.one (.clean rfl)) .nil) ?_; rintro r t ⟨rfl, rfl⟩; refine ⟨0, 8, _, rfl, by simp, pl_od _, fun m => ?_⟩; simp only [go_sem, List.length_map]) | fail)
 refine hK2 _ ?_; clear hK2 K2
 refine AWP.seqk fun K3 hK3 => ?_
 refine AWP.seqk fun K4 hK4 => ?_
 refine AWP.region ?_
 simp only [go_sem]
 repeat' (first | (refine ACall.snapOne (oright_c l (by omega)) (by kernel_rfl) rfl (.cons (.one (.mu' rfl (by simp) (cl_od l))) .nil) ?_; simp only [go_sem]) | fail)
 refine hK4 _ ?_; clear hK4 K4
 refine AWP.cond rfl (fun c15 => ?_) (fun c15 => ?_)
 · first | (
     try simp only [dD] at c15
     refine AWP.seqk fun K5 hK5 => ?_
     refine AWP.region ?_
     simp only [go_sem]
     repeat' (first | fail)
     refine hK5 _ ?_; clear hK5 K5
     refine AWP.ret ?_
     try simp only [go_sem]
     clear hK3 K3
     first
     | exact ⟨[], .tup [.any, .v _], rfl, ⟨trivial, rfl, trivial⟩, res_err (fill_e1 (by assumption)) (by decide), rfl⟩
     | fail)
 · first | (
     try simp only [dD] at c15
     refine AWP.skip ?_
     refine hK3 _ ?_; clear hK3 K3
     refine AWP.seqk fun K6 hK6 => ?_
     refine AWP.region ?_
     simp only [go_sem]
     repeat' (first | (refine ACall.snapOne (oopen_c l _ (by omega)) (by kernel_rfl) rfl (.cons (.one (.mu' rfl (by simp) (cl_od l))) (.cons (.one (.clean rfl)) .nil)) ?_; simp only [go_sem]) | fail)
     refine hK6 _ ?_; clear hK6 K6
     refine AWP.seqk fun K7 hK7 => ?_
     refine AWP.seqk fun K8 hK8 => ?_
     refine AWP.region ?_
     simp only [go_sem]
     repeat' (first | fail)
     refine hK8 _ ?_; clear hK8 K8
     refine AWP.cond rfl (fun c21 => ?_) (fun c21 => ?_)
     · first | (
         try simp only [dD] at c21
         refine AWP.seqk fun K9 hK9 => ?_
         refine AWP.region ?_
         simp only [go_sem]
         repeat' (first | fail)
         refine hK9 _ ?_; clear hK9 K9
         refine AWP.ret ?_
         try simp only [go_sem]
         clear hK7 K7
         first
         | exact ⟨[], .tup [.any, .v _], rfl, ⟨trivial, rfl, trivial⟩, res_err (fill_e6 (by assumption) (open_none (by assumption))) (by decide), rfl⟩
         | fail)
     · first | (
         try simp only [dD] at c21
         refine AWP.skip ?_
         refine hK7 _ ?_; clear hK7 K7
         refine AWP.seqk fun K10 hK10 => ?_
         refine AWP.seqk fun K11 hK11 => ?_
         obtain ⟨n, o, e, e2, hb, ho⟩ : ∃ n o, openI l id = (n : Nat) ∧ openF l id = some n ∧ l[n]? = some o ∧ o.opn = true := by
           rcases open_cases l id with ⟨e, e2⟩ | h
           · exact absurd (show openI l id < 0 by omega) (by assumption)
           · exact h
         simp only [e]
         have hn : n < l.length := get_lt hb
         have hg := od_get hb (spare 8 m)
         refine AWP.region ?_
         simp only [go_sem, hg]
         repeat' (first | (refine ACall.one (oleft_c _) (by kernel_rfl) rfl ?_; simp only [go_sem, hg]) | (refine AGuard.splitN (fun h => ?_) (fun h => ?_) <;> simp only [h, go_sem, hg] <;> try simp only [dD] at h) | ((first | with_reducible refine And.intro ?_ ?_); (focus ((first | omega | fail))); (try simp only [hb, go_sem, hg])))
         all_goals (
           refine hK11 _ ?_; clear hK11 K11
           refine AWP.cond rfl (fun c33 => ?_) (fun c33 => ?_)
           · first | (
               try simp only [dD] at c33
               refine AWP.seqk fun K12 hK12 => ?_
               refine AWP.region ?_
               simp only [go_sem]
               repeat' (first | fail)
               refine hK12 _ ?_; clear hK12 K12
               refine AWP.ret ?_
               try simp only [go_sem]
               clear hK10 K10
               first
               | exact ⟨[], .tup [.any, .v _], rfl, ⟨trivial, rfl, trivial⟩, res_err (fill_e1' (by assumption) e2 hb (.inl (by assumption))) (by decide), rfl⟩
               | exact ⟨[], .tup [.any, .v _], rfl, ⟨trivial, rfl, trivial⟩, res_err (fill_e1' (by assumption) e2 hb (.inr (by assumption))) (by decide), rfl⟩
               | fail)
           · first | exact Bool.noConfusion c33 | (
               try simp only [dD] at c33
               refine AWP.skip ?_
               refine hK10 _ ?_; clear hK10 K10
               refine AWP.seqk fun K13 hK13 => ?_
               refine AWP.seqk fun K14 hK14 => ?_
               refine AWP.region ?_
               simp only [go_sem, hg]
               repeat' (first | (refine ACall.one (ofair_c _ _) (by kernel_rfl) rfl ?_; simp only [go_sem, hg]) | ((first | with_reducible refine And.intro ?_ ?_); (focus ((first | omega | fail))); (try simp only [hb, go_sem, hg])))
               refine hK14 _ ?_; clear hK14 K14
               refine AWP.cond rfl (fun c41 => ?_) (fun c41 => ?_)
               · first | (
                   try simp only [dD] at c41
                   refine AWP.seqk fun K15 hK15 => ?_
                   refine AWP.region ?_
                   simp only [go_sem]
                   repeat' (first | fail)
                   refine hK15 _ ?_; clear hK15 K15
                   refine AWP.ret ?_
                   try simp only [go_sem]
                   clear hK13 K13
                   first
                   | exact ⟨[], .tup [.any, .v _], rfl, ⟨trivial, rfl, trivial⟩, res_err (fill_e9 (by assumption) e2 hb (by assumption) (by assumption) (by assumption)) (by decide), rfl⟩
                   | fail)
               · first | (
                   try simp only [dD] at c41
                   refine AWP.skip ?_
                   refine hK13 _ ?_; clear hK13 K13
                   refine AWP.seqk fun K16 hK16 => ?_
                   have hroom := fill_room (right_at (by assumption) hb) (by assumption) (by assumption)
                   have hw : IntKind.i64.wrap (o.done + q) = o.done + q := wrap64_id (by omega) (by omega)
                   refine AWP.region ?_
                   simp only [go_sem, hg]
                   repeat' (first | ((first | with_reducible refine And.intro ?_ ?_); (focus ((first | omega | fail))); (try simp only [hb, go_sem, hg])))
                   refine hK16 _ ?_; clear hK16 K16
                   refine AWP.seqk fun K17 hK17 => ?_
                   rw [hw]
                   rw [od_set (o' := ⟨o.id, o.acc, o.sym, o.buy, o.qty, o.price, o.done + q, o.opn⟩) hb (spare 8 m)]
                   have hb2 : (l.set n ⟨o.id, o.acc, o.sym, o.buy, o.qty, o.price, o.done + q, o.opn⟩)[n]? = some ⟨o.id, o.acc, o.sym, o.buy, o.qty, o.price, o.done + q, o.opn⟩ := List.getElem?_set_self hn
                   have hg2 := od_get hb2 (spare 8 m)
                   refine AWP.regionAs [0, 1, 2, 3, 4, 5, 6, 7, 8, 9, 10, 11, 12, 13, 14, 15] [[], [], [], [], [2, 3], [2, 3, 4], [2, 3, 4, 5], [], [], [7, 8], [7, 8, 9], [7, 8, 9, 10], [2, 3, 4, 5, 6, 7, 8, 9, 10, 11], [0, 1, 2, 3, 4, 5, 6, 7, 8, 9, 10, 11, 12], [0, 1, 2, 3, 4, 5, 6, 7, 8, 9, 10, 11, 12, 13], [0, 1, 2, 3, 4, 5, 6, 7, 8, 9, 10, 11, 12, 13, 14]] [] (by kernel_rfl) (by kernel_rfl) (by decide) rfl ?_
                   simp only [go_sem, hg2]
                   repeat' (first | ((first | with_reducible refine And.intro ?_ ?_); (focus ((first | omega | fail))); (try simp only [hb, go_sem, hg2])))
                   refine hK17 _ ?_; clear hK17 K17
                   refine AWP.seqk fun K18 hK18 => ?_
                   refine AWP.publishN 0 0 8 l.length _ (((l.set n ⟨o.id, o.acc, o.sym, o.buy, o.qty, o.price, o.done + q, o.opn⟩).set n ⟨o.id, o.acc, o.sym, o.buy, o.qty, o.price, o.done + q, decide (o.done + q < o.qty)⟩).map odV) (spare 8 m) rfl (congrArg (fun x => some (some x)) (od_set (o' := ⟨o.id, o.acc, o.sym, o.buy, o.qty, o.price, o.done + q, decide (o.done + q < o.qty)⟩) hb2 (spare 8 m))) (by simp) (cl_od _) ?_
                   simp only [go_sem]
                   refine AWP.region ?_
                   simp only [go_sem]
                   repeat' (first | fail)
                   refine hK18 _ ?_; clear hK18 K18
                   refine AWP.ret ?_
                   try simp only [go_sem]
                   first
                   | exact ⟨[], .tup [.sl none 8 _, .v _], rfl, ⟨⟨rfl, by rw [List.set_set]⟩, rfl, trivial⟩, res_ok (fill_ok (by assumption) e2 hb (by assumption) (by assumption) (by assumption)), rfl⟩
                   | fail)))))
end Go.Proofs.YtajeeghgiilhiaaGreat
end
section
namespace Go.Proofs.YtajeeghgiilhiaaGreat
open Go Go.Abs Go.RowKit Go.Bk
theorem od_take {l : List Od} {n : Nat} {o : Od} (sp : List AV) : ((l.set n o).map odV ++ sp).take l.length = (l.set n o).map odV := by
 rw [List.take_left' (by simp)]
set_option maxHeartbeats 4000000 in
set_option maxRecDepth 8000 in
theorem ochange_c (l : List Od) (a b : Bs) (q p : Int) (hl : l.length ≤ 1000000) : ACalls E 237 [odsV l, str a, str b, i64 q, i64 p] (fun r t => (∃ x, r = .tup [x, i64 (changeO l a b q p).2] ∧ ((changeO l a b q p).2 = 0 → x = odsV (changeO l a b q p).1)) ∧ t = []) := by
 refine ACalls.of_awp (n := 66) (rs := [.tmp 10, .tmp 11]) Tryz.func237 rfl Tryz.ntmps237 rfl ?_
 refine AWP.seqk fun K1 hK1 => ?_
 refine AWP.region ?_
 simp only [go_sem]
 repeat' (first | fail)
 refine hK1 _ ?_; clear hK1 K1
 refine AWP.seqk fun K2 hK2 => ?_
 refine AWP.region ?_
 simp only [go_sem]
 repeat' (first | (refine ACall.take (oclone_c l hl) (by kernel_rfl) rfl (.cons (.one (.clean rfl)) .nil) ?_; rintro r t ⟨rfl, rfl⟩; refine ⟨0, 8, _, rfl, by simp, pl_od _, fun m => ?_⟩; simp only [go_sem, List.length_map]) | fail)
 refine hK2 _ ?_; clear hK2 K2
 refine AWP.seqk fun K3 hK3 => ?_
 refine AWP.seqk fun K4 hK4 => ?_
 refine AWP.region ?_
 simp only [go_sem]
 repeat' (first | (refine ACall.snapOne (oright_c l (by omega)) (by kernel_rfl) rfl (.cons (.one (.mu' rfl (by simp) (cl_od l))) .nil) ?_; simp only [go_sem]) | fail)
 refine hK4 _ ?_; clear hK4 K4
 refine AWP.cond rfl (fun c18 => ?_) (fun c18 => ?_)
 · first | (
     try simp only [dD] at c18
     refine AWP.seqk fun K5 hK5 => ?_
     refine AWP.region ?_
     simp only [go_sem]
     repeat' (first | fail)
     refine hK5 _ ?_; clear hK5 K5
     refine AWP.ret ?_
     try simp only [go_sem]
     clear hK3 K3
     first
     | exact ⟨[], .tup [.any, .v _], rfl, ⟨trivial, rfl, trivial⟩, res_err (change_e1 (by assumption)) (by decide), rfl⟩
     | fail)
 · first | (
     try simp only [dD] at c18
     refine AWP.skip ?_
     refine hK3 _ ?_; clear hK3 K3
     refine AWP.seqk fun K6 hK6 => ?_
     refine AWP.region ?_
     simp only [go_sem]
     repeat' (first | (refine ACall.snapOne (oopen_c l _ (by omega)) (by kernel_rfl) rfl (.cons (.one (.mu' rfl (by simp) (cl_od l))) (.cons (.one (.clean rfl)) .nil)) ?_; simp only [go_sem]) | fail)
     refine hK6 _ ?_; clear hK6 K6
     refine AWP.seqk fun K7 hK7 => ?_
     refine AWP.seqk fun K8 hK8 => ?_
     refine AWP.region ?_
     simp only [go_sem]
     repeat' (first | fail)
     refine hK8 _ ?_; clear hK8 K8
     refine AWP.cond rfl (fun c24 => ?_) (fun c24 => ?_)
     · first | (
         try simp only [dD] at c24
         refine AWP.seqk fun K9 hK9 => ?_
         refine AWP.region ?_
         simp only [go_sem]
         repeat' (first | fail)
         refine hK9 _ ?_; clear hK9 K9
         refine AWP.ret ?_
         try simp only [go_sem]
         clear hK7 K7
         first
         | exact ⟨[], .tup [.any, .v _], rfl, ⟨trivial, rfl, trivial⟩, res_err (change_e6 (by assumption) (open_none (by assumption))) (by decide), rfl⟩
         | fail)
     · first | (
         try simp only [dD] at c24
         refine AWP.skip ?_
         refine hK7 _ ?_; clear hK7 K7
         refine AWP.seqk fun K10 hK10 => ?_
         obtain ⟨n, o, e, e2, hb, ho⟩ : ∃ n o, openI l a = (n : Nat) ∧ openF l a = some n ∧ l[n]? = some o ∧ o.opn = true := by
           rcases open_cases l a with ⟨e, e2⟩ | h
           · exact absurd (show openI l a < 0 by omega) (by assumption)
           · exact h
         simp only [e]
         have hn : n < l.length := get_lt hb
         have hg := od_get hb (spare 8 m)
         refine AWP.region ?_
         simp only [go_sem, hg]
         repeat' (first | ((first | with_reducible refine And.intro ?_ ?_); (focus ((first | omega | fail))); (try simp only [hb, go_sem, hg])))
         refine hK10 _ ?_; clear hK10 K10
         refine AWP.seqk fun K11 hK11 => ?_
         refine AWP.region ?_
         simp only [go_sem]
         repeat' (first | fail)
         refine hK11 _ ?_; clear hK11 K11
         refine AWP.seqk fun K12 hK12 => ?_
         refine AWP.region ?_
         simp only [go_sem]
         repeat' (first | fail)
         refine hK12 _ ?_; clear hK12 K12
         refine AWP.seqk fun K13 hK13 => ?_
         refine AWP.block ?_
         refine AWP.seqk fun K14 hK14 => ?_
         refine AWP.region ?_
         simp only [go_sem]
         repeat' (first | (refine ACall.one (omay_c (⟨b, o.acc, o.sym, o.buy, q, p, o.done, decide (o.done < q)⟩ : Od)) (by kernel_rfl) rfl ?_; simp only [go_sem]) | fail)
         refine hK14 _ ?_; clear hK14 K14
         refine AWP.cond rfl (fun c42 => ?_) (fun c42 => ?_)
         · first | (
             try simp only [dD] at c42
             refine AWP.seqk fun K15 hK15 => ?_
             refine AWP.region ?_
             simp only [go_sem]
             repeat' (first | fail)
             refine hK15 _ ?_; clear hK15 K15
             refine AWP.ret ?_
             try simp only [go_sem]
             clear hK13 K13
             first
             | exact ⟨[], .tup [.any, .v _], rfl, ⟨trivial, rfl, trivial⟩, res_err (change_e1' (by assumption) e2 hb (by assumption)) (by decide), rfl⟩
             | fail)
         · first | (
             try simp only [dD] at c42
             refine AWP.seqk fun K16 hK16 => ?_
             refine AWP.region ?_
             simp only [go_sem]
             repeat' (first | (refine ACall.snapOne (oplace_c l _ (by omega)) (by kernel_rfl) rfl (.cons (.one (.mu' rfl (by simp) (cl_od l))) (.cons (.one (.clean rfl)) .nil)) ?_; simp only [go_sem]) | fail)
             refine hK16 _ ?_; clear hK16 K16
             refine AWP.cond rfl (fun c47 => ?_) (fun c47 => ?_)
             · first | (
                 try simp only [dD] at c47
                 refine AWP.seqk fun K17 hK17 => ?_
                 refine AWP.region ?_
                 simp only [go_sem]
                 repeat' (first | fail)
                 refine hK17 _ ?_; clear hK17 K17
                 refine AWP.ret ?_
                 try simp only [go_sem]
                 clear hK13 K13
                 first
                 | exact ⟨[], .tup [.any, .v _], rfl, ⟨trivial, rfl, trivial⟩, res_err (change_e7 (by assumption) e2 hb (by assumption) (by assumption)) (by decide), rfl⟩
                 | fail)
             · first | (
                 try simp only [dD] at c47
                 refine AWP.seqk fun K18 hK18 => ?_
                 refine AWP.region ?_
                 simp only [go_sem]
                 repeat' (first | ((first | with_reducible refine And.intro ?_ ?_); (focus ((first | (simp; done) | fail))); (try simp only [hb, go_sem])))
                 refine hK18 _ ?_; clear hK18 K18
                 refine AWP.cond rfl (fun c53 => ?_) (fun c53 => ?_)
                 · first | (
                     try simp only [dD] at c53
                     refine AWP.seqk fun K19 hK19 => ?_
                     refine AWP.region ?_
                     simp only [go_sem]
                     repeat' (first | fail)
                     refine hK19 _ ?_; clear hK19 K19
                     refine AWP.ret ?_
                     try simp only [go_sem]
                     clear hK13 K13
                     first
                     | exact ⟨[], .tup [.any, .v _], rfl, ⟨trivial, rfl, trivial⟩, res_err (change_e5 (by assumption) e2 hb (by assumption) (by assumption) (by omega)) (by decide), rfl⟩
                     | fail)
                 · first | (
                     try simp only [dD] at c53
                     refine AWP.skip ?_
                     refine hK13 _ ?_; clear hK13 K13
                     refine AWP.seqk fun K20 hK20 => ?_
                     refine AWP.region ?_
                     simp only [go_sem]
                     repeat' (first | (refine AGet.have' (by assumption) ?_; (try simp only [go_sem])) | ((first | with_reducible refine And.intro ?_ ?_); (focus ((first | omega | fail))); (try simp only [hb, go_sem])))
                     refine hK20 _ ?_; clear hK20 K20
                     refine AWP.seqk fun K21 hK21 => ?_
                     have hrl := right_len (l := l) (by assumption)
                     rw [od_set (o' := ⟨o.id, o.acc, o.sym, o.buy, o.qty, o.price, o.done, false⟩) hb (spare 8 m)]
                     refine AWP.region ?_
                     simp only [go_sem]
                     repeat' (first | ((first | with_reducible refine And.intro ?_ ?_); (focus ((first | omega | (simp; done) | (simp [spare_len]; done)))); (try simp only [hb, go_sem])))
                     intro m2
                     simp only [go_sem, od_take]
                     refine hK21 _ ?_; clear hK21 K21
                     refine AWP.publishN 10 2 8 (l.length + 1) _ ((l.set n ⟨o.id, o.acc, o.sym, o.buy, o.qty, o.price, o.done, false⟩ ++ [(⟨b, o.acc, o.sym, o.buy, q, p, o.done, decide (o.done < q)⟩ : Od)]).map odV) (spare 8 m2) rfl (by simp only [List.map_append]; rfl) (by simp) (cl_od _) ?_
                     simp only [go_sem]
                     refine AWP.ret ?_
                     try simp only [go_sem]
                     first
                     | exact ⟨[], .tup [.sl none 8 _, .v _], rfl, ⟨⟨rfl, rfl⟩, rfl, trivial⟩, res_ok (change_ok (by assumption) e2 hb (by assumption) (by assumption) (by omega)), rfl⟩
                     | fail)))))
end Go.Proofs.YtajeeghgiilhiaaGreat
end
