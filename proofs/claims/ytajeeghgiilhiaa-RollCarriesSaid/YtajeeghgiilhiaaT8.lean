import Derived.Test.YtajeeghgiilhiaaT7
import Derived.Test.YtajeeghgiilhiaaT5
import Derived.Test.YtajeeghgiilhiaaQ22
import Derived.Test.YtajeeghgiilhiaaQ19
set_option linter.unusedVariables false
set_option linter.unusedSimpArgs false
namespace Go.Proofs.Ytajeeghgiilhiaa
open Go Go.Abs Go.RowKit Go.Bk
theorem bel_nmsE {no nt m : Nat} {l : List Nm} : ∀ es, some (l.map nmV ++ spare 2 m) = some es → ∀ e ∈ es, ∀ z ∈ e.leaves, z.bel no nt = true := bel_row fun x z hz => by
  simp only [AV.leaves, List.mem_cons, List.not_mem_nil, or_false] at hz
  rcases hz with rfl | rfl <;> rfl
theorem nm_take {l : List Nm} {m : Nat} : (l.map nmV ++ spare 2 m).take l.length = l.map nmV := List.take_left' (by simp)
theorem nm_snoc {l : List Nm} {a s : Bs} : l.map nmV ++ [.agg [str a, str s]] = (l ++ [(a, s)]).map nmV := by simp
@[go_sem] theorem ren_nms {σ : Nat → Option Nat} {l : List Nm} {m : Nat} : (l.map nmV ++ spare 2 m).map (AV.ren σ) = l.map nmV ++ spare 2 m := ren_row fun _ => rfl

set_option maxHeartbeats 16000000 in
set_option maxRecDepth 8000 in
theorem lall_c (bk : Bk) (ho : bk.orders.length ≤ 9223372036854775807) (hf : bk.fills.length ≤ 1000000) (hi : bk.ids.length ≤ 9223372036854775807) : ACalls E 16 [bkV bk] (fun r t => r = posV (allP bk) ∧ t = []) := by -- checkroll/ledger.All
  have hnlen : (nmsB bk).length = bk.fills.length := List.length_map _
  have hcl := cmpct_len (srtN (nmsB bk))
  rw [srtN_len] at hcl
  refine ACalls.of_awp (n := 48) (rs := [.tmp 2]) Try.func16 rfl Try.ntmps16 rfl ?_
  repeat' (first
    | refine AWP.seqk fun K hK => ?_
    | (
        refine AWP.here 6 17 4 rfl ?_
        obtain ⟨f, hb⟩ : ∃ f, bk.fills[i]? = some f := ⟨_, List.getElem?_eq_getElem (by omega)⟩
        refine AWP.region ?_; simp only [go_sem])
    | (
        refine AWP.here 8 27 2 rfl ?_
        rw [nm_take, nm_snoc]
        refine AWP.renum [0, 3] (by decide) rfl rfl ?_
        simp only [go_sem]
        refine AWP.region ?_; simp only [go_sem])
    | (
        refine AWP.here 13 35 4 rfl ?_
        obtain ⟨n, hn⟩ : ∃ n, (cmpct (srtN (nmsB bk)))[j]? = some n := ⟨_, List.getElem?_eq_getElem (by omega)⟩
        have f1 := nm_get (m := m') hn
        refine AWP.region ?_; simp only [go_sem, f1, Int.toNat_natCast])
    | (
        refine AWP.here 9 28 2 rfl ?_
        have hnl : nl = nmsB bk := by rw [h4, List.take_of_length_le (by omega)]; rfl
        rw [hnl]
        refine AWP.regionL ?_
        refine AWPL.at 2 1 rfl ?_
        simp only [go_sem]
        (repeat (refine ⟨⟨_, rfl⟩, ?_⟩))
        refine srtF_call (id := 1) (l := nmsB bk) (by rfl) (by rfl) (by omega) ?_
        simp only [go_sem]
        refine AWPL.of ?_
        simp only [go_sem])
    | (
        refine AWP.here 11 30 4 rfl ?_
        refine AWP.regionL ?_
        refine AWPL.at 4 1 rfl ?_
        simp only [go_sem]
        refine cpt_call (id := 1) (m := m) (N := (nmsB bk).length) (l := srtN (nmsB bk)) (by rfl) (by rfl) (by first | rfl | (simp [AV.bel, AV.bel2, AV.bel1]; done)) (by (repeat' (first | exact OwnBel.nil | refine OwnBel.cons ?_ ?_)) <;> (intro es h; first | (cases h; exact bel_nms) | (cases h; simp [AV.leaves, AV.bel, AV.bel2, AV.bel1]))) (by omega) (srtN_len _) ?_
        intro m'
        simp only [go_sem]
        refine AWPL.of ?_
        simp only [go_sem]
        (repeat (refine ⟨⟨_, rfl⟩, ?_⟩)))
    | (refine AWP.region ?_; simp only [go_sem])
    | (refine hK _ ?_; clear hK K)
    | refine AWP.block ?_
    | refine AWP.cond rfl (fun c => ?_) (fun c => ?_) <;> first | exact Bool.noConfusion c | (try simp only [dD] at c)
    | refine AWP.skip ?_
    | (refine AWP.exit ?_; simp only [go_sem])
    | (refine ACall.one (bright_c bk ho (by omega) hi) (by kernel_rfl) rfl ?_; simp only [go_sem])
    | (refine ACall.one (lof_c bk n.1 n.2 ho (by omega) hi) (by kernel_rfl) rfl ?_; simp only [go_sem])
    | (refine AGet.haveM (by assumption) ?_; (try simp only [go_sem]))
    | (refine AGet.have' (by assumption) ?_; (try simp only [go_sem]))
    | ((first | refine AGet.nth ?_ (fun b hb => ?_) | refine AGet.nth1 ?_ (fun b hb => ?_) | with_reducible refine And.intro ?_ ?_); (focus (first | omega | assumption | exact List.length_pos_iff.2 (by assumption) | (simp only [List.length_append, List.length_cons, List.length_nil, List.length_map, List.length_take, List.length_drop] at *; omega) | (rw [wrap64_id (by omega) (by omega)]; omega) | (simp; done) | (simp [spare_len]; done) | (exact ⟨by omega, by omega⟩))); (try simp only [hb, go_sem]))
    | (
        refine AWP.here 5 16 1 rfl ?_
        refine AWP.nilMu 3 2 rfl ?_
        simp only [go_sem]
        refine AWP.loopM (ι := Nat × List Nm × Nat) [5, 16, 17, 18, 19, 20, 21, 22, 23, 24, 25, 26, 27] (fun ⟨i, nl, m⟩ => [(15, i64 i), (3, .mu 1 2 0 nl.length (nl.length + m))]) (fun ⟨i, nl, m⟩ => [some [.agg [odsV bk.orders, dnsV bk.fills, .sl none 1 (bk.ids.map str), i64 bk.clock, i64 bk.bad]], some (nl.map nmV ++ spare 2 m)]) (fun ⟨i, nl, m⟩ => []) (fun ⟨i, nl, m⟩ => i ≤ bk.fills.length ∧ nl = (bk.fills.take i).map fun f => (f.acc, f.sym)) (fun ⟨i, nl, m⟩ => bk.fills.length - i) ((0, [], 0)) ?_ ?_ ?_
        · (try simp only [go_sem]); (repeat' (first | exact .inr bel_nmsE | exact .inr ⟨rfl, bel_nmsE⟩ | exact .inr ⟨by simp, bel_nmsE⟩ | refine And.intro ?_ ?_ | exact .inl rfl | exact .inr rfl | exact .inr ⟨rfl, rfl⟩ | trivial | exact .inr (oblA rfl) | exact .inr ⟨rfl, oblA rfl⟩ | exact .inr bel_strs | exact .inr ⟨rfl, bel_strs⟩ | exact .inr ⟨by simp, bel_strs⟩ | (simp; done) | exact .inr ⟨rfl, by simp⟩ | exact .inr ⟨by simp, by simp⟩)); done
        · exact ⟨by omega, rfl⟩
        rintro ⟨i, nl, m⟩ ⟨h3, h4⟩
        simp only [go_sem]
        have hll : nl.length = i := by rw [h4, List.length_map, List.length_take]; omega)
    | (
        refine AWP.here 12 34 1 rfl ?_
        refine AWP.nilTok 6 5 rfl ?_
        simp only [go_sem]
        refine AWP.loopM (ι := Nat × List Po) [8, 34, 35, 36, 37, 38, 39, 40, 41, 42, 43, 44, 45, 46] (fun ⟨j, out⟩ => [(33, i64 j), (6, .sl (some 0) 5 (out.map poV))]) (fun ⟨j, out⟩ => [some [.agg [odsV bk.orders, dnsV bk.fills, .sl none 1 (bk.ids.map str), i64 bk.clock, i64 bk.bad]], some ((cmpct (srtN (nmsB bk))).map nmV ++ spare 2 m')]) (fun ⟨j, out⟩ => [out.length]) (fun ⟨j, out⟩ => j ≤ (cmpct (srtN (nmsB bk))).length ∧ out = ((cmpct (srtN (nmsB bk))).take j).map fun n => posF bk n.1 n.2) (fun ⟨j, out⟩ => (cmpct (srtN (nmsB bk))).length - j) ((0, [])) ?_ ?_ ?_
        · (try simp only [go_sem]); (repeat' (first | exact .inr bel_nmsE | exact .inr ⟨rfl, bel_nmsE⟩ | exact .inr ⟨by simp, bel_nmsE⟩ | refine And.intro ?_ ?_ | exact .inl rfl | exact .inr rfl | exact .inr ⟨rfl, rfl⟩ | trivial | exact .inr (oblA rfl) | exact .inr ⟨rfl, oblA rfl⟩ | exact .inr bel_strs | exact .inr ⟨rfl, bel_strs⟩ | exact .inr ⟨by simp, bel_strs⟩ | (simp; done) | exact .inr ⟨rfl, by simp⟩ | exact .inr ⟨by simp, by simp⟩)); done
        · exact ⟨by omega, rfl⟩
        rintro ⟨j, out⟩ ⟨g1, g2⟩
        simp only [go_sem]
        have hol : out.length = j := by rw [g2, List.length_map, List.length_take]; omega)
    | (
        refine ⟨(i + 1, nl ++ [(f.acc, f.sym)], mm), ?_, ⟨by show i + 1 ≤ _; omega, by show nl ++ [(f.acc, f.sym)] = (bk.fills.take (i + 1)).map _; rw [h4, take_next hb]; simp⟩, by show bk.fills.length - (i + 1) < bk.fills.length - i; omega⟩
        (try simp only [go_sem]); (try rw [wrap64_id (by omega) (by omega)]); (try simp only [List.length_append, List.length_singleton]); (repeat' (first | exact .inr bel_nmsE | exact .inr ⟨rfl, bel_nmsE⟩ | exact .inr ⟨by simp, bel_nmsE⟩ | refine And.intro ?_ ?_ | exact .inl rfl | exact .inr rfl | exact .inr ⟨rfl, rfl⟩ | trivial | exact .inr (oblA rfl) | exact .inr ⟨rfl, oblA rfl⟩ | exact .inr bel_strs | exact .inr ⟨rfl, bel_strs⟩ | exact .inr ⟨by simp, bel_strs⟩ | (simp; done) | exact .inr ⟨rfl, by simp⟩ | exact .inr ⟨by simp, by simp⟩)); done)
    | (
        refine ⟨(j + 1, out ++ [posF bk n.1 n.2]), ?_, ⟨by show j + 1 ≤ _; omega, by show out ++ [posF bk n.1 n.2] = (List.take (j + 1) _).map _; rw [g2, take_next hn]; simp⟩, by show _ - (j + 1) < _ - j; omega⟩
        (try simp only [go_sem]); (try rw [wrap64_id (by omega) (by omega)]); (try simp only [List.map_append, List.map_cons, List.map_nil, List.length_append, List.length_singleton]); (repeat' (first | exact .inr bel_nmsE | exact .inr ⟨rfl, bel_nmsE⟩ | exact .inr ⟨by simp, bel_nmsE⟩ | refine And.intro ?_ ?_ | exact .inl rfl | exact .inr rfl | exact .inr ⟨rfl, rfl⟩ | trivial | exact .inr (oblA rfl) | exact .inr ⟨rfl, oblA rfl⟩ | exact .inr bel_strs | exact .inr ⟨rfl, bel_strs⟩ | exact .inr ⟨by simp, bel_strs⟩ | (simp; done) | exact .inr ⟨rfl, by simp⟩ | exact .inr ⟨by simp, by simp⟩)); done)
    | (
        refine AWP.ret ?_
        refine AEnd.is ?_; simp only [go_sem, out_v, out_s, out_n, v_int, v_bool, v_str] <;> (first | (unfold allP; rw [if_neg (by simp_all)]; first | exact trivial | (simp; done)) | (unfold allP; rw [if_pos (by assumption), g2, List.take_of_length_le (by omega)]; done) | skip))
    | (refine fun (mm : Nat) => ?_; simp only [go_sem])
    | refine AWP.fin (by assumption) ?_
    | fail)


end Go.Proofs.Ytajeeghgiilhiaa
