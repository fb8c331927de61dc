import Derived.Test.YtlhdnenlgceeeaaQ24
import Derived.Test.YtlhdnenlgceeeaaQ4
set_option linter.unusedVariables false
set_option linter.unusedSimpArgs false
namespace Go.Proofs.Ytlhdnenlgceeeaa
open Go Go.Abs Go.RowKit Go.Bk
theorem inb_ret {id : Nat} {Q : Exit → St → Prop} {s : St} : AInBlock id Q .ret s = Q .ret s := rfl
theorem athen_ret {n : St → Prop} {Q : Exit → St → Prop} {s : St} : AThen n Q .ret s = Q .ret s := rfl
theorem two_eq {l : List (Bs × Bs)} {p : Bs × Bs} (hl : l.length = 2) (h : ∀ x ∈ l, x = p) : l = [p, p] := by
  match l, hl with
  | [a, b], _ => rw [h a (by simp), h b (by simp)]
theorem cl_nm (l : List (Bs × Bs)) : ∀ e ∈ l.map nmV, ∀ x ∈ e.leaves, x.clean1 = some x := by
  intro e he x hx
  obtain ⟨o, _, rfl⟩ := List.mem_map.1 he
  simp only [AV.leaves, List.mem_cons, List.not_mem_nil, or_false] at hx
  rcases hx with rfl | rfl <;> rfl
theorem nm_take {l : List (Bs × Bs)} {m : Nat} : (l.map nmV ++ spare 2 m).take l.length = l.map nmV := List.take_left' (by simp)
theorem nm_snoc {l : List (Bs × Bs)} {a s : Bs} : l.map nmV ++ [.agg [str a, str s]] = (l ++ [(a, s)]).map nmV := by simp
theorem bel_nms {no nt m : Nat} {l : List (Bs × Bs)} : ∀ es, some (l.map nmV ++ spare 2 m) = some es → ∀ e ∈ es, ∀ z ∈ e.leaves, z.bel no nt = true := bel_row fun x z hz => by
  simp only [AV.leaves, List.mem_cons, List.not_mem_nil, or_false] at hz
  rcases hz with rfl | rfl <;> rfl
@[go_sem] theorem ren_nms {σ : Nat → Option Nat} {l : List (Bs × Bs)} {m : Nat} : (l.map nmV ++ spare 2 m).map (AV.ren σ) = l.map nmV ++ spare 2 m := ren_row fun _ => rfl

set_option maxHeartbeats 8000000 in
set_option maxRecDepth 8000 in
theorem lall_c (bk : Bk) (p : Bs × Bs) (hr : rightBk bk = true) (h2 : bk.fills.length = 2) (ha : ∀ f ∈ bk.fills, (f.acc, f.sym) = p) (ho : bk.orders.length ≤ 9223372036854775807) (hi : bk.ids.length ≤ 9223372036854775807) : ACalls E 66 [bkV bk] (fun r t => r = .sl none 5 [poV (posF bk p.1 p.2)] ∧ t = []) := by -- checkroll/ledger.All
  have hwz : IntKind.i64.wrap 0 = 0 := by decide
  have hwo : IntKind.i64.wrap 1 = 1 := by decide
  refine ACalls.of_awp (n := 48) (rs := [.tmp 2]) Try.func66 rfl Try.ntmps66 rfl ?_
  repeat' (first
    | refine AWP.seqk fun K hK => ?_
    | (
        refine AWP.here 6 17 4 rfl ?_
        obtain ⟨f, hb⟩ : ∃ f, bk.fills[i]? = some f := ⟨_, List.getElem?_eq_getElem (by omega)⟩
        refine AWP.region ?_; simp only [go_sem, hwz, Int.toNat_zero, List.length_cons, List.length_nil, Nat.zero_add, List.map_cons, List.map_nil, List.cons_append, List.nil_append, List.getElem?_cons_zero, List.getElem?_cons_succ])
    | (
        refine AWP.here 8 27 2 rfl ?_
        rw [nm_take, nm_snoc]
        refine AWP.renum [0, 3] (by decide) rfl rfl ?_
        simp only [go_sem, hwz, Int.toNat_zero, List.length_cons, List.length_nil, Nat.zero_add, List.map_cons, List.map_nil, List.cons_append, List.nil_append, List.getElem?_cons_zero, List.getElem?_cons_succ]
        refine AWP.region ?_; simp only [go_sem, hwz, Int.toNat_zero, List.length_cons, List.length_nil, Nat.zero_add, List.map_cons, List.map_nil, List.cons_append, List.nil_append, List.getElem?_cons_zero, List.getElem?_cons_succ])
    | (
        refine AWP.here 9 28 2 rfl ?_
        have hi2 : i = 2 := by omega
        have hnl : nl.length = 2 := by omega
        have hna : ∀ x ∈ nl, x = p := by
          rw [h4]; intro x hx; obtain ⟨f, hf, rfl⟩ := List.mem_map.1 hx; exact ha f (List.mem_of_mem_take hf)
        have hnl2 := two_eq hnl hna
        subst hnl2
        refine AWP.region ?_; simp only [go_sem, hwz, Int.toNat_zero, List.length_cons, List.length_nil, Nat.zero_add, List.map_cons, List.map_nil, List.cons_append, List.nil_append, List.getElem?_cons_zero, List.getElem?_cons_succ])
    | (
        refine AWP.here 13 35 4 rfl ?_
        have hj0 : j = 0 := by omega
        subst hj0
        have hr0 : (nmV p :: spare 2 ((spare 2 m).length + 1))[0]? = some (nmV p) := rfl
        refine AWP.region ?_; simp only [go_sem, hwz, Int.toNat_zero, List.length_cons, List.length_nil, Nat.zero_add, List.map_cons, List.map_nil, List.cons_append, List.nil_append, List.getElem?_cons_zero, List.getElem?_cons_succ, Int.natCast_zero, Int.toNat_zero])
    | (
        refine AWP.here 6 16 10 rfl ?_
        have hw0 : IntKind.i64.wrap (((1 : Nat) : Int) - 1) = 0 := by decide
        have hw1 : IntKind.i64.wrap ((1 : Int) - 1) = 0 := by decide
        have hr0 : (nmV p :: nmV p :: spare 2 m)[0]? = some (nmV p) := rfl
        have hr1 : (nmV p :: nmV p :: spare 2 m)[1]? = some (nmV p) := rfl
        refine AWP.regionO [0, 1, 2, 3, 4, 5, 6, 7, 8, 9] [] (by kernel_rfl) (by kernel_rfl) rfl ?_; simp only [go_sem, hw0, hw1])
    | (
        refine AWP.here 7 26 4 rfl ?_
        refine AWP.regionL ?_
        refine AWPL.at 4 2 rfl ?_
        simp only [go_sem]
        refine AWPL.sliceMu (e := 104) (k := 2) (l := 1) (by kernel_rfl) (by kernel_rfl) rfl rfl (by omega) (by omega) (by omega) ?_
        simp only [go_sem]
        refine AWPL.of ?_
        simp only [go_sem])
    | (
        refine AWP.here 14 54 4 rfl ?_
        refine AWP.regionL ?_
        refine AWPL.at 4 2 rfl ?_
        simp only [go_sem]
        refine AWPL.sliceMu (e := 104) (k := 2) (l := 1) (by kernel_rfl) (by kernel_rfl) rfl rfl (by omega) (by omega) (by omega) ?_
        simp only [go_sem]
        refine AWPL.clearMu (A := [nmV p]) (B := [nmV p] ++ spare 2 m) (len := 0) ap102 (by kernel_rfl) rfl rfl (by simp) ?_
        simp only [go_sem]
        refine AWPL.of ?_
        simp only [go_sem])
    | (refine AWP.here 11 30 4 rfl ?_; refine AWP.regionL ?_; refine AWPL.at 4 1 rfl ?_; simp only [go_sem, hwz, Int.toNat_zero, List.length_cons, List.length_nil, Nat.zero_add, List.map_cons, List.map_nil, List.cons_append, List.nil_append, List.getElem?_cons_zero, List.getElem?_cons_succ])
    | (refine AWP.region ?_; simp only [go_sem, hwz, Int.toNat_zero, List.length_cons, List.length_nil, Nat.zero_add, List.map_cons, List.map_nil, List.cons_append, List.nil_append, List.getElem?_cons_zero, List.getElem?_cons_succ])
    | (refine AWP.here 6 16 10 rfl ?_; refine AWP.regionO [0, 1, 2, 3, 4, 5, 6, 7, 8, 9] [] (by kernel_rfl) (by kernel_rfl) rfl ?_; simp only [go_sem])
    | (refine AWP.here 11 35 10 rfl ?_; refine AWP.regionO [0, 1, 2, 3, 4, 5, 6, 7, 8, 9] [] (by kernel_rfl) (by kernel_rfl) rfl ?_; simp only [go_sem])
    | (refine hK _ ?_; clear hK K)
    | refine AWP.block ?_
    | refine AWP.cond rfl (fun c => ?_) (fun c => ?_) <;> first | exact Bool.noConfusion c | (try simp only [dD] at c)
    | refine AWP.skip ?_
    | (refine AWP.exit ?_; simp only [go_sem, hwz, Int.toNat_zero, List.length_cons, List.length_nil, Nat.zero_add, List.map_cons, List.map_nil, List.cons_append, List.nil_append, List.getElem?_cons_zero, List.getElem?_cons_succ])
    | (refine ACall.one (bright_c bk ho (by omega) hi) (by kernel_rfl) rfl ?_; simp only [go_sem, hwz, Int.toNat_zero, List.length_cons, List.length_nil, Nat.zero_add, List.map_cons, List.map_nil, List.cons_append, List.nil_append, List.getElem?_cons_zero, List.getElem?_cons_succ])
    | (refine ACall.snap (sortf_c [p, p] p rfl (by simp)) (by kernel_rfl) rfl (.cons (.one (.mu' rfl (by simp) (cl_nm _))) (.cons (by first | exact .one (.clean rfl) | exact .fn .nil) .nil)) ?_; rintro r t ⟨rfl, rfl⟩; refine ⟨by first | exact ⟨_, rfl⟩ | (simp [Fresh, Fresh2, Fresh1]; done) | rfl, ?_⟩; simp only [go_sem, hwz, Int.toNat_zero, List.length_cons, List.length_nil, Nat.zero_add, List.map_cons, List.map_nil, List.cons_append, List.nil_append, List.getElem?_cons_zero, List.getElem?_cons_succ])
    | (refine ACall.one (lof_c bk p.1 p.2 ho (by omega) hi) (by kernel_rfl) rfl ?_; simp only [go_sem, hwz, Int.toNat_zero, List.length_cons, List.length_nil, Nat.zero_add, List.map_cons, List.map_nil, List.cons_append, List.nil_append, List.getElem?_cons_zero, List.getElem?_cons_succ])
    | (refine AWPL.call (rs := [.tmp 2]) Try.func96 rfl Try.ntmps96 rfl (by kernel_rfl) rfl rfl ?_; simp only [go_sem])
    | (refine AGet.haveM (by assumption) ?_; (try simp only [go_sem, hwz, Int.toNat_zero, List.length_cons, List.length_nil, Nat.zero_add, List.map_cons, List.map_nil, List.cons_append, List.nil_append, List.getElem?_cons_zero, List.getElem?_cons_succ]))
    | (refine AGet.have' (by assumption) ?_; (try simp only [go_sem, hwz, Int.toNat_zero, List.length_cons, List.length_nil, Nat.zero_add, List.map_cons, List.map_nil, List.cons_append, List.nil_append, List.getElem?_cons_zero, List.getElem?_cons_succ]))
    | ((first | refine AGet.nth ?_ (fun b hb => ?_) | refine AGet.nth1 ?_ (fun b hb => ?_) | with_reducible refine And.intro ?_ ?_); (focus (first | omega | assumption | exact List.length_pos_iff.2 (by assumption) | (simp only [List.length_append, List.length_cons, List.length_nil, List.length_map, List.length_take, List.length_drop] at *; omega) | (rw [wrap64_id (by omega) (by omega)]; omega) | (simp; done) | (simp [spare_len]; done) | (exact ⟨by omega, by omega⟩))); (try simp only [hb, go_sem, hwz, Int.toNat_zero, List.length_cons, List.length_nil, Nat.zero_add, List.map_cons, List.map_nil, List.cons_append, List.nil_append, List.getElem?_cons_zero, List.getElem?_cons_succ]))
    | (
        refine AWP.here 5 16 1 rfl ?_
        refine AWP.nilMu 3 2 rfl ?_
        simp only [go_sem, hwz, Int.toNat_zero, List.length_cons, List.length_nil, Nat.zero_add, List.map_cons, List.map_nil, List.cons_append, List.nil_append, List.getElem?_cons_zero, List.getElem?_cons_succ]
        refine AWP.loopM (ι := Nat × List (Bs × Bs) × Nat) [5, 16, 17, 18, 19, 20, 21, 22, 23, 24, 25, 26, 27] (fun ⟨i, nl, m⟩ => [(15, i64 i), (3, .mu 1 2 0 nl.length (nl.length + m))]) (fun ⟨i, nl, m⟩ => [some [.agg [odsV bk.orders, dnsV bk.fills, .sl none 1 (bk.ids.map str), i64 bk.clock, i64 bk.bad]], some (nl.map nmV ++ spare 2 m)]) (fun ⟨i, nl, m⟩ => []) (fun ⟨i, nl, m⟩ => i ≤ 2 ∧ nl = (bk.fills.take i).map fun f => (f.acc, f.sym)) (fun ⟨i, nl, m⟩ => 2 - i) ((0, [], 0)) ?_ ?_ ?_
        · (try simp only [go_sem]); (repeat' (first | refine And.intro ?_ ?_ | exact .inl rfl | exact .inr rfl | exact .inr ⟨rfl, rfl⟩ | trivial | exact .inr (oblA rfl) | exact .inr ⟨rfl, oblA rfl⟩ | exact .inr bel_strs | exact .inr ⟨rfl, bel_strs⟩ | exact .inr ⟨by simp, bel_strs⟩ | (simp; done) | exact .inr ⟨rfl, by simp⟩ | exact .inr ⟨by simp, by simp⟩)); done
        · exact ⟨by omega, rfl⟩
        rintro ⟨i, nl, m⟩ ⟨h3, h4⟩
        simp only [go_sem, hwz, Int.toNat_zero, List.length_cons, List.length_nil, Nat.zero_add, List.map_cons, List.map_nil, List.cons_append, List.nil_append, List.getElem?_cons_zero, List.getElem?_cons_succ]
        have hll : nl.length = i := by rw [h4, List.length_map, List.length_take]; omega)
    | (
        refine AWP.here 12 34 1 rfl ?_
        refine AWP.nilTok 6 5 rfl ?_
        simp only [go_sem, hwz, Int.toNat_zero, List.length_cons, List.length_nil, Nat.zero_add, List.map_cons, List.map_nil, List.cons_append, List.nil_append, List.getElem?_cons_zero, List.getElem?_cons_succ]
        refine AWP.loopM (ι := Nat) [8, 34, 35, 36, 37, 38, 39, 40, 41, 42, 43, 44, 45, 46] (fun (j : Nat) => [(33, i64 j), (6, .sl (some 0) 5 ((List.replicate j (posF bk p.1 p.2)).map poV))]) (fun (j : Nat) => [some [.agg [odsV bk.orders, dnsV bk.fills, .sl none 1 (bk.ids.map str), i64 bk.clock, i64 bk.bad]], some ([nmV p] ++ spare 2 ((spare 2 m).length + 1))]) (fun (j : Nat) => [j]) (fun (j : Nat) => j ≤ 1) (fun (j : Nat) => 1 - j) (0) ?_ ?_ ?_
        · (try simp only [go_sem]); (repeat' (first | refine And.intro ?_ ?_ | exact .inl rfl | exact .inr rfl | exact .inr ⟨rfl, rfl⟩ | trivial | exact .inr (oblA rfl) | exact .inr ⟨rfl, oblA rfl⟩ | exact .inr bel_strs | exact .inr (bel_nms (l := [p])) | exact .inr ⟨rfl, bel_nms (l := [p])⟩ | rfl | exact .inr ⟨rfl, bel_strs⟩ | exact .inr ⟨by simp, bel_strs⟩ | (simp; done) | exact .inr ⟨rfl, by simp⟩ | exact .inr ⟨by simp, by simp⟩)); done
        · omega
        rintro j g1
        simp only [go_sem, hwz, Int.toNat_zero, List.length_cons, List.length_nil, Nat.zero_add, List.map_cons, List.map_nil, List.cons_append, List.nil_append, List.getElem?_cons_zero, List.getElem?_cons_succ])
    | (
        refine AWP.here 4 10 4 rfl ?_
        refine AWP.loopM (ι := Nat) [2, 4, 5, 10, 11, 12, 13, 14, 15, 16, 17, 18, 19, 20, 21, 22, 23, 24, 25, 26, 27, 28, 29, 30, 31, 32, 33, 34, 35, 36, 37, 38, 39, 40, 41, 42, 43, 44, 45, 46, 47, 48, 49, 50, 51, 52, 53, 54, 55, 56, 57, 58, 59] (fun (k : Nat) => [(3, i64 k)]) (fun (k : Nat) => [some [.agg [odsV bk.orders, dnsV bk.fills, .sl none 1 (bk.ids.map str), i64 bk.clock, i64 bk.bad]], some ([nmV p, nmV p] ++ spare 2 m)]) (fun (k : Nat) => []) (fun (k : Nat) => k = 1) (fun (k : Nat) => k) (1) ?_ ?_ ?_
        · (try simp only [go_sem]); (repeat' (first | refine And.intro ?_ ?_ | exact .inl rfl | exact .inr rfl | exact .inr ⟨rfl, rfl⟩ | trivial | exact .inr (oblA rfl) | exact .inr ⟨rfl, oblA rfl⟩ | exact .inr bel_strs | exact .inr bel_nms | exact .inr ⟨rfl, bel_nms⟩ | exact .inr ⟨by simp, bel_nms⟩ | exact .inr (bel_nms (l := [p, p])) | exact .inr ⟨rfl, bel_nms (l := [p, p])⟩ | rfl | (simp [AV.bel]; done) | exact .inr ⟨rfl, bel_strs⟩ | exact .inr ⟨by simp, bel_strs⟩ | (simp; done) | exact .inr ⟨rfl, by simp⟩ | exact .inr ⟨by simp, by simp⟩)); done
        · rfl
        rintro k rfl
        simp only [go_sem])
    | (
        refine AWP.here 9 29 4 rfl ?_
        refine AWP.loopM (ι := Nat) [29, 30, 31, 32, 33, 34, 35, 36, 37, 38, 39, 40, 41, 42, 43, 44, 45, 46, 47, 48, 49, 50, 51, 52, 53] (fun (q : Nat) => [(5, i64 q), (3, i64 1)]) (fun (q : Nat) => [some [.agg [odsV bk.orders, dnsV bk.fills, .sl none 1 (bk.ids.map str), i64 bk.clock, i64 bk.bad]], some ([nmV p, nmV p] ++ spare 2 m)]) (fun (q : Nat) => []) (fun (q : Nat) => q = 1) (fun (q : Nat) => q) (1) ?_ ?_ ?_
        · (try simp only [go_sem]); (repeat' (first | refine And.intro ?_ ?_ | exact .inl rfl | exact .inr rfl | exact .inr ⟨rfl, rfl⟩ | trivial | exact .inr (oblA rfl) | exact .inr ⟨rfl, oblA rfl⟩ | exact .inr bel_strs | exact .inr bel_nms | exact .inr ⟨rfl, bel_nms⟩ | exact .inr ⟨by simp, bel_nms⟩ | exact .inr (bel_nms (l := [p, p])) | exact .inr ⟨rfl, bel_nms (l := [p, p])⟩ | rfl | (simp [AV.bel]; done) | exact .inr ⟨rfl, bel_strs⟩ | exact .inr ⟨by simp, bel_strs⟩ | (simp; done) | exact .inr ⟨rfl, by simp⟩ | exact .inr ⟨by simp, by simp⟩)); done
        · rfl
        rintro q rfl
        simp only [go_sem])
    | (
        refine ⟨(i + 1, nl ++ [(f.acc, f.sym)], mm), ?_, ⟨by show i + 1 ≤ 2; omega, by rw [h4, take_next hb]; simp⟩, by show 2 - (i + 1) < 2 - i; omega⟩
        (try simp only [go_sem]); (try rw [wrap64_id (by omega) (by omega)]); (repeat' (first | refine And.intro ?_ ?_ | exact .inl rfl | exact .inr rfl | exact .inr ⟨rfl, rfl⟩ | trivial | exact .inr (oblA rfl) | exact .inr ⟨rfl, oblA rfl⟩ | exact .inr bel_strs | exact .inr bel_nms | exact .inr ⟨rfl, bel_nms⟩ | exact .inr ⟨by simp, bel_nms⟩ | exact .inr ⟨rfl, bel_strs⟩ | exact .inr ⟨by simp, bel_strs⟩ | (simp; done) | exact .inr ⟨rfl, by simp⟩ | exact .inr ⟨by simp, by simp⟩)); done)
    | (
        refine ⟨1, ?_, by show (1 : Nat) ≤ 1; omega, by show 1 - 1 < 1 - 0; omega⟩
        (try simp only [go_sem]); (try rw [hwo]); (repeat' (first | refine And.intro ?_ ?_ | exact .inl rfl | exact .inr rfl | exact .inr ⟨rfl, rfl⟩ | trivial | exact .inr (oblA rfl) | exact .inr ⟨rfl, oblA rfl⟩ | exact .inr bel_strs | exact .inr (bel_nms (l := [p])) | exact .inr ⟨rfl, bel_nms (l := [p])⟩ | rfl | exact .inr ⟨rfl, bel_strs⟩ | exact .inr ⟨by simp, bel_strs⟩ | (simp; done) | exact .inr ⟨rfl, by simp⟩ | exact .inr ⟨by simp, by simp⟩)); done)
    | (
        refine ⟨i + 1, ?_, ?_, ?_⟩
        · (try simp only [go_sem]); (try rw [wrap64_id (by omega) (by omega)]); (repeat' (first | refine And.intro ?_ ?_ | exact .inl rfl | exact .inr rfl | exact .inr ⟨rfl, rfl⟩ | trivial | exact .inr (oblA rfl) | exact .inr ⟨rfl, oblA rfl⟩ | exact .inr bel_strs | exact .inr bel_nms | exact .inr ⟨rfl, bel_nms⟩ | exact .inr ⟨by simp, bel_nms⟩ | exact .inr (bel_nms (l := [p, p])) | exact .inr ⟨rfl, bel_nms (l := [p, p])⟩ | rfl | (simp [AV.bel]; done) | exact .inr ⟨rfl, bel_strs⟩ | exact .inr ⟨by simp, bel_strs⟩ | (simp; done) | exact .inr ⟨rfl, by simp⟩ | exact .inr ⟨by simp, by simp⟩)); done
        · omega
        · (try simp only []); omega)
    | (
        refine AWP.ret ?_
        refine AEnd.is ?_; simp only [go_sem, out_v, out_s, out_n, v_int, v_bool, v_str] <;> (first | rfl | (obtain rfl : j = 1 := (by omega); rfl) | (exfalso; simp_all; done) | skip))
    | (refine AWP.ret ?_; refine AInPost.ret rfl ?_; simp only [go_sem, hwz, Int.toNat_zero, List.length_cons, List.length_nil, Nat.zero_add, List.map_cons, List.map_nil, List.cons_append, List.nil_append, List.getElem?_cons_zero, List.getElem?_cons_succ])
    | (refine AWP.ret ?_; simp only [inb_ret, athen_ret]; refine AInPost.ret rfl ?_; simp only [go_sem, hwz, Int.toNat_zero, List.length_cons, List.length_nil, Nat.zero_add, List.map_cons, List.map_nil, List.cons_append, List.nil_append, List.getElem?_cons_zero, List.getElem?_cons_succ])
    | (refine AWPL.of ?_; simp only [go_sem, hwz, Int.toNat_zero, List.length_cons, List.length_nil, Nat.zero_add, List.map_cons, List.map_nil, List.cons_append, List.nil_append, List.getElem?_cons_zero, List.getElem?_cons_succ])
    | (refine fun (mm : Nat) => ?_; simp only [go_sem])
    | (exfalso; omega)
    | refine AWP.fin (by assumption) ?_)


end Go.Proofs.Ytlhdnenlgceeeaa
