import Derived.Test.YtobaignbahnjbaaDoorM7
set_option linter.unusedVariables false
set_option linter.unusedSimpArgs false
namespace Go.Proofs.YtobaignbahnjbaaDoor
open Go Go.Abs Go.RowKit Go.Bk Go.Msg

set_option maxHeartbeats 16000000 in
set_option maxRecDepth 8000 in
theorem r5read_c (bs : List UInt8) (hbl : bs.length ≤ 3000) : ACalls E 18 [bytesV bs] (fun r t => r = .tup [mgV (readR bs).1, i64 (readR bs).2] ∧ t = []) := by -- checkroll/checkrollref05.Read
  have hlp := Fld.parseL_len bs
  have hl : (Fld.parseL bs).1.length ≤ 1000 := by omega
  have hfl := parse_bound bs
  refine ACalls.of_awp (n := 99) (rs := [.cell 2 25, .tmp 3]) Tryd.func18 rfl Tryd.ntmps18 rfl ?_
  repeat' (first
    | (
        refine AWP.cutTo hc16 ?_
        first | (refine AWP.weaken ?_ (hc16 ⟨(⟨kindR y35, y34, y52, y43, y108, 0, false, [], zeroX⟩, n108, b108), msg_1 (msg_hd e35 e34 e52 e43) (by assumption) e108, hn108, mgOk_z (by decide)⟩); clear hc16; (try simp only [go_sem]); (repeat' (first | refine And.intro ?_ ?_ | exact .inl rfl | exact .inr rfl | exact .inr ⟨rfl, rfl⟩ | trivial | exact .inr (oblA rfl) | exact .inr ⟨rfl, oblA rfl⟩ | exact .inr bel_strs | exact .inr ⟨rfl, bel_strs⟩ | exact .inr ⟨by simp, bel_strs⟩ | (simp; done) | exact .inr ⟨rfl, by simp⟩ | exact .inr ⟨by simp, by simp⟩)); done) | (refine AWP.weaken ?_ (hc16 ⟨(⟨kindR y35, y34, y52, y43, 0, 0, false, y112, zeroX⟩, n112, b112), msg_2 (msg_hd e35 e34 e52 e43) (.inl (by assumption)) e112, hn112, mgOk_z hy112⟩); clear hc16; (try simp only [go_sem]); (repeat' (first | refine And.intro ?_ ?_ | exact .inl rfl | exact .inr rfl | exact .inr ⟨rfl, rfl⟩ | trivial | exact .inr (oblA rfl) | exact .inr ⟨rfl, oblA rfl⟩ | exact .inr bel_strs | exact .inr ⟨rfl, bel_strs⟩ | exact .inr ⟨by simp, bel_strs⟩ | (simp; done) | exact .inr ⟨rfl, by simp⟩ | exact .inr ⟨by simp, by simp⟩)); done) | (refine AWP.weaken ?_ (hc16 ⟨(⟨kindR y35, y34, y52, y43, 0, 0, false, y112, zeroX⟩, n112, b112), msg_2 (msg_hd e35 e34 e52 e43) (.inr (by assumption)) e112, hn112, mgOk_z hy112⟩); clear hc16; (try simp only [go_sem]); (repeat' (first | refine And.intro ?_ ?_ | exact .inl rfl | exact .inr rfl | exact .inr ⟨rfl, rfl⟩ | trivial | exact .inr (oblA rfl) | exact .inr ⟨rfl, oblA rfl⟩ | exact .inr bel_strs | exact .inr ⟨rfl, bel_strs⟩ | exact .inr ⟨by simp, bel_strs⟩ | (simp; done) | exact .inr ⟨rfl, by simp⟩ | exact .inr ⟨by simp, by simp⟩)); done) | (refine AWP.weaken ?_ (hc16 ⟨(⟨kindR y35, y34, y52, y43, y7, y16, false, [], zeroX⟩, n16, b16), msg_4 (msg_hd e35 e34 e52 e43) (by assumption) e7 e16, hn16, mgOk_z (by decide)⟩); clear hc16; (try simp only [go_sem]); (repeat' (first | refine And.intro ?_ ?_ | exact .inl rfl | exact .inr rfl | exact .inr ⟨rfl, rfl⟩ | trivial | exact .inr (oblA rfl) | exact .inr ⟨rfl, oblA rfl⟩ | exact .inr bel_strs | exact .inr ⟨rfl, bel_strs⟩ | exact .inr ⟨by simp, bel_strs⟩ | (simp; done) | exact .inr ⟨rfl, by simp⟩ | exact .inr ⟨by simp, by simp⟩)); done) | (refine AWP.weaken ?_ (hc16 ⟨(⟨kindR y35, y34, y52, y43, y36, 0, y123, [], zeroX⟩, n36, b36), msg_5 (msg_hd e35 e34 e52 e43) (by assumption) e123 e36, hn36, mgOk_z (by decide)⟩); clear hc16; (try simp only [go_sem]); (repeat' (first | refine And.intro ?_ ?_ | exact .inl rfl | exact .inr rfl | exact .inr ⟨rfl, rfl⟩ | trivial | exact .inr (oblA rfl) | exact .inr ⟨rfl, oblA rfl⟩ | exact .inr bel_strs | exact .inr ⟨rfl, bel_strs⟩ | exact .inr ⟨by simp, bel_strs⟩ | (simp; done) | exact .inr ⟨rfl, by simp⟩ | exact .inr ⟨by simp, by simp⟩)); done) | (refine AWP.weaken ?_ (hc16 ⟨(⟨kindR y35, y34, y52, y43, 0, 0, false, [], x⟩, nx, bx), msg_7 (msg_hd e35 e34 e52 e43) (by assumption) ex, hnx, mgOk_x hxok⟩); clear hc16; (try simp only [go_sem]); (repeat' (first | refine And.intro ?_ ?_ | exact .inl rfl | exact .inr rfl | exact .inr ⟨rfl, rfl⟩ | trivial | exact .inr (oblA rfl) | exact .inr ⟨rfl, oblA rfl⟩ | exact .inr bel_strs | exact .inr ⟨rfl, bel_strs⟩ | exact .inr ⟨by simp, bel_strs⟩ | (simp; done) | exact .inr ⟨rfl, by simp⟩ | exact .inr ⟨by simp, by simp⟩)); done) | (refine AWP.weaken ?_ (hc16 ⟨(⟨kindR y35, y34, y52, y43, 0, 0, false, [], zeroX⟩, n43, b43), msg_0 (msg_hd e35 e34 e52 e43) (by omega), hn43, mgOk_z (by decide)⟩); clear hc16; (try simp only [go_sem]); (repeat' (first | refine And.intro ?_ ?_ | exact .inl rfl | exact .inr rfl | exact .inr ⟨rfl, rfl⟩ | trivial | exact .inr (oblA rfl) | exact .inr ⟨rfl, oblA rfl⟩ | exact .inr bel_strs | exact .inr ⟨rfl, bel_strs⟩ | exact .inr ⟨by simp, bel_strs⟩ | (simp; done) | exact .inr ⟨rfl, by simp⟩ | exact .inr ⟨by simp, by simp⟩)); done) | (exfalso; omega))
    | refine AWP.seqk fun K hK => ?_
    | (
        refine AWP.here 16 48 2 rfl ?_
        first
        | (have h0 := hc16; clear h0; refine AWP.region ?_; simp only [go_sem])
        | ((fail_if_success (have h0 := hc16)); refine AWP.cutAt (ι := {p : Mg × Nat × Bool // msgS (Fld.parseL bs).1 = p ∧ p.2.1 ≤ (Fld.parseL bs).1.length ∧ mgOk p.1}) [47, 48, 49, 50, 51, 52, 53, 54, 55, 56, 57, 58, 59, 60, 61, 62, 63, 64, 65, 66, 67, 68, 69, 70, 71, 72, 73, 74, 75, 76, 77, 78] (fun ⟨⟨m, n9, b9⟩, hm9, hn9, hmok⟩ => []) (fun ⟨⟨m, n9, b9⟩, hm9, hn9, hmok⟩ => [some [.agg [i64 0, i64 0, i64 0, bl false, i64 0, i64 0, bl false, str [], str [], str [], str [], str [], str [], i64 0, bl false, i64 0, i64 0, i64 0]], some [tkV (some 0) (Fld.parseL bs).1 n9 b9], some [mgV m]]) (fun ⟨⟨m, n9, b9⟩, hm9, hn9, hmok⟩ => [(Fld.parseL bs).1.length]) hK (fun ii => ?_) (fun hc16 => ?_)))
    | (refine Cut.mk ?_; obtain ⟨⟨m, n9, b9⟩, hm9, hn9, hmok⟩ := ii; simp only [go_sem])
    | (
        refine AWP.here 10 28 5 rfl ?_
        have hix := let_i (i := i) (by omega)
        refine AWP.region ?_; simp only [go_sem])
    | (
        refine AWP.here 12 36 4 rfl ?_
        obtain rfl : i = 7 := by omega
        simp only [kindUp7]
        refine AWP.regionL ?_
        refine AWPL.at 4 1 rfl ?_
        simp only [go_sem])
    | (refine ACall.of (r2parse_c bs) (by kernel_rfl) rfl ?_; rintro r t ⟨rfl, rfl⟩; simp only [go_sem])
    | (refine take_call (tag := 35) (n := 0) rfl rfl rfl (by omega) (by omega) ?_; intro y35 n35 b35 e35 hn35; have hy35 := take_bound hfl e35; simp only [go_sem])
    | (refine numb_call (tag := 34) rfl rfl rfl (by omega) (by omega) ?_; intro y34 n34 b34 e34 hn34; simp only [go_sem])
    | (refine numb_call (tag := 52) rfl rfl rfl (by omega) (by omega) ?_; intro y52 n52 b52 e52 hn52; simp only [go_sem])
    | (refine numb_call (tag := 108) rfl rfl rfl (by omega) (by omega) ?_; intro y108 n108 b108 e108 hn108; simp only [go_sem])
    | (refine numb_call (tag := 7) rfl rfl rfl (by omega) (by omega) ?_; intro y7 n7 b7 e7 hn7; simp only [go_sem])
    | (refine numb_call (tag := 16) rfl rfl rfl (by omega) (by omega) ?_; intro y16 n16 b16 e16 hn16; simp only [go_sem])
    | (refine numb_call (tag := 36) rfl rfl rfl (by omega) (by omega) ?_; intro y36 n36 b36 e36 hn36; simp only [go_sem])
    | (refine yes_call (tag := 43) rfl rfl rfl (by omega) (by omega) ?_; intro y43 n43 b43 e43 hn43; simp only [go_sem])
    | (refine yes_call (tag := 123) rfl rfl rfl (by omega) (by omega) ?_; intro y123 n123 b123 e123 hn123; simp only [go_sem])
    | (refine maybe_call (tag := 112) rfl rfl rfl (by omega) (by omega) ?_; intro y112 n112 b112 e112 hn112; have hy112 := maybe_bound hfl e112; simp only [go_sem])
    | (refine exec_call rfl (by omega) (by omega) hfl ?_; intro x nx bx ex hnx hxok; simp only [go_sem])
    | (refine ACall.one (r5right_c m hmok) (by kernel_rfl) rfl ?_; simp only [go_sem])
    | (refine AWPL.call (rs := [.tmp 4]) Tryd.func36 rfl Tryd.ntmps36 rfl (by kernel_rfl) rfl rfl ?_; simp only [go_sem])
    | (refine AWPL.call (rs := [.tmp 4]) Tryd.func39 rfl Tryd.ntmps39 rfl (by kernel_rfl) rfl rfl ?_; simp only [go_sem])
    | (refine AWPL.call (rs := [.tmp 4]) Tryd.func37 rfl Tryd.ntmps37 rfl (by kernel_rfl) rfl rfl ?_; simp only [go_sem])
    | (refine AWPL.call (rs := [.tmp 4]) Tryd.func38 rfl Tryd.ntmps38 rfl (by kernel_rfl) rfl rfl ?_; simp only [go_sem])
    | (refine AWPL.call (rs := [.cell 2 23]) Tryd.func40 rfl Tryd.ntmps40 rfl (by kernel_rfl) rfl rfl ?_; simp only [go_sem])
    | (refine AWP.here 6 22 3 rfl ?_; refine AWP.regionL ?_; refine AWPL.at 3 1 rfl ?_; simp only [go_sem])
    | (refine AWP.here 12 36 4 rfl ?_; refine AWP.regionL ?_; refine AWPL.at 4 1 rfl ?_; simp only [go_sem])
    | (refine AWP.here 13 39 4 rfl ?_; refine AWP.regionL ?_; refine AWPL.at 4 1 rfl ?_; simp only [go_sem])
    | (refine AWP.here 14 42 4 rfl ?_; refine AWP.regionL ?_; refine AWPL.at 4 1 rfl ?_; simp only [go_sem])
    | (refine AWP.here 17 49 4 rfl ?_; refine AWP.regionL ?_; refine AWPL.at 4 1 rfl ?_; simp only [go_sem])
    | (refine AWP.here 20 55 4 rfl ?_; refine AWP.regionL ?_; refine AWPL.at 4 1 rfl ?_; simp only [go_sem])
    | (refine AWP.here 22 60 4 rfl ?_; refine AWP.regionL ?_; refine AWPL.at 4 1 rfl ?_; simp only [go_sem])
    | (refine AWP.here 23 63 4 rfl ?_; refine AWP.regionL ?_; refine AWPL.at 4 1 rfl ?_; simp only [go_sem])
    | (refine AWP.here 25 68 4 rfl ?_; refine AWP.regionL ?_; refine AWPL.at 4 1 rfl ?_; simp only [go_sem])
    | (refine AWP.here 26 71 4 rfl ?_; refine AWP.regionL ?_; refine AWPL.at 4 1 rfl ?_; simp only [go_sem])
    | (refine AWP.here 28 76 4 rfl ?_; refine AWP.regionL ?_; refine AWPL.at 4 1 rfl ?_; simp only [go_sem])
    | (refine AWP.here 2 30 4 rfl ?_; refine AWP.regionL ?_; refine AWPL.at 4 2 rfl ?_; simp only [go_sem])
    | (refine AWP.here 1 8 9 rfl ?_; refine AWP.regionL ?_; refine AWPL.at 9 2 rfl ?_; simp only [go_sem])
    | (refine AWP.here 1 6 4 rfl ?_; refine AWP.regionL ?_; refine AWPL.at 4 2 rfl ?_; simp only [go_sem])
    | (refine AWP.here 2 6 4 rfl ?_; refine AWP.regionL ?_; refine AWPL.at 4 1 rfl ?_; simp only [go_sem])
    | (refine AWP.here 3 9 4 rfl ?_; refine AWP.regionL ?_; refine AWPL.at 4 1 rfl ?_; simp only [go_sem])
    | (refine AWP.here 4 12 4 rfl ?_; refine AWP.regionL ?_; refine AWPL.at 4 1 rfl ?_; simp only [go_sem])
    | (refine AWP.here 5 15 4 rfl ?_; refine AWP.regionL ?_; refine AWPL.at 4 1 rfl ?_; simp only [go_sem])
    | (refine AWP.here 6 18 4 rfl ?_; refine AWP.regionL ?_; refine AWPL.at 4 1 rfl ?_; simp only [go_sem])
    | (refine AWP.here 7 21 3 rfl ?_; refine AWP.regionL ?_; refine AWPL.at 3 1 rfl ?_; simp only [go_sem])
    | (refine AWP.here 11 35 3 rfl ?_; refine AWP.regionL ?_; refine AWPL.at 3 1 rfl ?_; simp only [go_sem])
    | (refine AWP.here 16 48 4 rfl ?_; refine AWP.regionL ?_; refine AWPL.at 4 1 rfl ?_; simp only [go_sem])
    | (refine AWP.here 17 51 4 rfl ?_; refine AWP.regionL ?_; refine AWPL.at 4 1 rfl ?_; simp only [go_sem])
    | (refine AWP.here 18 54 4 rfl ?_; refine AWP.regionL ?_; refine AWPL.at 4 1 rfl ?_; simp only [go_sem])
    | (refine AWP.region ?_; simp only [go_sem])
    | (refine AWP.here 1 5 25 rfl ?_; refine AWP.regionAs [0, 1, 2, 3, 4, 5, 6, 7, 8, 9, 10, 11, 12, 13, 14, 15, 16, 17, 18, 19, 20, 21, 22, 23, 24] [[], [0], [0, 1], [0, 1, 2], [], [4], [4, 5], [4, 5, 6], [4, 5, 6, 7], [0, 1, 2, 3, 4, 5, 6, 7, 8], [0, 1, 2, 3, 4, 5, 6, 7, 8, 9], [0, 1, 2, 3, 4, 5, 6, 7, 8, 9, 10], [0, 1, 2, 3, 4, 5, 6, 7, 8, 9, 10, 11], [0, 1, 2, 3, 4, 5, 6, 7, 8, 9, 10, 11, 12], [0, 1, 2, 3, 4, 5, 6, 7, 8, 9, 10, 11, 12, 13], [0, 1, 2, 3, 4, 5, 6, 7, 8, 9, 10], [0, 1, 2, 3, 4, 5, 6, 7, 8, 9, 10, 15], [0, 1, 2, 3, 4, 5, 6, 7, 8, 9, 10, 15, 16], [0, 1, 2, 3, 4, 5, 6, 7, 8, 9, 10, 15, 16, 17], [0, 1, 2, 3, 4, 5, 6, 7, 8, 9, 10, 11, 12, 13, 14, 15, 16, 17, 18], [0, 1, 2, 3, 4, 5, 6, 7, 8, 9, 10, 11, 12, 13, 14, 15, 16, 17, 18, 19], [0, 1, 2, 3, 4, 5, 6, 7, 8, 9, 10, 11, 12, 13, 14, 15, 16, 17, 18, 19, 20], [0, 1, 2, 3, 4, 5, 6, 7, 8, 9, 10], [0, 1, 2, 3, 4, 5, 6, 7, 8, 9, 10, 11, 12, 13, 14, 15, 16, 17, 18, 19, 20, 21, 22], [0, 1, 2, 3, 4, 5, 6, 7, 8, 9, 10, 11, 12, 13, 14, 15, 16, 17, 18, 19, 20, 21, 22, 23]] [] (by kernel_rfl) (by kernel_rfl) (by decide) rfl ?_; simp only [go_sem])
    | (refine AWP.here 5 40 13 rfl ?_; refine AWP.regionO [0, 1, 2, 3, 4, 5, 6, 7, 8, 9, 10, 11, 12] [] (by kernel_rfl) (by kernel_rfl) rfl ?_; simp only [go_sem])
    | (refine hK _ ?_; clear hK K)
    | refine AWP.block ?_
    | refine AWP.cond rfl (fun c => ?_) (fun c => ?_) <;> first | exact Bool.noConfusion c | (try simp only [dD] at c)
    | refine AWP.skip ?_
    | (refine AWP.exit ?_; simp only [go_sem])
    | (refine AGuard.splitN (fun h => ?_) (fun h => ?_) <;> simp only [h, go_sem] <;> (try simp only [dD] at h))
    | (refine AGuard.split (fun h => ?_) (fun h => ?_) <;> simp only [h, go_sem] <;> (try simp only [dD] at h))
    | (refine AGet.haveM (by assumption) ?_; (try simp only [go_sem]))
    | (refine AGet.have' (by assumption) ?_; (try simp only [go_sem]))
    | ((first | refine AGet.nth ?_ (fun b hb => ?_) | refine AGet.nth1 ?_ (fun b hb => ?_) | with_reducible refine And.intro ?_ ?_); (focus (first | omega | assumption | exact List.length_pos_iff.2 (by assumption) | (simp only [List.length_append, List.length_cons, List.length_nil, List.length_map, List.length_take, List.length_drop] at *; omega) | (rw [wrap64_id (by omega) (by omega)]; omega) | (simp; done) | (simp [spare_len]; done) | (exact ⟨by omega, by omega⟩))); (try simp only [hb, go_sem]))
    | (
        refine AWP.here 8 24 2 rfl ?_
        refine AWP.loopM (ι := Nat) [24, 25, 26, 27, 28, 29, 30, 31, 32, 33, 34, 35] (fun (i : Nat) => [(9, i64 i)]) (fun (i : Nat) => [some [.agg [i64 0, i64 0, i64 0, bl false, i64 0, i64 0, bl false, str [], str [], str [], str [], str [], str [], i64 0, bl false, i64 0, i64 0, i64 0]], some [tkV (some 0) (Fld.parseL bs).1 n35 b35], some [.agg [i64 (kindUp y35 i), i64 0, i64 0, bl false, i64 0, i64 0, bl false, str [], str [], str [], str [], str [], str [], i64 0, bl false, i64 0, i64 0, i64 0]]]) (fun (i : Nat) => [(Fld.parseL bs).1.length]) (fun (i : Nat) => i ≤ 7) (fun (i : Nat) => 7 - i) (0) ?_ ?_ ?_
        · (try simp only [go_sem]); (repeat' (first | refine And.intro ?_ ?_ | exact .inl rfl | exact .inr rfl | exact .inr ⟨rfl, rfl⟩ | trivial | exact .inr (oblA rfl) | exact .inr ⟨rfl, oblA rfl⟩ | exact .inr bel_strs | exact .inr ⟨rfl, bel_strs⟩ | exact .inr ⟨by simp, bel_strs⟩ | (simp; done) | exact .inr ⟨rfl, by simp⟩ | exact .inr ⟨by simp, by simp⟩)); done
        · omega
        rintro i h1
        simp only [go_sem])
    | (
        (refine ⟨i + 1, ?_, by omega, by omega⟩; (try simp only [go_sem]); first | rw [kindUp_yes (by assumption) (by omega)] | rw [kindUp_no (by assumption)]); (try rw [wrap64_id (x := (i : Int) + 1) (by omega) (by omega)]); (repeat' (first | refine And.intro ?_ ?_ | exact .inl rfl | exact .inr rfl | exact .inr ⟨rfl, rfl⟩ | trivial | exact .inr (oblA rfl) | exact .inr ⟨rfl, oblA rfl⟩ | exact .inr bel_strs | exact .inr ⟨rfl, bel_strs⟩ | exact .inr ⟨by simp, bel_strs⟩ | (simp; done) | exact .inr ⟨rfl, by simp⟩ | exact .inr ⟨by simp, by simp⟩)); done)
    | (
        refine AWP.ret ?_
        refine AEnd.is ?_; simp only [go_sem, bytesV, out_v, out_s, out_n, v_int, v_bool, v_str] <;> (first | (rw [readR_e (by assumption)]; simp [zeroM, zeroX]; done) | (rw [readR_1 (by assumption) hm9 (by assumption)]; simp [zeroM, zeroX]; done) | (rw [readR_2 (by assumption) hm9 (by assumption)]; simp [zeroM, zeroX]; done) | (rw [readR_3 (by assumption) hm9 (by assumption)]; simp [zeroM, zeroX]; done) | (rw [readR_4 (by assumption) hm9 (by assumption) (by assumption) (by assumption)]; simp; done) | skip))
    | (refine AWP.ret ?_; refine AInPost.ret rfl ?_; simp only [go_sem])
    | (refine AWP.ret ?_; simp only [inb_ret, athen_ret]; refine AInPost.ret rfl ?_; simp only [go_sem])
    | (refine AWP.ret ?_; (try simp only [inb_ret, athen_ret]); refine AInPost.ret rfl ?_; (try simp only [go_sem]))
    | (refine AWPL.of ?_; simp only [go_sem])
    | refine AWP.fin (by assumption) ?_
    | fail)


end Go.Proofs.YtobaignbahnjbaaDoor
