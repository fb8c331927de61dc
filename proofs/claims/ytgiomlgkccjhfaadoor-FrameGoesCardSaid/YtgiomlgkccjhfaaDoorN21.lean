/- The statements on frames: what is put is found; of any bytes. -/
import Derived.Test.YtgiomlgkccjhfaaDoorN20
set_option linter.unusedVariables false
set_option linter.unusedSimpArgs false
namespace Go.Proofs.YtgiomlgkccjhfaaDoor
open Go Go.Abs Go.RowKit Go.Fld Go.Shelf

theorem mod_lt' {c : Int} {n : Nat} (h0 : 0 ≤ c) (h1 : c < 65536) (hn : 0 < n) (hn2 : n ≤ 100000) : ∃ q : Nat, Int.tmod (IntKind.i64.wrap c) (n : Int) = (q : Int) ∧ q < n := by
  have e : IntKind.i64.wrap c = c := by rw [IntKind.wrap_i64]; omega
  rw [e]
  obtain ⟨k, rfl⟩ : ∃ k : Nat, c = (k : Int) := ⟨c.toNat, by omega⟩
  exact ⟨k % n, rfl, Nat.mod_lt _ hn⟩
theorem no8_done {l : Bs} {i : Nat} (h : ¬ (i : Int) < (l.length : Int)) (h2 : (56 : UInt8) ∉ l.take i) : (56 : UInt8) ∉ l := by rw [List.take_of_length_le (by omega)] at h2; exact h2
theorem nil_of {l : Bs} (h : ¬ (0 : Int) < (l.length : Int)) : l = [] := List.eq_nil_of_length_eq_zero (by omega)
theorem ne_of {l : Bs} (h : (0 : Int) < (l.length : Int)) : l ≠ [] := by rintro rfl; simp at h
theorem put_pos {x : Bs} (h : (putB x).2 = 0) : 0 < (putB x).1.length := by rw [(put_body h).2]; show 0 < (_ ++ _ : Bs).length; rw [List.length_append, trail_len]; omega
set_option maxHeartbeats 4000000 in
set_option maxRecDepth 8000 in
theorem fr_found_c (ja bd mo : Bs) (cut : Int) (hc0 : 0 ≤ cut) (hc1 : cut < 65536) : ACalls E 9 [bytesV ja, bytesV bd, bytesV mo, .v (.int .u16 cut)] (fun r t => r = bl true ∧ t = []) := by -- checkroll/checkrolllaw03.FrameFound
  have hF := put_len_le bd
  refine ACalls.of_awp (n := 129) (rs := [.tmp 8]) Tryd.func9 rfl Tryd.ntmps9 rfl ?_
  refine AWP.seqk fun K1 hK1 => ?_
  refine AWP.region ?_
  simp only [go_sem] -- region 0
  repeat' (first | (refine AGet.haveM (by assumption) ?_; (try simp only [go_sem])) | (refine AGet.have' (by assumption) ?_; (try simp only [go_sem])) | ((first | refine AGet.nth ?_ (fun b hb => ?_) | refine AGet.nth1 ?_ (fun b hb => ?_) | with_reducible refine And.intro ?_ ?_); (focus ((first | omega | exact List.length_pos_iff.2 (by assumption) | (simp only [List.length_append, List.length_cons, List.length_nil, List.length_map, List.length_take, List.length_drop] at *; omega) | (rw [wrap64_id (by omega) (by omega)]; omega) | (simp; done)))); (try simp only [hb, go_sem])))
  refine hK1 _ ?_; clear hK1 K1
  refine AWP.seqk fun K2 hK2 => ?_
  refine AWP.seqk fun K3 hK3 => ?_
  refine AWP.region ?_
  simp only [go_sem] -- region 1
  repeat' (first | (refine ACall.one (awake3_c ) (by kernel_rfl) rfl ?_; simp only [go_sem]) | (refine AGet.haveM (by assumption) ?_; (try simp only [go_sem])) | (refine AGet.have' (by assumption) ?_; (try simp only [go_sem])) | ((first | refine AGet.nth ?_ (fun b hb => ?_) | refine AGet.nth1 ?_ (fun b hb => ?_) | with_reducible refine And.intro ?_ ?_); (focus ((first | omega | exact List.length_pos_iff.2 (by assumption) | (simp only [List.length_append, List.length_cons, List.length_nil, List.length_map, List.length_take, List.length_drop] at *; omega) | (rw [wrap64_id (by omega) (by omega)]; omega) | (simp; done)))); (try simp only [hb, go_sem])))
  refine hK3 _ ?_; clear hK3 K3
  refine AWP.cond rfl (fun c23 => ?_) (fun c23 => ?_)
  · first | exact Bool.noConfusion c23 | (
      try simp only [dD] at c23
      refine AWP.seqk fun K4 hK4 => ?_
      refine AWP.region ?_
      simp only [go_sem] -- region 2
      repeat' (first | (refine AGet.haveM (by assumption) ?_; (try simp only [go_sem])) | (refine AGet.have' (by assumption) ?_; (try simp only [go_sem])) | ((first | refine AGet.nth ?_ (fun b hb => ?_) | refine AGet.nth1 ?_ (fun b hb => ?_) | with_reducible refine And.intro ?_ ?_); (focus ((first | omega | exact List.length_pos_iff.2 (by assumption) | (simp only [List.length_append, List.length_cons, List.length_nil, List.length_map, List.length_take, List.length_drop] at *; omega) | (rw [wrap64_id (by omega) (by omega)]; omega) | (simp; done)))); (try simp only [hb, go_sem])))
      refine hK4 _ ?_; clear hK4 K4
      refine AWP.ret ?_
      try simp only [go_sem]
      clear hK2 K2
      first
      | exact ⟨[], .v _, rfl, rfl, rfl, rfl⟩
      | exact ⟨[], .v _, rfl, rfl, by rw [put_no (by assumption)]; rfl, rfl⟩
      | skip)
  · first | exact Bool.noConfusion c23 | (
      try simp only [dD] at c23
      refine AWP.skip ?_
      refine hK2 _ ?_; clear hK2 K2
      refine AWP.seqk fun K5 hK5 => ?_
      refine AWP.seqk fun K6 hK6 => ?_
      refine AWP.region ?_
      simp only [go_sem] -- region 3
      repeat' (first | (refine AGuard.splitN (fun h => ?_) (fun h => ?_) <;> simp only [h, go_sem] <;> try simp only [dD] at h) | (refine AGuard.split (fun h => ?_) (fun h => ?_) <;> simp only [h, go_sem] <;> try simp only [dD] at h) | (refine AGet.haveM (by assumption) ?_; (try simp only [go_sem])) | (refine AGet.have' (by assumption) ?_; (try simp only [go_sem])) | ((first | refine AGet.nth ?_ (fun b hb => ?_) | refine AGet.nth1 ?_ (fun b hb => ?_) | with_reducible refine And.intro ?_ ?_); (focus ((first | omega | exact List.length_pos_iff.2 (by assumption) | (simp only [List.length_append, List.length_cons, List.length_nil, List.length_map, List.length_take, List.length_drop] at *; omega) | (rw [wrap64_id (by omega) (by omega)]; omega) | (simp; done)))); (try simp only [hb, go_sem])))
      all_goals (
        refine hK6 _ ?_; clear hK6 K6
        refine AWP.cond rfl (fun c36 => ?_) (fun c36 => ?_)
        · first | exact Bool.noConfusion c36 | (
            try simp only [dD] at c36
            refine AWP.seqk fun K7 hK7 => ?_
            refine AWP.region ?_
            simp only [go_sem] -- region 4
            repeat' (first | (refine AGet.haveM (by assumption) ?_; (try simp only [go_sem])) | (refine AGet.have' (by assumption) ?_; (try simp only [go_sem])) | ((first | refine AGet.nth ?_ (fun b hb => ?_) | refine AGet.nth1 ?_ (fun b hb => ?_) | with_reducible refine And.intro ?_ ?_); (focus ((first | omega | exact List.length_pos_iff.2 (by assumption) | (simp only [List.length_append, List.length_cons, List.length_nil, List.length_map, List.length_take, List.length_drop] at *; omega) | (rw [wrap64_id (by omega) (by omega)]; omega) | (simp; done)))); (try simp only [hb, go_sem])))
            refine hK7 _ ?_; clear hK7 K7
            refine AWP.ret ?_
            try simp only [go_sem]
            clear hK5 K5
            first
            | exact ⟨[], .v _, rfl, rfl, rfl, rfl⟩
            | exact ⟨[], .v _, rfl, rfl, by rw [put_no (by assumption)]; rfl, rfl⟩
            | skip)
        · first | exact Bool.noConfusion c36 | (
            try simp only [dD] at c36
            refine AWP.skip ?_
            refine hK5 _ ?_; clear hK5 K5
            refine AWP.seqk fun K8 hK8 => ?_
            refine AWP.region ?_
            simp only [go_sem] -- region 5
            repeat' (first | (refine ACall.of (mput_c _) (by kernel_rfl) rfl ?_; rintro r t ⟨rfl, rfl⟩ <;> simp only [go_sem]) | (refine AGet.haveM (by assumption) ?_; (try simp only [go_sem])) | (refine AGet.have' (by assumption) ?_; (try simp only [go_sem])) | ((first | refine AGet.nth ?_ (fun b hb => ?_) | refine AGet.nth1 ?_ (fun b hb => ?_) | with_reducible refine And.intro ?_ ?_); (focus ((first | omega | exact List.length_pos_iff.2 (by assumption) | (simp only [List.length_append, List.length_cons, List.length_nil, List.length_map, List.length_take, List.length_drop] at *; omega) | (rw [wrap64_id (by omega) (by omega)]; omega) | (simp; done)))); (try simp only [hb, go_sem])))
            refine hK8 _ ?_; clear hK8 K8
            refine AWP.seqk fun K9 hK9 => ?_
            refine AWP.seqk fun K10 hK10 => ?_
            refine AWP.region ?_
            simp only [go_sem] -- region 6
            repeat' (first | (refine AGet.haveM (by assumption) ?_; (try simp only [go_sem])) | (refine AGet.have' (by assumption) ?_; (try simp only [go_sem])) | ((first | refine AGet.nth ?_ (fun b hb => ?_) | refine AGet.nth1 ?_ (fun b hb => ?_) | with_reducible refine And.intro ?_ ?_); (focus ((first | omega | exact List.length_pos_iff.2 (by assumption) | (simp only [List.length_append, List.length_cons, List.length_nil, List.length_map, List.length_take, List.length_drop] at *; omega) | (rw [wrap64_id (by omega) (by omega)]; omega) | (simp; done)))); (try simp only [hb, go_sem])))
            refine hK10 _ ?_; clear hK10 K10
            refine AWP.cond rfl (fun c43 => ?_) (fun c43 => ?_)
            · first | exact Bool.noConfusion c43 | (
                try simp only [dD] at c43
                refine AWP.seqk fun K11 hK11 => ?_
                refine AWP.region ?_
                simp only [go_sem] -- region 7
                repeat' (first | (refine AGet.haveM (by assumption) ?_; (try simp only [go_sem])) | (refine AGet.have' (by assumption) ?_; (try simp only [go_sem])) | ((first | refine AGet.nth ?_ (fun b hb => ?_) | refine AGet.nth1 ?_ (fun b hb => ?_) | with_reducible refine And.intro ?_ ?_); (focus ((first | omega | exact List.length_pos_iff.2 (by assumption) | (simp only [List.length_append, List.length_cons, List.length_nil, List.length_map, List.length_take, List.length_drop] at *; omega) | (rw [wrap64_id (by omega) (by omega)]; omega) | (simp; done)))); (try simp only [hb, go_sem])))
                refine hK11 _ ?_; clear hK11 K11
                refine AWP.ret ?_
                try simp only [go_sem]
                clear hK9 K9
                first
                | exact ⟨[], .v _, rfl, rfl, rfl, rfl⟩
                | exact ⟨[], .v _, rfl, rfl, by rw [put_no (by assumption)]; rfl, rfl⟩
                | skip)
            · first | exact Bool.noConfusion c43 | (
                try simp only [dD] at c43
                refine AWP.skip ?_
                refine hK9 _ ?_; clear hK9 K9
                refine AWP.seqk fun K12 hK12 => ?_
                refine AWP.seqk fun K13 hK13 => ?_
                refine AWP.region ?_
                simp only [go_sem] -- region 8
                repeat' (first | (refine AGet.haveM (by assumption) ?_; (try simp only [go_sem])) | (refine AGet.have' (by assumption) ?_; (try simp only [go_sem])) | ((first | refine AGet.nth ?_ (fun b hb => ?_) | refine AGet.nth1 ?_ (fun b hb => ?_) | with_reducible refine And.intro ?_ ?_); (focus ((first | omega | exact List.length_pos_iff.2 (by assumption) | (simp only [List.length_append, List.length_cons, List.length_nil, List.length_map, List.length_take, List.length_drop] at *; omega) | (rw [wrap64_id (by omega) (by omega)]; omega) | (simp; done)))); (try simp only [hb, go_sem])))
                refine hK13 _ ?_; clear hK13 K13
                refine AWP.block ?_ -- 0
                refine AWP.loopO (ι := Nat) [8, 47, 48, 49, 50, 51, 52, 53, 54, 55, 56, 57] (fun (i : Nat) => [(11, i64 i)]) (fun (i : Nat) => []) (fun (i : Nat) => [(putB bd).1.length]) (fun (i : Nat) => i ≤ ja.length ∧ (56 : UInt8) ∉ ja.take i) (fun (i : Nat) => ja.length - i) (0) ?_ ?_ ?_
                · (try simp only [go_sem]); try (simp; done)
                · simp
                rintro i ⟨h1, h2⟩
                simp only [go_sem]
                refine AWP.seqk fun K14 hK14 => ?_
                refine AWP.seqk fun K15 hK15 => ?_
                refine AWP.region ?_
                simp only [go_sem] -- region 9
                repeat' (first | (refine AGet.haveM (by assumption) ?_; (try simp only [go_sem])) | (refine AGet.have' (by assumption) ?_; (try simp only [go_sem])) | ((first | refine AGet.nth ?_ (fun b hb => ?_) | refine AGet.nth1 ?_ (fun b hb => ?_) | with_reducible refine And.intro ?_ ?_); (focus ((first | omega | exact List.length_pos_iff.2 (by assumption) | (simp only [List.length_append, List.length_cons, List.length_nil, List.length_map, List.length_take, List.length_drop] at *; omega) | (rw [wrap64_id (by omega) (by omega)]; omega) | (simp; done)))); (try simp only [hb, go_sem])))
                refine hK15 _ ?_; clear hK15 K15
                refine AWP.cond rfl (fun c50 => ?_) (fun c50 => ?_)
                · first | exact Bool.noConfusion c50 | (
                    try simp only [dD] at c50
                    refine AWP.skip ?_
                    refine hK14 _ ?_; clear hK14 K14
                    refine AWP.seqk fun K16 hK16 => ?_
                    refine AWP.block ?_ -- 1
                    refine AWP.seqk fun K17 hK17 => ?_
                    refine AWP.region ?_
                    simp only [go_sem] -- region 11
                    repeat' (first | (refine AGet.haveM (by assumption) ?_; (try simp only [go_sem])) | (refine AGet.have' (by assumption) ?_; (try simp only [go_sem])) | ((first | refine AGet.nth ?_ (fun b hb => ?_) | refine AGet.nth1 ?_ (fun b hb => ?_) | with_reducible refine And.intro ?_ ?_); (focus ((first | omega | exact List.length_pos_iff.2 (by assumption) | (simp only [List.length_append, List.length_cons, List.length_nil, List.length_map, List.length_take, List.length_drop] at *; omega) | (rw [wrap64_id (by omega) (by omega)]; omega) | (simp; done)))); (try simp only [hb, go_sem])))
                    refine hK17 _ ?_; clear hK17 K17
                    refine AWP.cond rfl (fun c57 => ?_) (fun c57 => ?_)
                    · first | exact Bool.noConfusion c57 | (
                        try simp only [dD] at c57
                        refine AWP.seqk fun K18 hK18 => ?_
                        refine AWP.region ?_
                        simp only [go_sem] -- region 12
                        repeat' (first | (refine AGet.haveM (by assumption) ?_; (try simp only [go_sem])) | (refine AGet.have' (by assumption) ?_; (try simp only [go_sem])) | ((first | refine AGet.nth ?_ (fun b hb => ?_) | refine AGet.nth1 ?_ (fun b hb => ?_) | with_reducible refine And.intro ?_ ?_); (focus ((first | omega | exact List.length_pos_iff.2 (by assumption) | (simp only [List.length_append, List.length_cons, List.length_nil, List.length_map, List.length_take, List.length_drop] at *; omega) | (rw [wrap64_id (by omega) (by omega)]; omega) | (simp; done)))); (try simp only [hb, go_sem])))
                        refine hK18 _ ?_; clear hK18 K18
                        refine AWP.ret ?_
                        try simp only [go_sem]
                        clear hK16 K16 hK12 K12
                        first
                        | exact ⟨[], .v _, rfl, rfl, rfl, rfl⟩
                        | exact ⟨[], .v _, rfl, rfl, by rw [put_no (by assumption)]; rfl, rfl⟩
                        | skip)
                    · first | exact Bool.noConfusion c57 | (
                        try simp only [dD] at c57
                        refine AWP.skip ?_
                        refine hK16 _ ?_; clear hK16 K16
                        refine AWP.region ?_
                        simp only [go_sem] -- region 10
                        repeat' (first | (refine AGet.haveM (by assumption) ?_; (try simp only [go_sem])) | (refine AGet.have' (by assumption) ?_; (try simp only [go_sem])) | ((first | refine AGet.nth ?_ (fun b hb => ?_) | refine AGet.nth1 ?_ (fun b hb => ?_) | with_reducible refine And.intro ?_ ?_); (focus ((first | omega | exact List.length_pos_iff.2 (by assumption) | (simp only [List.length_append, List.length_cons, List.length_nil, List.length_map, List.length_take, List.length_drop] at *; omega) | (rw [wrap64_id (by omega) (by omega)]; omega) | (simp; done)))); (try simp only [hb, go_sem])))
                        clear hK12 K12
                        refine ⟨i + 1, ?_, ?_, ?_⟩
                        · (try simp only [go_sem]); (try rw [wrap64_id (by omega) (by omega)]); simp
                        · exact ⟨by omega, nmem_next hb h2 (u8_ne (n := 56) (by assumption) rfl)⟩
                        · omega))
                · first | exact Bool.noConfusion c50 | (
                    try simp only [dD] at c50
                    refine AWP.exit ?_
                    simp only [go_sem]
                    clear hK14 K14
                    refine hK12 _ ?_; clear hK12 K12
                    refine AWP.seqk fun K19 hK19 => ?_
                    have h8 := no8_done (by assumption) h2
                    have hok : (putB bd).2 = 0 := by assumption
                    have hpos := put_pos hok
                    refine AWP.region ?_
                    simp only [go_sem, List.nil_append] -- region 13
                    repeat' (first | (refine AGet.haveM (by assumption) ?_; (try simp only [go_sem, List.nil_append])) | (refine AGet.have' (by assumption) ?_; (try simp only [go_sem, List.nil_append])) | ((first | refine AGet.nth ?_ (fun b hb => ?_) | refine AGet.nth1 ?_ (fun b hb => ?_) | with_reducible refine And.intro ?_ ?_); (focus ((first | omega | exact List.length_pos_iff.2 (by assumption) | (simp only [List.length_append, List.length_cons, List.length_nil, List.length_map, List.length_take, List.length_drop] at *; omega) | (rw [wrap64_id (by omega) (by omega)]; omega) | (simp; done)))); (try simp only [hb, go_sem, List.nil_append])))
                    refine hK19 _ ?_; clear hK19 K19
                    refine AWP.seqk fun K20 hK20 => ?_
                    refine AWP.seqk fun K21 hK21 => ?_
                    refine AWP.region ?_
                    simp only [go_sem] -- region 14
                    repeat' (first | (refine AGet.haveM (by assumption) ?_; (try simp only [go_sem])) | (refine AGet.have' (by assumption) ?_; (try simp only [go_sem])) | ((first | refine AGet.nth ?_ (fun b hb => ?_) | refine AGet.nth1 ?_ (fun b hb => ?_) | with_reducible refine And.intro ?_ ?_); (focus ((first | omega | exact List.length_pos_iff.2 (by assumption) | (simp only [List.length_append, List.length_cons, List.length_nil, List.length_map, List.length_take, List.length_drop] at *; omega) | (rw [wrap64_id (by omega) (by omega)]; omega) | (simp; done)))); (try simp only [hb, go_sem])))
                    refine hK21 _ ?_; clear hK21 K21
                    refine AWP.cond rfl (fun c67 => ?_) (fun c67 => ?_)
                    · first | exact Bool.noConfusion c67 | (
                        try simp only [dD] at c67
                        refine AWP.seqk fun K22 hK22 => ?_
                        refine AWP.region ?_
                        simp only [go_sem] -- region 15
                        repeat' (first | (refine ACall.of (mnext_c _ (by (try simp only [List.length_append, List.length_take, List.length_drop]); omega)) (by kernel_rfl) rfl ?_; rintro r t ⟨rfl, rfl⟩ <;> simp only [go_sem]) | (refine AGet.haveM (by assumption) ?_; (try simp only [go_sem])) | (refine AGet.have' (by assumption) ?_; (try simp only [go_sem])) | ((first | refine AGet.nth ?_ (fun b hb => ?_) | refine AGet.nth1 ?_ (fun b hb => ?_) | with_reducible refine And.intro ?_ ?_); (focus ((first | omega | exact List.length_pos_iff.2 (by assumption) | (simp only [List.length_append, List.length_cons, List.length_nil, List.length_map, List.length_take, List.length_drop] at *; omega) | (rw [wrap64_id (by omega) (by omega)]; omega) | (simp; done)))); (try simp only [hb, go_sem])))
                        refine hK22 _ ?_; clear hK22 K22
                        refine AWP.seqk fun K23 hK23 => ?_
                        refine AWP.seqk fun K24 hK24 => ?_
                        have hn := next_junk h8 (ne_of (by assumption)) (begins_put hok mo)
                        rw [← List.append_assoc] at hn
                        simp only [hn]
                        refine AWP.region ?_
                        simp only [go_sem] -- region 16
                        repeat' (first | (refine AGuard.splitN (fun h => ?_) (fun h => ?_) <;> simp only [h, go_sem] <;> try simp only [dD] at h) | (refine AGuard.split (fun h => ?_) (fun h => ?_) <;> simp only [h, go_sem] <;> try simp only [dD] at h) | (refine AGet.haveM (by assumption) ?_; (try simp only [go_sem])) | (refine AGet.have' (by assumption) ?_; (try simp only [go_sem])) | ((first | refine AGet.nth ?_ (fun b hb => ?_) | refine AGet.nth1 ?_ (fun b hb => ?_) | with_reducible refine And.intro ?_ ?_); (focus ((first | omega | exact List.length_pos_iff.2 (by assumption) | (simp only [List.length_append, List.length_cons, List.length_nil, List.length_map, List.length_take, List.length_drop] at *; omega) | (rw [wrap64_id (by omega) (by omega)]; omega) | (simp; done)))); (try simp only [hb, go_sem])))
                        all_goals (
                          refine hK24 _ ?_; clear hK24 K24
                          refine AWP.cond rfl (fun c86 => ?_) (fun c86 => ?_)
                          · first | exact Bool.noConfusion c86 | (
                              try simp only [dD] at c86
                              refine AWP.seqk fun K25 hK25 => ?_
                              refine AWP.region ?_
                              simp only [go_sem] -- region 17
                              repeat' (first | (refine AGet.haveM (by assumption) ?_; (try simp only [go_sem])) | (refine AGet.have' (by assumption) ?_; (try simp only [go_sem])) | ((first | refine AGet.nth ?_ (fun b hb => ?_) | refine AGet.nth1 ?_ (fun b hb => ?_) | with_reducible refine And.intro ?_ ?_); (focus ((first | omega | exact List.length_pos_iff.2 (by assumption) | (simp only [List.length_append, List.length_cons, List.length_nil, List.length_map, List.length_take, List.length_drop] at *; omega) | (rw [wrap64_id (by omega) (by omega)]; omega) | (simp; done)))); (try simp only [hb, go_sem])))
                              refine hK25 _ ?_; clear hK25 K25
                              refine AWP.ret ?_
                              try simp only [go_sem]
                              clear hK23 K23 hK20 K20
                              first
                              | exact ⟨[], .v _, rfl, rfl, rfl, rfl⟩
                              | exact ⟨[], .v _, rfl, rfl, by rw [put_no (by assumption)]; rfl, rfl⟩
                              | skip)
                          · first | exact Bool.noConfusion c86 | (
                              try simp only [dD] at c86
                              refine AWP.skip ?_
                              refine hK23 _ ?_; clear hK23 K23
                              refine AWP.region ?_
                              simp only [go_sem, List.append_assoc, List.drop_left] -- region 18
                              repeat' (first | (refine AGet.haveM (by assumption) ?_; (try simp only [go_sem, List.append_assoc, List.drop_left])) | (refine AGet.have' (by assumption) ?_; (try simp only [go_sem, List.append_assoc, List.drop_left])) | ((first | refine AGet.nth ?_ (fun b hb => ?_) | refine AGet.nth1 ?_ (fun b hb => ?_) | with_reducible refine And.intro ?_ ?_); (focus ((first | omega | exact List.length_pos_iff.2 (by assumption) | (simp only [List.length_append, List.length_cons, List.length_nil, List.length_map, List.length_take, List.length_drop] at *; omega) | (rw [wrap64_id (by omega) (by omega)]; omega) | (simp; done)))); (try simp only [hb, go_sem, List.append_assoc, List.drop_left])))
                              refine hK20 _ ?_; clear hK20 K20
                              refine AWP.seqk fun K26 hK26 => ?_
                              try (have hja := nil_of (l := ja) (by assumption)
                                   subst hja
                                   simp only [List.nil_append])
                              refine AWP.region ?_
                              simp only [go_sem] -- region 19
                              repeat' (first | (refine ACall.of (mnext_c _ (by (try simp only [List.length_append, List.length_take, List.length_drop]); omega)) (by kernel_rfl) rfl ?_; rintro r t ⟨rfl, rfl⟩ <;> simp only [go_sem]) | (refine AGet.haveM (by assumption) ?_; (try simp only [go_sem])) | (refine AGet.have' (by assumption) ?_; (try simp only [go_sem])) | ((first | refine AGet.nth ?_ (fun b hb => ?_) | refine AGet.nth1 ?_ (fun b hb => ?_) | with_reducible refine And.intro ?_ ?_); (focus ((first | omega | exact List.length_pos_iff.2 (by assumption) | (simp only [List.length_append, List.length_cons, List.length_nil, List.length_map, List.length_take, List.length_drop] at *; omega) | (rw [wrap64_id (by omega) (by omega)]; omega) | (simp; done)))); (try simp only [hb, go_sem])))
                              refine hK26 _ ?_; clear hK26 K26
                              refine AWP.seqk fun K27 hK27 => ?_
                              refine AWP.seqk fun K28 hK28 => ?_
                              have hn2 := next_put hok mo
                              simp only [hn2]
                              refine AWP.region ?_
                              simp only [go_sem] -- region 20
                              repeat' (first | (refine AGuard.splitN (fun h => ?_) (fun h => ?_) <;> simp only [h, go_sem] <;> try simp only [dD] at h) | (refine AGuard.split (fun h => ?_) (fun h => ?_) <;> simp only [h, go_sem] <;> try simp only [dD] at h) | (refine AGet.haveM (by assumption) ?_; (try simp only [go_sem])) | (refine AGet.have' (by assumption) ?_; (try simp only [go_sem])) | ((first | refine AGet.nth ?_ (fun b hb => ?_) | refine AGet.nth1 ?_ (fun b hb => ?_) | with_reducible refine And.intro ?_ ?_); (focus ((first | omega | exact List.length_pos_iff.2 (by assumption) | (simp only [List.length_append, List.length_cons, List.length_nil, List.length_map, List.length_take, List.length_drop] at *; omega) | (rw [wrap64_id (by omega) (by omega)]; omega) | (simp; done)))); (try simp only [hb, go_sem])))
                              all_goals (
                                refine hK28 _ ?_; clear hK28 K28
                                refine AWP.cond rfl (fun c110 => ?_) (fun c110 => ?_)
                                · first | exact Bool.noConfusion c110 | (
                                    try simp only [dD] at c110
                                    refine AWP.seqk fun K29 hK29 => ?_
                                    refine AWP.region ?_
                                    simp only [go_sem] -- region 21
                                    repeat' (first | (refine AGet.haveM (by assumption) ?_; (try simp only [go_sem])) | (refine AGet.have' (by assumption) ?_; (try simp only [go_sem])) | ((first | refine AGet.nth ?_ (fun b hb => ?_) | refine AGet.nth1 ?_ (fun b hb => ?_) | with_reducible refine And.intro ?_ ?_); (focus ((first | omega | exact List.length_pos_iff.2 (by assumption) | (simp only [List.length_append, List.length_cons, List.length_nil, List.length_map, List.length_take, List.length_drop] at *; omega) | (rw [wrap64_id (by omega) (by omega)]; omega) | (simp; done)))); (try simp only [hb, go_sem])))
                                    refine hK29 _ ?_; clear hK29 K29
                                    refine AWP.ret ?_
                                    try simp only [go_sem]
                                    clear hK27 K27
                                    first
                                    | exact ⟨[], .v _, rfl, rfl, rfl, rfl⟩
                                    | exact ⟨[], .v _, rfl, rfl, by rw [put_no (by assumption)]; rfl, rfl⟩
                                    | skip)
                                · first | exact Bool.noConfusion c110 | (
                                    try simp only [dD] at c110
                                    refine AWP.skip ?_
                                    refine hK27 _ ?_; clear hK27 K27
                                    refine AWP.seqk fun K30 hK30 => ?_
                                    obtain ⟨q, hq, hql⟩ := mod_lt' hc0 hc1 hpos (by omega)
                                    refine AWP.region ?_
                                    simp only [go_sem, hq] -- region 22
                                    repeat' (first | (refine ACall.of (mnext_c _ (by (try simp only [List.length_append, List.length_take, List.length_drop]); omega)) (by kernel_rfl) rfl ?_; rintro r t ⟨rfl, rfl⟩ <;> simp only [go_sem, hq]) | (refine AGet.haveM (by assumption) ?_; (try simp only [go_sem, hq])) | (refine AGet.have' (by assumption) ?_; (try simp only [go_sem, hq])) | ((first | refine AGet.nth ?_ (fun b hb => ?_) | refine AGet.nth1 ?_ (fun b hb => ?_) | with_reducible refine And.intro ?_ ?_); (focus ((first | omega | exact List.length_pos_iff.2 (by assumption) | (simp only [List.length_append, List.length_cons, List.length_nil, List.length_map, List.length_take, List.length_drop] at *; omega) | (rw [wrap64_id (by omega) (by omega)]; omega) | (simp; done)))); (try simp only [hb, go_sem, hq])))
                                    refine hK30 _ ?_; clear hK30 K30
                                    refine AWP.seqk fun K31 hK31 => ?_
                                    have hn3 := (next_part hok hql).1
                                    simp only [hn3]
                                    refine AWP.region ?_
                                    simp only [go_sem] -- region 23
                                    repeat' (first | (refine AGuard.splitN (fun h => ?_) (fun h => ?_) <;> simp only [h, go_sem] <;> try simp only [dD] at h) | (refine AGuard.split (fun h => ?_) (fun h => ?_) <;> simp only [h, go_sem] <;> try simp only [dD] at h) | (refine AGet.haveM (by assumption) ?_; (try simp only [go_sem])) | (refine AGet.have' (by assumption) ?_; (try simp only [go_sem])) | ((first | refine AGet.nth ?_ (fun b hb => ?_) | refine AGet.nth1 ?_ (fun b hb => ?_) | with_reducible refine And.intro ?_ ?_); (focus ((first | omega | exact List.length_pos_iff.2 (by assumption) | (simp only [List.length_append, List.length_cons, List.length_nil, List.length_map, List.length_take, List.length_drop] at *; omega) | (rw [wrap64_id (by omega) (by omega)]; omega) | (simp; done)))); (try simp only [hb, go_sem])))
                                    all_goals (
                                      refine hK31 _ ?_; clear hK31 K31
                                      refine AWP.ret ?_
                                      try simp only [go_sem]
                                      first
                                      | exact ⟨[], .v _, rfl, rfl, rfl, rfl⟩
                                      | exact ⟨[], .v _, rfl, rfl, by rw [put_no (by assumption)]; rfl, rfl⟩
                                      | skip))))))
                    · first | exact Bool.noConfusion c67 | (
                        try simp only [dD] at c67
                        refine AWP.skip ?_
                        refine hK20 _ ?_; clear hK20 K20
                        refine AWP.seqk fun K32 hK32 => ?_
                        try (have hja := nil_of (l := ja) (by assumption)
                             subst hja
                             simp only [List.nil_append])
                        refine AWP.region ?_
                        simp only [go_sem] -- region 19
                        repeat' (first | (refine ACall.of (mnext_c _ (by (try simp only [List.length_append, List.length_take, List.length_drop]); omega)) (by kernel_rfl) rfl ?_; rintro r t ⟨rfl, rfl⟩ <;> simp only [go_sem]) | (refine AGet.haveM (by assumption) ?_; (try simp only [go_sem])) | (refine AGet.have' (by assumption) ?_; (try simp only [go_sem])) | ((first | refine AGet.nth ?_ (fun b hb => ?_) | refine AGet.nth1 ?_ (fun b hb => ?_) | with_reducible refine And.intro ?_ ?_); (focus ((first | omega | exact List.length_pos_iff.2 (by assumption) | (simp only [List.length_append, List.length_cons, List.length_nil, List.length_map, List.length_take, List.length_drop] at *; omega) | (rw [wrap64_id (by omega) (by omega)]; omega) | (simp; done)))); (try simp only [hb, go_sem])))
                        refine hK32 _ ?_; clear hK32 K32
                        refine AWP.seqk fun K33 hK33 => ?_
                        refine AWP.seqk fun K34 hK34 => ?_
                        have hn2 := next_put hok mo
                        simp only [hn2]
                        refine AWP.region ?_
                        simp only [go_sem] -- region 20
                        repeat' (first | (refine AGuard.splitN (fun h => ?_) (fun h => ?_) <;> simp only [h, go_sem] <;> try simp only [dD] at h) | (refine AGuard.split (fun h => ?_) (fun h => ?_) <;> simp only [h, go_sem] <;> try simp only [dD] at h) | (refine AGet.haveM (by assumption) ?_; (try simp only [go_sem])) | (refine AGet.have' (by assumption) ?_; (try simp only [go_sem])) | ((first | refine AGet.nth ?_ (fun b hb => ?_) | refine AGet.nth1 ?_ (fun b hb => ?_) | with_reducible refine And.intro ?_ ?_); (focus ((first | omega | exact List.length_pos_iff.2 (by assumption) | (simp only [List.length_append, List.length_cons, List.length_nil, List.length_map, List.length_take, List.length_drop] at *; omega) | (rw [wrap64_id (by omega) (by omega)]; omega) | (simp; done)))); (try simp only [hb, go_sem])))
                        all_goals (
                          refine hK34 _ ?_; clear hK34 K34
                          refine AWP.cond rfl (fun c110 => ?_) (fun c110 => ?_)
                          · first | exact Bool.noConfusion c110 | (
                              try simp only [dD] at c110
                              refine AWP.seqk fun K35 hK35 => ?_
                              refine AWP.region ?_
                              simp only [go_sem] -- region 21
                              repeat' (first | (refine AGet.haveM (by assumption) ?_; (try simp only [go_sem])) | (refine AGet.have' (by assumption) ?_; (try simp only [go_sem])) | ((first | refine AGet.nth ?_ (fun b hb => ?_) | refine AGet.nth1 ?_ (fun b hb => ?_) | with_reducible refine And.intro ?_ ?_); (focus ((first | omega | exact List.length_pos_iff.2 (by assumption) | (simp only [List.length_append, List.length_cons, List.length_nil, List.length_map, List.length_take, List.length_drop] at *; omega) | (rw [wrap64_id (by omega) (by omega)]; omega) | (simp; done)))); (try simp only [hb, go_sem])))
                              refine hK35 _ ?_; clear hK35 K35
                              refine AWP.ret ?_
                              try simp only [go_sem]
                              clear hK33 K33
                              first
                              | exact ⟨[], .v _, rfl, rfl, rfl, rfl⟩
                              | exact ⟨[], .v _, rfl, rfl, by rw [put_no (by assumption)]; rfl, rfl⟩
                              | skip)
                          · first | exact Bool.noConfusion c110 | (
                              try simp only [dD] at c110
                              refine AWP.skip ?_
                              refine hK33 _ ?_; clear hK33 K33
                              refine AWP.seqk fun K36 hK36 => ?_
                              obtain ⟨q, hq, hql⟩ := mod_lt' hc0 hc1 hpos (by omega)
                              refine AWP.region ?_
                              simp only [go_sem, hq] -- region 22
                              repeat' (first | (refine ACall.of (mnext_c _ (by (try simp only [List.length_append, List.length_take, List.length_drop]); omega)) (by kernel_rfl) rfl ?_; rintro r t ⟨rfl, rfl⟩ <;> simp only [go_sem, hq]) | (refine AGet.haveM (by assumption) ?_; (try simp only [go_sem, hq])) | (refine AGet.have' (by assumption) ?_; (try simp only [go_sem, hq])) | ((first | refine AGet.nth ?_ (fun b hb => ?_) | refine AGet.nth1 ?_ (fun b hb => ?_) | with_reducible refine And.intro ?_ ?_); (focus ((first | omega | exact List.length_pos_iff.2 (by assumption) | (simp only [List.length_append, List.length_cons, List.length_nil, List.length_map, List.length_take, List.length_drop] at *; omega) | (rw [wrap64_id (by omega) (by omega)]; omega) | (simp; done)))); (try simp only [hb, go_sem, hq])))
                              refine hK36 _ ?_; clear hK36 K36
                              refine AWP.seqk fun K37 hK37 => ?_
                              have hn3 := (next_part hok hql).1
                              simp only [hn3]
                              refine AWP.region ?_
                              simp only [go_sem] -- region 23
                              repeat' (first | (refine AGuard.splitN (fun h => ?_) (fun h => ?_) <;> simp only [h, go_sem] <;> try simp only [dD] at h) | (refine AGuard.split (fun h => ?_) (fun h => ?_) <;> simp only [h, go_sem] <;> try simp only [dD] at h) | (refine AGet.haveM (by assumption) ?_; (try simp only [go_sem])) | (refine AGet.have' (by assumption) ?_; (try simp only [go_sem])) | ((first | refine AGet.nth ?_ (fun b hb => ?_) | refine AGet.nth1 ?_ (fun b hb => ?_) | with_reducible refine And.intro ?_ ?_); (focus ((first | omega | exact List.length_pos_iff.2 (by assumption) | (simp only [List.length_append, List.length_cons, List.length_nil, List.length_map, List.length_take, List.length_drop] at *; omega) | (rw [wrap64_id (by omega) (by omega)]; omega) | (simp; done)))); (try simp only [hb, go_sem])))
                              all_goals (
                                refine hK37 _ ?_; clear hK37 K37
                                refine AWP.ret ?_
                                try simp only [go_sem]
                                first
                                | exact ⟨[], .v _, rfl, rfl, rfl, rfl⟩
                                | exact ⟨[], .v _, rfl, rfl, by rw [put_no (by assumption)]; rfl, rfl⟩
                                | skip)))))))))


set_option maxHeartbeats 4000000 in
set_option maxRecDepth 8000 in
theorem fr_goes_c (bs : Bs) : ACalls E 10 [bytesV bs] (fun r t => r = bl true ∧ t = []) := by -- checkroll/checkrolllaw03.FrameGoes
  refine ACalls.of_awp (n := 80) (rs := [.tmp 2]) Tryd.func10 rfl Tryd.ntmps10 rfl ?_
  refine AWP.seqk fun K1 hK1 => ?_
  refine AWP.region ?_
  simp only [go_sem] -- region 0
  repeat' (first | (refine AGet.haveM (by assumption) ?_; (try simp only [go_sem])) | (refine AGet.have' (by assumption) ?_; (try simp only [go_sem])) | ((first | refine AGet.nth ?_ (fun b hb => ?_) | refine AGet.nth1 ?_ (fun b hb => ?_) | with_reducible refine And.intro ?_ ?_); (focus ((first | omega | exact List.length_pos_iff.2 (by assumption) | (simp only [List.length_append, List.length_cons, List.length_nil, List.length_map, List.length_take, List.length_drop] at *; omega) | (rw [wrap64_id (by omega) (by omega)]; omega) | (simp; done)))); (try simp only [hb, go_sem])))
  refine hK1 _ ?_; clear hK1 K1
  refine AWP.seqk fun K2 hK2 => ?_
  refine AWP.seqk fun K3 hK3 => ?_
  refine AWP.region ?_
  simp only [go_sem] -- region 1
  repeat' (first | (refine ACall.one (awake3_c ) (by kernel_rfl) rfl ?_; simp only [go_sem]) | (refine AGet.haveM (by assumption) ?_; (try simp only [go_sem])) | (refine AGet.have' (by assumption) ?_; (try simp only [go_sem])) | ((first | refine AGet.nth ?_ (fun b hb => ?_) | refine AGet.nth1 ?_ (fun b hb => ?_) | with_reducible refine And.intro ?_ ?_); (focus ((first | omega | exact List.length_pos_iff.2 (by assumption) | (simp only [List.length_append, List.length_cons, List.length_nil, List.length_map, List.length_take, List.length_drop] at *; omega) | (rw [wrap64_id (by omega) (by omega)]; omega) | (simp; done)))); (try simp only [hb, go_sem])))
  refine hK3 _ ?_; clear hK3 K3
  refine AWP.cond rfl (fun c11 => ?_) (fun c11 => ?_)
  · first | exact Bool.noConfusion c11 | (
      try simp only [dD] at c11
      refine AWP.seqk fun K4 hK4 => ?_
      refine AWP.region ?_
      simp only [go_sem] -- region 2
      repeat' (first | (refine AGet.haveM (by assumption) ?_; (try simp only [go_sem])) | (refine AGet.have' (by assumption) ?_; (try simp only [go_sem])) | ((first | refine AGet.nth ?_ (fun b hb => ?_) | refine AGet.nth1 ?_ (fun b hb => ?_) | with_reducible refine And.intro ?_ ?_); (focus ((first | omega | exact List.length_pos_iff.2 (by assumption) | (simp only [List.length_append, List.length_cons, List.length_nil, List.length_map, List.length_take, List.length_drop] at *; omega) | (rw [wrap64_id (by omega) (by omega)]; omega) | (simp; done)))); (try simp only [hb, go_sem])))
      refine hK4 _ ?_; clear hK4 K4
      refine AWP.ret ?_
      try simp only [go_sem]
      clear hK2 K2
      first
      | exact ⟨[], .v _, rfl, rfl, rfl, rfl⟩
      | (exfalso; omega)
      | skip)
  · first | exact Bool.noConfusion c11 | (
      try simp only [dD] at c11
      refine AWP.skip ?_
      refine hK2 _ ?_; clear hK2 K2
      refine AWP.seqk fun K5 hK5 => ?_
      refine AWP.region ?_
      simp only [go_sem] -- region 3
      repeat' (first | (refine AGet.haveM (by assumption) ?_; (try simp only [go_sem])) | (refine AGet.have' (by assumption) ?_; (try simp only [go_sem])) | ((first | refine AGet.nth ?_ (fun b hb => ?_) | refine AGet.nth1 ?_ (fun b hb => ?_) | with_reducible refine And.intro ?_ ?_); (focus ((first | omega | exact List.length_pos_iff.2 (by assumption) | (simp only [List.length_append, List.length_cons, List.length_nil, List.length_map, List.length_take, List.length_drop] at *; omega) | (rw [wrap64_id (by omega) (by omega)]; omega) | (simp; done)))); (try simp only [hb, go_sem])))
      refine hK5 _ ?_; clear hK5 K5
      refine AWP.seqk fun K6 hK6 => ?_
      obtain ⟨b0, hb0, hb0l⟩ : ∃ b0 : Bs, bs.take (min (bs.length : Int) 3000).toNat = b0 ∧ b0.length ≤ 3000 := ⟨_, rfl, by rw [List.length_take]; omega⟩
      simp only [hb0]
      refine AWP.region ?_
      simp only [go_sem] -- region 4
      repeat' (first | (refine AGet.haveM (by assumption) ?_; (try simp only [go_sem])) | (refine AGet.have' (by assumption) ?_; (try simp only [go_sem])) | ((first | refine AGet.nth ?_ (fun b hb => ?_) | refine AGet.nth1 ?_ (fun b hb => ?_) | with_reducible refine And.intro ?_ ?_); (focus ((first | omega | exact List.length_pos_iff.2 (by assumption) | (simp only [List.length_append, List.length_cons, List.length_nil, List.length_map, List.length_take, List.length_drop] at *; omega) | (rw [wrap64_id (by omega) (by omega)]; omega) | (simp; done)))); (try simp only [hb, go_sem])))
      refine hK6 _ ?_; clear hK6 K6
      refine AWP.seqk fun K7 hK7 => ?_
      refine AWP.seqk fun K8 hK8 => ?_
      refine AWP.region ?_
      simp only [go_sem] -- region 5
      repeat' (first | (refine AGet.haveM (by assumption) ?_; (try simp only [go_sem])) | (refine AGet.have' (by assumption) ?_; (try simp only [go_sem])) | ((first | refine AGet.nth ?_ (fun b hb => ?_) | refine AGet.nth1 ?_ (fun b hb => ?_) | with_reducible refine And.intro ?_ ?_); (focus ((first | omega | exact List.length_pos_iff.2 (by assumption) | (simp only [List.length_append, List.length_cons, List.length_nil, List.length_map, List.length_take, List.length_drop] at *; omega) | (rw [wrap64_id (by omega) (by omega)]; omega) | (simp; done)))); (try simp only [hb, go_sem])))
      refine hK8 _ ?_; clear hK8 K8
      refine AWP.block ?_ -- 0
      refine AWP.loopO (ι := Bs × Nat) [2, 5, 6, 7, 8, 9, 19, 20, 21, 22, 23, 24, 25, 26, 27, 28, 29, 30, 31, 32, 33, 34, 35, 36, 37, 38, 39, 40, 41, 42, 43, 44, 45, 46, 47, 48, 49, 50, 51, 52, 53, 54, 55, 56, 57, 58, 59, 60, 61, 62, 63, 64, 65, 66, 67, 68, 69, 70, 71, 72, 73, 74, 75, 76] (fun ⟨rest, i⟩ => [(0, bytesV rest), (4, i64 i)]) (fun ⟨rest, i⟩ => []) (fun ⟨rest, i⟩ => []) (fun ⟨rest, i⟩ => rest.length + i ≤ b0.length) (fun ⟨rest, i⟩ => b0.length - i) ((b0, 0)) ?_ ?_ ?_
      · (try simp only [go_sem]); try (simp; done)
      · simp
      rintro ⟨rest, i⟩ hI
      simp only [go_sem]
      refine AWP.seqk fun K9 hK9 => ?_
      refine AWP.seqk fun K10 hK10 => ?_
      refine AWP.region ?_
      simp only [go_sem] -- region 6
      repeat' (first | (refine AGet.haveM (by assumption) ?_; (try simp only [go_sem])) | (refine AGet.have' (by assumption) ?_; (try simp only [go_sem])) | ((first | refine AGet.nth ?_ (fun b hb => ?_) | refine AGet.nth1 ?_ (fun b hb => ?_) | with_reducible refine And.intro ?_ ?_); (focus ((first | omega | exact List.length_pos_iff.2 (by assumption) | (simp only [List.length_append, List.length_cons, List.length_nil, List.length_map, List.length_take, List.length_drop] at *; omega) | (rw [wrap64_id (by omega) (by omega)]; omega) | (simp; done)))); (try simp only [hb, go_sem])))
      refine hK10 _ ?_; clear hK10 K10
      refine AWP.cond rfl (fun c21 => ?_) (fun c21 => ?_)
      · first | exact Bool.noConfusion c21 | (
          try simp only [dD] at c21
          refine AWP.skip ?_
          refine hK9 _ ?_; clear hK9 K9
          refine AWP.seqk fun K11 hK11 => ?_
          refine AWP.block ?_ -- 1
          refine AWP.seqk fun K12 hK12 => ?_
          refine AWP.region ?_
          simp only [go_sem] -- region 8
          repeat' (first | (refine ACall.of (mnext_c _ (by (try simp only [List.length_append, List.length_take, List.length_drop]); omega)) (by kernel_rfl) rfl ?_; rintro r t ⟨rfl, rfl⟩ <;> simp only [go_sem]) | (refine AGet.haveM (by assumption) ?_; (try simp only [go_sem])) | (refine AGet.have' (by assumption) ?_; (try simp only [go_sem])) | ((first | refine AGet.nth ?_ (fun b hb => ?_) | refine AGet.nth1 ?_ (fun b hb => ?_) | with_reducible refine And.intro ?_ ?_); (focus ((first | omega | exact List.length_pos_iff.2 (by assumption) | (simp only [List.length_append, List.length_cons, List.length_nil, List.length_map, List.length_take, List.length_drop] at *; omega) | (rw [wrap64_id (by omega) (by omega)]; omega) | (simp; done)))); (try simp only [hb, go_sem])))
          refine hK12 _ ?_; clear hK12 K12
          refine AWP.seqk fun K13 hK13 => ?_
          refine AWP.seqk fun K14 hK14 => ?_
          rcases next_cases rest with ⟨hk, hn⟩ | ⟨hk, hn, hj1, hj2⟩ | ⟨s, n, hk, hn, hle, hput, hbl⟩ <;> simp only [hn]
          all_goals (
            refine AWP.region ?_
            simp only [go_sem] -- region 9
            repeat' (first | (refine AGuard.splitN (fun h => ?_) (fun h => ?_) <;> simp only [h, go_sem] <;> try simp only [dD] at h) | (refine AGuard.split (fun h => ?_) (fun h => ?_) <;> simp only [h, go_sem] <;> try simp only [dD] at h) | (refine AGet.haveM (by assumption) ?_; (try simp only [go_sem])) | (refine AGet.have' (by assumption) ?_; (try simp only [go_sem])) | ((first | refine AGet.nth ?_ (fun b hb => ?_) | refine AGet.nth1 ?_ (fun b hb => ?_) | with_reducible refine And.intro ?_ ?_); (focus ((first | omega | exact List.length_pos_iff.2 (by assumption) | (simp only [List.length_append, List.length_cons, List.length_nil, List.length_map, List.length_take, List.length_drop] at *; omega) | (rw [wrap64_id (by omega) (by omega)]; omega) | (simp; done)))); (try simp only [hb, go_sem])))
            all_goals (
              refine hK14 _ ?_; clear hK14 K14
              refine AWP.cond rfl (fun c53 => ?_) (fun c53 => ?_)
              · first | exact Bool.noConfusion c53 | (
                  try simp only [dD] at c53
                  refine AWP.seqk fun K15 hK15 => ?_
                  refine AWP.region ?_
                  simp only [go_sem] -- region 10
                  repeat' (first | (refine AGet.haveM (by assumption) ?_; (try simp only [go_sem])) | (refine AGet.have' (by assumption) ?_; (try simp only [go_sem])) | ((first | refine AGet.nth ?_ (fun b hb => ?_) | refine AGet.nth1 ?_ (fun b hb => ?_) | with_reducible refine And.intro ?_ ?_); (focus ((first | omega | exact List.length_pos_iff.2 (by assumption) | (simp only [List.length_append, List.length_cons, List.length_nil, List.length_map, List.length_take, List.length_drop] at *; omega) | (rw [wrap64_id (by omega) (by omega)]; omega) | (simp; done)))); (try simp only [hb, go_sem])))
                  refine hK15 _ ?_; clear hK15 K15
                  refine AWP.ret ?_
                  try simp only [go_sem]
                  clear hK13 K13 hK11 K11 hK7 K7
                  first
                  | exact ⟨[], .v _, rfl, rfl, rfl, rfl⟩
                  | (exfalso; omega)
                  | skip)
              · first | exact Bool.noConfusion c53 | (
                  try simp only [dD] at c53
                  refine AWP.skip ?_
                  refine hK13 _ ?_; clear hK13 K13
                  refine AWP.seqk fun K16 hK16 => ?_
                  refine AWP.seqk fun K17 hK17 => ?_
                  refine AWP.region ?_
                  simp only [go_sem] -- region 11
                  repeat' (first | (refine AGet.haveM (by assumption) ?_; (try simp only [go_sem])) | (refine AGet.have' (by assumption) ?_; (try simp only [go_sem])) | ((first | refine AGet.nth ?_ (fun b hb => ?_) | refine AGet.nth1 ?_ (fun b hb => ?_) | with_reducible refine And.intro ?_ ?_); (focus ((first | omega | exact List.length_pos_iff.2 (by assumption) | (simp only [List.length_append, List.length_cons, List.length_nil, List.length_map, List.length_take, List.length_drop] at *; omega) | (rw [wrap64_id (by omega) (by omega)]; omega) | (simp; done)))); (try simp only [hb, go_sem])))
                  refine hK17 _ ?_; clear hK17 K17
                  refine AWP.cond rfl (fun c55 => ?_) (fun c55 => ?_)
                  · first | exact Bool.noConfusion c55 | (
                      try simp only [dD] at c55
                      refine AWP.seqk fun K18 hK18 => ?_
                      refine AWP.region ?_
                      simp only [go_sem] -- region 12
                      repeat' (first | (refine AGet.haveM (by assumption) ?_; (try simp only [go_sem])) | (refine AGet.have' (by assumption) ?_; (try simp only [go_sem])) | ((first | refine AGet.nth ?_ (fun b hb => ?_) | refine AGet.nth1 ?_ (fun b hb => ?_) | with_reducible refine And.intro ?_ ?_); (focus ((first | omega | exact List.length_pos_iff.2 (by assumption) | (simp only [List.length_append, List.length_cons, List.length_nil, List.length_map, List.length_take, List.length_drop] at *; omega) | (rw [wrap64_id (by omega) (by omega)]; omega) | (simp; done)))); (try simp only [hb, go_sem])))
                      refine hK18 _ ?_; clear hK18 K18
                      refine AWP.ret ?_
                      try simp only [go_sem]
                      clear hK16 K16 hK11 K11 hK7 K7
                      first
                      | exact ⟨[], .v _, rfl, rfl, rfl, rfl⟩
                      | (exfalso; omega)
                      | skip)
                  · first | exact Bool.noConfusion c55 | (
                      try simp only [dD] at c55
                      refine AWP.skip ?_
                      refine hK16 _ ?_; clear hK16 K16
                      refine AWP.seqk fun K19 hK19 => ?_
                      refine AWP.seqk fun K20 hK20 => ?_
                      refine AWP.region ?_
                      simp only [go_sem] -- region 13
                      repeat' (first | (refine AGet.haveM (by assumption) ?_; (try simp only [go_sem])) | (refine AGet.have' (by assumption) ?_; (try simp only [go_sem])) | ((first | refine AGet.nth ?_ (fun b hb => ?_) | refine AGet.nth1 ?_ (fun b hb => ?_) | with_reducible refine And.intro ?_ ?_); (focus ((first | omega | exact List.length_pos_iff.2 (by assumption) | (simp only [List.length_append, List.length_cons, List.length_nil, List.length_map, List.length_take, List.length_drop] at *; omega) | (rw [wrap64_id (by omega) (by omega)]; omega) | (simp; done)))); (try simp only [hb, go_sem])))
                      refine hK20 _ ?_; clear hK20 K20
                      refine AWP.cond rfl (fun c57 => ?_) (fun c57 => ?_)
                      · first | exact Bool.noConfusion c57 | (
                          try simp only [dD] at c57
                          refine AWP.seqk fun K21 hK21 => ?_
                          refine AWP.region ?_
                          simp only [go_sem] -- region 14
                          repeat' (first | (refine ACall.of (mput_c _) (by kernel_rfl) rfl ?_; rintro r t ⟨rfl, rfl⟩ <;> simp only [go_sem]) | (refine AGet.haveM (by assumption) ?_; (try simp only [go_sem])) | (refine AGet.have' (by assumption) ?_; (try simp only [go_sem])) | ((first | refine AGet.nth ?_ (fun b hb => ?_) | refine AGet.nth1 ?_ (fun b hb => ?_) | with_reducible refine And.intro ?_ ?_); (focus ((first | omega | exact List.length_pos_iff.2 (by assumption) | (simp only [List.length_append, List.length_cons, List.length_nil, List.length_map, List.length_take, List.length_drop] at *; omega) | (rw [wrap64_id (by omega) (by omega)]; omega) | (simp; done)))); (try simp only [hb, go_sem])))
                          refine hK21 _ ?_; clear hK21 K21
                          refine AWP.seqk fun K22 hK22 => ?_
                          simp only [hput]
                          refine AWP.regionAs [0, 1, 2, 3, 4, 5, 6, 7, 8, 9, 10] [[], [0], [0, 1], [0, 1, 2], [0, 1, 2, 3], [0, 1, 2], [0, 1, 2], [0, 1, 2, 5, 6], [0, 1, 2, 5, 6, 7], [0, 1, 2, 3, 4, 5, 6, 7, 8], [0, 1, 2, 3, 4, 5, 6, 7, 8, 9]] [] (by kernel_rfl) (by kernel_rfl) (by decide) rfl ?_
                          simp only [go_sem] -- region 15
                          repeat' (first | (refine AGuard.splitN (fun h => ?_) (fun h => ?_) <;> simp only [h, go_sem] <;> try simp only [dD] at h) | (refine AGuard.split (fun h => ?_) (fun h => ?_) <;> simp only [h, go_sem] <;> try simp only [dD] at h) | (refine AGet.haveM (by assumption) ?_; (try simp only [go_sem])) | (refine AGet.have' (by assumption) ?_; (try simp only [go_sem])) | ((first | refine AGet.nth ?_ (fun b hb => ?_) | refine AGet.nth1 ?_ (fun b hb => ?_) | with_reducible refine And.intro ?_ ?_); (focus ((first | omega | exact List.length_pos_iff.2 (by assumption) | (simp only [List.length_append, List.length_cons, List.length_nil, List.length_map, List.length_take, List.length_drop] at *; omega) | (rw [wrap64_id (by omega) (by omega)]; omega) | (simp; done)))); (try simp only [hb, go_sem])))
                          all_goals (
                            refine hK22 _ ?_; clear hK22 K22
                            refine AWP.cond rfl (fun c73 => ?_) (fun c73 => ?_)
                            · first | exact Bool.noConfusion c73 | (
                                try simp only [dD] at c73
                                refine AWP.seqk fun K23 hK23 => ?_
                                refine AWP.region ?_
                                simp only [go_sem] -- region 16
                                repeat' (first | (refine AGet.haveM (by assumption) ?_; (try simp only [go_sem])) | (refine AGet.have' (by assumption) ?_; (try simp only [go_sem])) | ((first | refine AGet.nth ?_ (fun b hb => ?_) | refine AGet.nth1 ?_ (fun b hb => ?_) | with_reducible refine And.intro ?_ ?_); (focus ((first | omega | exact List.length_pos_iff.2 (by assumption) | (simp only [List.length_append, List.length_cons, List.length_nil, List.length_map, List.length_take, List.length_drop] at *; omega) | (rw [wrap64_id (by omega) (by omega)]; omega) | (simp; done)))); (try simp only [hb, go_sem])))
                                refine hK23 _ ?_; clear hK23 K23
                                refine AWP.ret ?_
                                try simp only [go_sem]
                                clear hK19 K19 hK11 K11 hK7 K7
                                first
                                | exact ⟨[], .v _, rfl, rfl, rfl, rfl⟩
                                | (exfalso; omega)
                                | skip)
                            · first | exact Bool.noConfusion c73 | (
                                try simp only [dD] at c73
                                refine AWP.skip ?_
                                refine hK19 _ ?_; clear hK19 K19
                                refine AWP.region ?_
                                simp only [go_sem] -- region 17
                                repeat' (first | (refine AGet.haveM (by assumption) ?_; (try simp only [go_sem])) | (refine AGet.have' (by assumption) ?_; (try simp only [go_sem])) | ((first | refine AGet.nth ?_ (fun b hb => ?_) | refine AGet.nth1 ?_ (fun b hb => ?_) | with_reducible refine And.intro ?_ ?_); (focus ((first | omega | exact List.length_pos_iff.2 (by assumption) | (simp only [List.length_append, List.length_cons, List.length_nil, List.length_map, List.length_take, List.length_drop] at *; omega) | (rw [wrap64_id (by omega) (by omega)]; omega) | (simp; done)))); (try simp only [hb, go_sem])))
                                refine hK11 _ ?_; clear hK11 K11
                                refine AWP.region ?_
                                simp only [go_sem] -- region 7
                                repeat' (first | (refine AGet.haveM (by assumption) ?_; (try simp only [go_sem])) | (refine AGet.have' (by assumption) ?_; (try simp only [go_sem])) | ((first | refine AGet.nth ?_ (fun b hb => ?_) | refine AGet.nth1 ?_ (fun b hb => ?_) | with_reducible refine And.intro ?_ ?_); (focus ((first | omega | exact List.length_pos_iff.2 (by assumption) | (simp only [List.length_append, List.length_cons, List.length_nil, List.length_map, List.length_take, List.length_drop] at *; omega) | (rw [wrap64_id (by omega) (by omega)]; omega) | (simp; done)))); (try simp only [hb, go_sem])))
                                clear hK7 K7
                                rw [wrap64_id (by omega) (by omega)]
                                first
                                | (refine ⟨(rest.drop (junkF rest), i + 1), ?_, ?_, ?_⟩
                                   · simp; done
                                   · show (rest.drop (junkF rest)).length + (i + 1) ≤ b0.length; rw [List.length_drop]; omega
                                   · show b0.length - (i + 1) < b0.length - i; omega)
                                | (refine ⟨(rest.drop (s + n + 7), i + 1), ?_, ?_, ?_⟩
                                   · simp; done
                                   · show (rest.drop (s + n + 7)).length + (i + 1) ≤ b0.length; rw [List.length_drop]; omega
                                   · show b0.length - (i + 1) < b0.length - i; omega))))
                      · first | exact Bool.noConfusion c57 | (
                          try simp only [dD] at c57
                          refine AWP.skip ?_
                          refine hK19 _ ?_; clear hK19 K19
                          refine AWP.region ?_
                          simp only [go_sem] -- region 17
                          repeat' (first | (refine AGet.haveM (by assumption) ?_; (try simp only [go_sem])) | (refine AGet.have' (by assumption) ?_; (try simp only [go_sem])) | ((first | refine AGet.nth ?_ (fun b hb => ?_) | refine AGet.nth1 ?_ (fun b hb => ?_) | with_reducible refine And.intro ?_ ?_); (focus ((first | omega | exact List.length_pos_iff.2 (by assumption) | (simp only [List.length_append, List.length_cons, List.length_nil, List.length_map, List.length_take, List.length_drop] at *; omega) | (rw [wrap64_id (by omega) (by omega)]; omega) | (simp; done)))); (try simp only [hb, go_sem])))
                          refine hK11 _ ?_; clear hK11 K11
                          refine AWP.region ?_
                          simp only [go_sem] -- region 7
                          repeat' (first | (refine AGet.haveM (by assumption) ?_; (try simp only [go_sem])) | (refine AGet.have' (by assumption) ?_; (try simp only [go_sem])) | ((first | refine AGet.nth ?_ (fun b hb => ?_) | refine AGet.nth1 ?_ (fun b hb => ?_) | with_reducible refine And.intro ?_ ?_); (focus ((first | omega | exact List.length_pos_iff.2 (by assumption) | (simp only [List.length_append, List.length_cons, List.length_nil, List.length_map, List.length_take, List.length_drop] at *; omega) | (rw [wrap64_id (by omega) (by omega)]; omega) | (simp; done)))); (try simp only [hb, go_sem])))
                          clear hK7 K7
                          rw [wrap64_id (by omega) (by omega)]
                          first
                          | (refine ⟨(rest.drop (junkF rest), i + 1), ?_, ?_, ?_⟩
                             · simp; done
                             · show (rest.drop (junkF rest)).length + (i + 1) ≤ b0.length; rw [List.length_drop]; omega
                             · show b0.length - (i + 1) < b0.length - i; omega)
                          | (refine ⟨(rest.drop (s + n + 7), i + 1), ?_, ?_, ?_⟩
                             · simp; done
                             · show (rest.drop (s + n + 7)).length + (i + 1) ≤ b0.length; rw [List.length_drop]; omega
                             · show b0.length - (i + 1) < b0.length - i; omega)))))))
      · first | exact Bool.noConfusion c21 | (
          try simp only [dD] at c21
          refine AWP.exit ?_
          simp only [go_sem]
          clear hK9 K9
          refine hK7 _ ?_; clear hK7 K7
          refine AWP.seqk fun K24 hK24 => ?_
          refine AWP.region ?_
          simp only [go_sem] -- region 18
          repeat' (first | (refine AGet.haveM (by assumption) ?_; (try simp only [go_sem])) | (refine AGet.have' (by assumption) ?_; (try simp only [go_sem])) | ((first | refine AGet.nth ?_ (fun b hb => ?_) | refine AGet.nth1 ?_ (fun b hb => ?_) | with_reducible refine And.intro ?_ ?_); (focus ((first | omega | exact List.length_pos_iff.2 (by assumption) | (simp only [List.length_append, List.length_cons, List.length_nil, List.length_map, List.length_take, List.length_drop] at *; omega) | (rw [wrap64_id (by omega) (by omega)]; omega) | (simp; done)))); (try simp only [hb, go_sem])))
          refine hK24 _ ?_; clear hK24 K24
          refine AWP.ret ?_
          try simp only [go_sem]
          first
          | exact ⟨[], .v _, rfl, rfl, rfl, rfl⟩
          | (exfalso; omega)
          | skip))


end Go.Proofs.YtgiomlgkccjhfaaDoor
