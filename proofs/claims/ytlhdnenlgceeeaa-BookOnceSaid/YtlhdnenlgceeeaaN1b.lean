import Derived.Test.YtlhdnenlgceeeaaN1
set_option linter.unusedVariables false
set_option linter.unusedSimpArgs false
namespace Go.Proofs.Ytlhdnenlgceeeaa
open Go Go.Abs Go.RowKit Go.Bk

set_option maxHeartbeats 4000000 in
set_option maxRecDepth 8000 in
theorem mexec_c (x : Ex) : ACalls E 29 [exV x] (fun r t => r = bl (execB x) ∧ t = []) := by -- checkroll/msg.Exec
  refine ACalls.of_awp (n := 57) (rs := [.tmp 2]) Try.func29 rfl Try.ntmps29 rfl ?_
  refine AWP.seqk fun K1 hK1 => ?_
  refine AWP.region ?_
  simp only [go_sem] -- region 0
  repeat' (first | (refine AGet.haveM (by assumption) ?_; (try simp only [go_sem])) | (refine AGet.have' (by assumption) ?_; (try simp only [go_sem])) | ((first | refine AGet.nth ?_ (fun b hb => ?_) | refine AGet.nth1 ?_ (fun b hb => ?_) | with_reducible refine And.intro ?_ ?_); (focus ((first | omega | exact List.length_pos_iff.2 (by assumption) | (simp only [List.length_append, List.length_cons, List.length_nil, List.length_map, List.length_take, List.length_drop] at *; omega) | (rw [wrap64_id (by omega) (by omega)]; omega) | (simp; done)))); (try simp only [hb, go_sem])))
  refine hK1 _ ?_; clear hK1 K1
  refine AWP.seqk fun K2 hK2 => ?_
  refine AWP.seqk fun K3 hK3 => ?_
  refine AWP.region ?_
  simp only [go_sem] -- region 1
  repeat' (first | (refine ACall.one (mname_c _) (by kernel_rfl) rfl ?_; simp only [go_sem]) | (refine AGuard.splitN (fun h => ?_) (fun h => ?_) <;> simp only [h, go_sem] <;> try simp only [dD] at h) | (refine AGuard.split (fun h => ?_) (fun h => ?_) <;> simp only [h, go_sem] <;> try simp only [dD] at h) | (refine AGet.haveM (by assumption) ?_; (try simp only [go_sem])) | (refine AGet.have' (by assumption) ?_; (try simp only [go_sem])) | ((first | refine AGet.nth ?_ (fun b hb => ?_) | refine AGet.nth1 ?_ (fun b hb => ?_) | with_reducible refine And.intro ?_ ?_); (focus ((first | omega | exact List.length_pos_iff.2 (by assumption) | (simp only [List.length_append, List.length_cons, List.length_nil, List.length_map, List.length_take, List.length_drop] at *; omega) | (rw [wrap64_id (by omega) (by omega)]; omega) | (simp; done)))); (try simp only [hb, go_sem])))
  all_goals (
    refine hK3 _ ?_; clear hK3 K3
    refine AWP.cond rfl (fun c24 => ?_) (fun c24 => ?_)
    · first | exact Bool.noConfusion c24 | (
        try simp only [dD] at c24
        refine AWP.seqk fun K4 hK4 => ?_
        refine AWP.region ?_
        simp only [go_sem] -- region 2
        repeat' (first | (refine AGet.haveM (by assumption) ?_; (try simp only [go_sem])) | (refine AGet.have' (by assumption) ?_; (try simp only [go_sem])) | ((first | refine AGet.nth ?_ (fun b hb => ?_) | refine AGet.nth1 ?_ (fun b hb => ?_) | with_reducible refine And.intro ?_ ?_); (focus ((first | omega | exact List.length_pos_iff.2 (by assumption) | (simp only [List.length_append, List.length_cons, List.length_nil, List.length_map, List.length_take, List.length_drop] at *; omega) | (rw [wrap64_id (by omega) (by omega)]; omega) | (simp; done)))); (try simp only [hb, go_sem])))
        refine hK4 _ ?_; clear hK4 K4
        refine AWP.ret ?_
        try simp only [go_sem]
        clear hK2 K2
        exact ⟨[], .v _, rfl, rfl, by simp_all [execB], rfl⟩)
    · first | exact Bool.noConfusion c24 | (
        try simp only [dD] at c24
        refine AWP.skip ?_
        refine hK2 _ ?_; clear hK2 K2
        refine AWP.seqk fun K5 hK5 => ?_
        refine AWP.seqk fun K6 hK6 => ?_
        refine AWP.region ?_
        simp only [go_sem] -- region 3
        repeat' (first | (refine AGet.haveM (by assumption) ?_; (try simp only [go_sem])) | (refine AGet.have' (by assumption) ?_; (try simp only [go_sem])) | ((first | refine AGet.nth ?_ (fun b hb => ?_) | refine AGet.nth1 ?_ (fun b hb => ?_) | with_reducible refine And.intro ?_ ?_); (focus ((first | omega | exact List.length_pos_iff.2 (by assumption) | (simp only [List.length_append, List.length_cons, List.length_nil, List.length_map, List.length_take, List.length_drop] at *; omega) | (rw [wrap64_id (by omega) (by omega)]; omega) | (simp; done)))); (try simp only [hb, go_sem])))
        refine hK6 _ ?_; clear hK6 K6
        refine AWP.block ?_ -- 0
        refine AWP.seqk fun K7 hK7 => ?_
        refine AWP.seqk fun K8 hK8 => ?_
        refine AWP.region ?_
        simp only [go_sem] -- region 5
        repeat' (first | (refine AGet.haveM (by assumption) ?_; (try simp only [go_sem])) | (refine AGet.have' (by assumption) ?_; (try simp only [go_sem])) | ((first | refine AGet.nth ?_ (fun b hb => ?_) | refine AGet.nth1 ?_ (fun b hb => ?_) | with_reducible refine And.intro ?_ ?_); (focus ((first | omega | exact List.length_pos_iff.2 (by assumption) | (simp only [List.length_append, List.length_cons, List.length_nil, List.length_map, List.length_take, List.length_drop] at *; omega) | (rw [wrap64_id (by omega) (by omega)]; omega) | (simp; done)))); (try simp only [hb, go_sem])))
        refine hK8 _ ?_; clear hK8 K8
        refine AWP.cond rfl (fun c27 => ?_) (fun c27 => ?_)
        · first | exact Bool.noConfusion c27 | (
            try simp only [dD] at c27
            refine AWP.skip ?_
            refine hK7 _ ?_; clear hK7 K7
            refine AWP.cond rfl (fun c27 => ?_) (fun c27 => ?_)
            · first | exact Bool.noConfusion c27 | (
                try simp only [dD] at c27
                refine AWP.seqk fun K9 hK9 => ?_
                refine AWP.region ?_
                simp only [go_sem] -- region 8
                repeat' (first | (refine ACall.one (mname_c _) (by kernel_rfl) rfl ?_; simp only [go_sem]) | (refine AGet.haveM (by assumption) ?_; (try simp only [go_sem])) | (refine AGet.have' (by assumption) ?_; (try simp only [go_sem])) | ((first | refine AGet.nth ?_ (fun b hb => ?_) | refine AGet.nth1 ?_ (fun b hb => ?_) | with_reducible refine And.intro ?_ ?_); (focus ((first | omega | exact List.length_pos_iff.2 (by assumption) | (simp only [List.length_append, List.length_cons, List.length_nil, List.length_map, List.length_take, List.length_drop] at *; omega) | (rw [wrap64_id (by omega) (by omega)]; omega) | (simp; done)))); (try simp only [hb, go_sem])))
                refine hK9 _ ?_; clear hK9 K9
                refine AWP.cond rfl (fun c34 => ?_) (fun c34 => ?_)
                · first | exact Bool.noConfusion c34 | (
                    try simp only [dD] at c34
                    refine AWP.seqk fun K10 hK10 => ?_
                    refine AWP.region ?_
                    simp only [go_sem] -- region 9
                    repeat' (first | (refine AGet.haveM (by assumption) ?_; (try simp only [go_sem])) | (refine AGet.have' (by assumption) ?_; (try simp only [go_sem])) | ((first | refine AGet.nth ?_ (fun b hb => ?_) | refine AGet.nth1 ?_ (fun b hb => ?_) | with_reducible refine And.intro ?_ ?_); (focus ((first | omega | exact List.length_pos_iff.2 (by assumption) | (simp only [List.length_append, List.length_cons, List.length_nil, List.length_map, List.length_take, List.length_drop] at *; omega) | (rw [wrap64_id (by omega) (by omega)]; omega) | (simp; done)))); (try simp only [hb, go_sem])))
                    refine hK10 _ ?_; clear hK10 K10
                    refine AWP.ret ?_
                    try simp only [go_sem]
                    clear hK5 K5
                    exact ⟨[], .v _, rfl, rfl, by simp_all [execB], rfl⟩)
                · first | exact Bool.noConfusion c34 | (
                    try simp only [dD] at c34
                    refine AWP.skip ?_
                    refine hK5 _ ?_; clear hK5 K5
                    refine AWP.seqk fun K11 hK11 => ?_
                    refine AWP.region ?_
                    simp only [go_sem] -- region 17
                    repeat' (first | (refine ACall.one (msmall_c _) (by kernel_rfl) rfl ?_; simp only [go_sem]) | (refine ACall.one (mwhen_c _) (by kernel_rfl) rfl ?_; simp only [go_sem]) | (refine AGuard.splitN (fun h => ?_) (fun h => ?_) <;> simp only [h, go_sem] <;> try simp only [dD] at h) | (refine AGuard.split (fun h => ?_) (fun h => ?_) <;> simp only [h, go_sem] <;> try simp only [dD] at h) | (refine AGet.haveM (by assumption) ?_; (try simp only [go_sem])) | (refine AGet.have' (by assumption) ?_; (try simp only [go_sem])) | ((first | refine AGet.nth ?_ (fun b hb => ?_) | refine AGet.nth1 ?_ (fun b hb => ?_) | with_reducible refine And.intro ?_ ?_); (focus ((first | omega | exact List.length_pos_iff.2 (by assumption) | (simp only [List.length_append, List.length_cons, List.length_nil, List.length_map, List.length_take, List.length_drop] at *; omega) | (rw [wrap64_id (by omega) (by omega)]; omega) | (simp; done)))); (try simp only [hb, go_sem])))
                    all_goals (
                      refine hK11 _ ?_; clear hK11 K11
                      refine AWP.ret ?_
                      try simp only [go_sem]
                      exact ⟨[], .v _, rfl, rfl, by simp_all [execB], rfl⟩)))
            · first | exact Bool.noConfusion c27 | (
                try simp only [dD] at c27
                refine AWP.seqk fun K12 hK12 => ?_
                refine AWP.seqk fun K13 hK13 => ?_
                refine AWP.region ?_
                simp only [go_sem] -- region 10
                repeat' (first | (refine AGet.haveM (by assumption) ?_; (try simp only [go_sem])) | (refine AGet.have' (by assumption) ?_; (try simp only [go_sem])) | ((first | refine AGet.nth ?_ (fun b hb => ?_) | refine AGet.nth1 ?_ (fun b hb => ?_) | with_reducible refine And.intro ?_ ?_); (focus ((first | omega | exact List.length_pos_iff.2 (by assumption) | (simp only [List.length_append, List.length_cons, List.length_nil, List.length_map, List.length_take, List.length_drop] at *; omega) | (rw [wrap64_id (by omega) (by omega)]; omega) | (simp; done)))); (try simp only [hb, go_sem])))
                refine hK13 _ ?_; clear hK13 K13
                refine AWP.cond rfl (fun c35 => ?_) (fun c35 => ?_)
                · first | exact Bool.noConfusion c35 | (
                    try simp only [dD] at c35
                    refine AWP.skip ?_
                    refine hK12 _ ?_; clear hK12 K12
                    refine AWP.cond rfl (fun c35 => ?_) (fun c35 => ?_)
                    · first | exact Bool.noConfusion c35 | (
                        try simp only [dD] at c35
                        refine AWP.seqk fun K14 hK14 => ?_
                        refine AWP.region ?_
                        simp only [go_sem] -- region 15
                        repeat' (first | (refine AGet.haveM (by assumption) ?_; (try simp only [go_sem])) | (refine AGet.have' (by assumption) ?_; (try simp only [go_sem])) | ((first | refine AGet.nth ?_ (fun b hb => ?_) | refine AGet.nth1 ?_ (fun b hb => ?_) | with_reducible refine And.intro ?_ ?_); (focus ((first | omega | exact List.length_pos_iff.2 (by assumption) | (simp only [List.length_append, List.length_cons, List.length_nil, List.length_map, List.length_take, List.length_drop] at *; omega) | (rw [wrap64_id (by omega) (by omega)]; omega) | (simp; done)))); (try simp only [hb, go_sem])))
                        refine hK14 _ ?_; clear hK14 K14
                        refine AWP.cond rfl (fun c43 => ?_) (fun c43 => ?_)
                        · first | exact Bool.noConfusion c43 | (
                            try simp only [dD] at c43
                            refine AWP.seqk fun K15 hK15 => ?_
                            refine AWP.region ?_
                            simp only [go_sem] -- region 16
                            repeat' (first | (refine AGet.haveM (by assumption) ?_; (try simp only [go_sem])) | (refine AGet.have' (by assumption) ?_; (try simp only [go_sem])) | ((first | refine AGet.nth ?_ (fun b hb => ?_) | refine AGet.nth1 ?_ (fun b hb => ?_) | with_reducible refine And.intro ?_ ?_); (focus ((first | omega | exact List.length_pos_iff.2 (by assumption) | (simp only [List.length_append, List.length_cons, List.length_nil, List.length_map, List.length_take, List.length_drop] at *; omega) | (rw [wrap64_id (by omega) (by omega)]; omega) | (simp; done)))); (try simp only [hb, go_sem])))
                            refine hK15 _ ?_; clear hK15 K15
                            refine AWP.ret ?_
                            try simp only [go_sem]
                            clear hK5 K5
                            exact ⟨[], .v _, rfl, rfl, by simp_all [execB], rfl⟩)
                        · first | exact Bool.noConfusion c43 | (
                            try simp only [dD] at c43
                            refine AWP.skip ?_
                            refine hK5 _ ?_; clear hK5 K5
                            refine AWP.seqk fun K16 hK16 => ?_
                            refine AWP.region ?_
                            simp only [go_sem] -- region 17
                            repeat' (first | (refine ACall.one (msmall_c _) (by kernel_rfl) rfl ?_; simp only [go_sem]) | (refine ACall.one (mwhen_c _) (by kernel_rfl) rfl ?_; simp only [go_sem]) | (refine AGuard.splitN (fun h => ?_) (fun h => ?_) <;> simp only [h, go_sem] <;> try simp only [dD] at h) | (refine AGuard.split (fun h => ?_) (fun h => ?_) <;> simp only [h, go_sem] <;> try simp only [dD] at h) | (refine AGet.haveM (by assumption) ?_; (try simp only [go_sem])) | (refine AGet.have' (by assumption) ?_; (try simp only [go_sem])) | ((first | refine AGet.nth ?_ (fun b hb => ?_) | refine AGet.nth1 ?_ (fun b hb => ?_) | with_reducible refine And.intro ?_ ?_); (focus ((first | omega | exact List.length_pos_iff.2 (by assumption) | (simp only [List.length_append, List.length_cons, List.length_nil, List.length_map, List.length_take, List.length_drop] at *; omega) | (rw [wrap64_id (by omega) (by omega)]; omega) | (simp; done)))); (try simp only [hb, go_sem])))
                            all_goals (
                              refine hK16 _ ?_; clear hK16 K16
                              refine AWP.ret ?_
                              try simp only [go_sem]
                              exact ⟨[], .v _, rfl, rfl, by simp_all [execB], rfl⟩)))
                    · first | exact Bool.noConfusion c35 | (
                        try simp only [dD] at c35
                        refine AWP.seqk fun K17 hK17 => ?_
                        refine AWP.region ?_
                        simp only [go_sem] -- region 4
                        repeat' (first | (refine AGet.haveM (by assumption) ?_; (try simp only [go_sem])) | (refine AGet.have' (by assumption) ?_; (try simp only [go_sem])) | ((first | refine AGet.nth ?_ (fun b hb => ?_) | refine AGet.nth1 ?_ (fun b hb => ?_) | with_reducible refine And.intro ?_ ?_); (focus ((first | omega | exact List.length_pos_iff.2 (by assumption) | (simp only [List.length_append, List.length_cons, List.length_nil, List.length_map, List.length_take, List.length_drop] at *; omega) | (rw [wrap64_id (by omega) (by omega)]; omega) | (simp; done)))); (try simp only [hb, go_sem])))
                        refine hK17 _ ?_; clear hK17 K17
                        refine AWP.ret ?_
                        try simp only [go_sem]
                        clear hK5 K5
                        exact ⟨[], .v _, rfl, rfl, by simp_all [execB], rfl⟩))
                · first | exact Bool.noConfusion c35 | (
                    try simp only [dD] at c35
                    refine AWP.seqk fun K18 hK18 => ?_
                    refine AWP.region ?_
                    simp only [go_sem] -- region 11
                    repeat' (first | (refine AGet.haveM (by assumption) ?_; (try simp only [go_sem])) | (refine AGet.have' (by assumption) ?_; (try simp only [go_sem])) | ((first | refine AGet.nth ?_ (fun b hb => ?_) | refine AGet.nth1 ?_ (fun b hb => ?_) | with_reducible refine And.intro ?_ ?_); (focus ((first | omega | exact List.length_pos_iff.2 (by assumption) | (simp only [List.length_append, List.length_cons, List.length_nil, List.length_map, List.length_take, List.length_drop] at *; omega) | (rw [wrap64_id (by omega) (by omega)]; omega) | (simp; done)))); (try simp only [hb, go_sem])))
                    refine hK18 _ ?_; clear hK18 K18
                    refine AWP.cond rfl (fun c35 => ?_) (fun c35 => ?_)
                    · first | exact Bool.noConfusion c35 | (
                        try simp only [dD] at c35
                        refine AWP.skip ?_
                        refine hK12 _ ?_; clear hK12 K12
                        refine AWP.cond rfl (fun c35 => ?_) (fun c35 => ?_)
                        · first | exact Bool.noConfusion c35 | (
                            try simp only [dD] at c35
                            refine AWP.seqk fun K19 hK19 => ?_
                            refine AWP.region ?_
                            simp only [go_sem] -- region 15
                            repeat' (first | (refine AGet.haveM (by assumption) ?_; (try simp only [go_sem])) | (refine AGet.have' (by assumption) ?_; (try simp only [go_sem])) | ((first | refine AGet.nth ?_ (fun b hb => ?_) | refine AGet.nth1 ?_ (fun b hb => ?_) | with_reducible refine And.intro ?_ ?_); (focus ((first | omega | exact List.length_pos_iff.2 (by assumption) | (simp only [List.length_append, List.length_cons, List.length_nil, List.length_map, List.length_take, List.length_drop] at *; omega) | (rw [wrap64_id (by omega) (by omega)]; omega) | (simp; done)))); (try simp only [hb, go_sem])))
                            refine hK19 _ ?_; clear hK19 K19
                            refine AWP.cond rfl (fun c43 => ?_) (fun c43 => ?_)
                            · first | exact Bool.noConfusion c43 | (
                                try simp only [dD] at c43
                                refine AWP.seqk fun K20 hK20 => ?_
                                refine AWP.region ?_
                                simp only [go_sem] -- region 16
                                repeat' (first | (refine AGet.haveM (by assumption) ?_; (try simp only [go_sem])) | (refine AGet.have' (by assumption) ?_; (try simp only [go_sem])) | ((first | refine AGet.nth ?_ (fun b hb => ?_) | refine AGet.nth1 ?_ (fun b hb => ?_) | with_reducible refine And.intro ?_ ?_); (focus ((first | omega | exact List.length_pos_iff.2 (by assumption) | (simp only [List.length_append, List.length_cons, List.length_nil, List.length_map, List.length_take, List.length_drop] at *; omega) | (rw [wrap64_id (by omega) (by omega)]; omega) | (simp; done)))); (try simp only [hb, go_sem])))
                                refine hK20 _ ?_; clear hK20 K20
                                refine AWP.ret ?_
                                try simp only [go_sem]
                                clear hK5 K5
                                exact ⟨[], .v _, rfl, rfl, by simp_all [execB], rfl⟩)
                            · first | exact Bool.noConfusion c43 | (
                                try simp only [dD] at c43
                                refine AWP.skip ?_
                                refine hK5 _ ?_; clear hK5 K5
                                refine AWP.seqk fun K21 hK21 => ?_
                                refine AWP.region ?_
                                simp only [go_sem] -- region 17
                                repeat' (first | (refine ACall.one (msmall_c _) (by kernel_rfl) rfl ?_; simp only [go_sem]) | (refine ACall.one (mwhen_c _) (by kernel_rfl) rfl ?_; simp only [go_sem]) | (refine AGuard.splitN (fun h => ?_) (fun h => ?_) <;> simp only [h, go_sem] <;> try simp only [dD] at h) | (refine AGuard.split (fun h => ?_) (fun h => ?_) <;> simp only [h, go_sem] <;> try simp only [dD] at h) | (refine AGet.haveM (by assumption) ?_; (try simp only [go_sem])) | (refine AGet.have' (by assumption) ?_; (try simp only [go_sem])) | ((first | refine AGet.nth ?_ (fun b hb => ?_) | refine AGet.nth1 ?_ (fun b hb => ?_) | with_reducible refine And.intro ?_ ?_); (focus ((first | omega | exact List.length_pos_iff.2 (by assumption) | (simp only [List.length_append, List.length_cons, List.length_nil, List.length_map, List.length_take, List.length_drop] at *; omega) | (rw [wrap64_id (by omega) (by omega)]; omega) | (simp; done)))); (try simp only [hb, go_sem])))
                                all_goals (
                                  refine hK21 _ ?_; clear hK21 K21
                                  refine AWP.ret ?_
                                  try simp only [go_sem]
                                  exact ⟨[], .v _, rfl, rfl, by simp_all [execB], rfl⟩)))
                        · first | exact Bool.noConfusion c35 | (
                            try simp only [dD] at c35
                            refine AWP.seqk fun K22 hK22 => ?_
                            refine AWP.region ?_
                            simp only [go_sem] -- region 4
                            repeat' (first | (refine AGet.haveM (by assumption) ?_; (try simp only [go_sem])) | (refine AGet.have' (by assumption) ?_; (try simp only [go_sem])) | ((first | refine AGet.nth ?_ (fun b hb => ?_) | refine AGet.nth1 ?_ (fun b hb => ?_) | with_reducible refine And.intro ?_ ?_); (focus ((first | omega | exact List.length_pos_iff.2 (by assumption) | (simp only [List.length_append, List.length_cons, List.length_nil, List.length_map, List.length_take, List.length_drop] at *; omega) | (rw [wrap64_id (by omega) (by omega)]; omega) | (simp; done)))); (try simp only [hb, go_sem])))
                            refine hK22 _ ?_; clear hK22 K22
                            refine AWP.ret ?_
                            try simp only [go_sem]
                            clear hK5 K5
                            exact ⟨[], .v _, rfl, rfl, by simp_all [execB], rfl⟩))
                    · first | exact Bool.noConfusion c35 | (
                        try simp only [dD] at c35
                        refine AWP.seqk fun K23 hK23 => ?_
                        refine AWP.region ?_
                        simp only [go_sem] -- region 12
                        repeat' (first | (refine AGet.haveM (by assumption) ?_; (try simp only [go_sem])) | (refine AGet.have' (by assumption) ?_; (try simp only [go_sem])) | ((first | refine AGet.nth ?_ (fun b hb => ?_) | refine AGet.nth1 ?_ (fun b hb => ?_) | with_reducible refine And.intro ?_ ?_); (focus ((first | omega | exact List.length_pos_iff.2 (by assumption) | (simp only [List.length_append, List.length_cons, List.length_nil, List.length_map, List.length_take, List.length_drop] at *; omega) | (rw [wrap64_id (by omega) (by omega)]; omega) | (simp; done)))); (try simp only [hb, go_sem])))
                        refine hK23 _ ?_; clear hK23 K23
                        refine AWP.cond rfl (fun c35 => ?_) (fun c35 => ?_)
                        · first | exact Bool.noConfusion c35 | (
                            try simp only [dD] at c35
                            refine AWP.skip ?_
                            refine hK12 _ ?_; clear hK12 K12
                            refine AWP.cond rfl (fun c35 => ?_) (fun c35 => ?_)
                            · first | exact Bool.noConfusion c35 | (
                                try simp only [dD] at c35
                                refine AWP.seqk fun K24 hK24 => ?_
                                refine AWP.region ?_
                                simp only [go_sem] -- region 15
                                repeat' (first | (refine AGet.haveM (by assumption) ?_; (try simp only [go_sem])) | (refine AGet.have' (by assumption) ?_; (try simp only [go_sem])) | ((first | refine AGet.nth ?_ (fun b hb => ?_) | refine AGet.nth1 ?_ (fun b hb => ?_) | with_reducible refine And.intro ?_ ?_); (focus ((first | omega | exact List.length_pos_iff.2 (by assumption) | (simp only [List.length_append, List.length_cons, List.length_nil, List.length_map, List.length_take, List.length_drop] at *; omega) | (rw [wrap64_id (by omega) (by omega)]; omega) | (simp; done)))); (try simp only [hb, go_sem])))
                                refine hK24 _ ?_; clear hK24 K24
                                refine AWP.cond rfl (fun c43 => ?_) (fun c43 => ?_)
                                · first | exact Bool.noConfusion c43 | (
                                    try simp only [dD] at c43
                                    refine AWP.seqk fun K25 hK25 => ?_
                                    refine AWP.region ?_
                                    simp only [go_sem] -- region 16
                                    repeat' (first | (refine AGet.haveM (by assumption) ?_; (try simp only [go_sem])) | (refine AGet.have' (by assumption) ?_; (try simp only [go_sem])) | ((first | refine AGet.nth ?_ (fun b hb => ?_) | refine AGet.nth1 ?_ (fun b hb => ?_) | with_reducible refine And.intro ?_ ?_); (focus ((first | omega | exact List.length_pos_iff.2 (by assumption) | (simp only [List.length_append, List.length_cons, List.length_nil, List.length_map, List.length_take, List.length_drop] at *; omega) | (rw [wrap64_id (by omega) (by omega)]; omega) | (simp; done)))); (try simp only [hb, go_sem])))
                                    refine hK25 _ ?_; clear hK25 K25
                                    refine AWP.ret ?_
                                    try simp only [go_sem]
                                    clear hK5 K5
                                    exact ⟨[], .v _, rfl, rfl, by simp_all [execB], rfl⟩)
                                · first | exact Bool.noConfusion c43 | (
                                    try simp only [dD] at c43
                                    refine AWP.skip ?_
                                    refine hK5 _ ?_; clear hK5 K5
                                    refine AWP.seqk fun K26 hK26 => ?_
                                    refine AWP.region ?_
                                    simp only [go_sem] -- region 17
                                    repeat' (first | (refine ACall.one (msmall_c _) (by kernel_rfl) rfl ?_; simp only [go_sem]) | (refine ACall.one (mwhen_c _) (by kernel_rfl) rfl ?_; simp only [go_sem]) | (refine AGuard.splitN (fun h => ?_) (fun h => ?_) <;> simp only [h, go_sem] <;> try simp only [dD] at h) | (refine AGuard.split (fun h => ?_) (fun h => ?_) <;> simp only [h, go_sem] <;> try simp only [dD] at h) | (refine AGet.haveM (by assumption) ?_; (try simp only [go_sem])) | (refine AGet.have' (by assumption) ?_; (try simp only [go_sem])) | ((first | refine AGet.nth ?_ (fun b hb => ?_) | refine AGet.nth1 ?_ (fun b hb => ?_) | with_reducible refine And.intro ?_ ?_); (focus ((first | omega | exact List.length_pos_iff.2 (by assumption) | (simp only [List.length_append, List.length_cons, List.length_nil, List.length_map, List.length_take, List.length_drop] at *; omega) | (rw [wrap64_id (by omega) (by omega)]; omega) | (simp; done)))); (try simp only [hb, go_sem])))
                                    all_goals (
                                      refine hK26 _ ?_; clear hK26 K26
                                      refine AWP.ret ?_
                                      try simp only [go_sem]
                                      exact ⟨[], .v _, rfl, rfl, by simp_all [execB], rfl⟩)))
                            · first | exact Bool.noConfusion c35 | (
                                try simp only [dD] at c35
                                refine AWP.seqk fun K27 hK27 => ?_
                                refine AWP.region ?_
                                simp only [go_sem] -- region 4
                                repeat' (first | (refine AGet.haveM (by assumption) ?_; (try simp only [go_sem])) | (refine AGet.have' (by assumption) ?_; (try simp only [go_sem])) | ((first | refine AGet.nth ?_ (fun b hb => ?_) | refine AGet.nth1 ?_ (fun b hb => ?_) | with_reducible refine And.intro ?_ ?_); (focus ((first | omega | exact List.length_pos_iff.2 (by assumption) | (simp only [List.length_append, List.length_cons, List.length_nil, List.length_map, List.length_take, List.length_drop] at *; omega) | (rw [wrap64_id (by omega) (by omega)]; omega) | (simp; done)))); (try simp only [hb, go_sem])))
                                refine hK27 _ ?_; clear hK27 K27
                                refine AWP.ret ?_
                                try simp only [go_sem]
                                clear hK5 K5
                                exact ⟨[], .v _, rfl, rfl, by simp_all [execB], rfl⟩))
                        · first | exact Bool.noConfusion c35 | (
                            try simp only [dD] at c35
                            refine AWP.seqk fun K28 hK28 => ?_
                            refine AWP.region ?_
                            simp only [go_sem] -- region 13
                            repeat' (first | (refine AGet.haveM (by assumption) ?_; (try simp only [go_sem])) | (refine AGet.have' (by assumption) ?_; (try simp only [go_sem])) | ((first | refine AGet.nth ?_ (fun b hb => ?_) | refine AGet.nth1 ?_ (fun b hb => ?_) | with_reducible refine And.intro ?_ ?_); (focus ((first | omega | exact List.length_pos_iff.2 (by assumption) | (simp only [List.length_append, List.length_cons, List.length_nil, List.length_map, List.length_take, List.length_drop] at *; omega) | (rw [wrap64_id (by omega) (by omega)]; omega) | (simp; done)))); (try simp only [hb, go_sem])))
                            refine hK28 _ ?_; clear hK28 K28
                            refine AWP.cond rfl (fun c35 => ?_) (fun c35 => ?_)
                            · first | exact Bool.noConfusion c35 | (
                                try simp only [dD] at c35
                                refine AWP.skip ?_
                                refine hK12 _ ?_; clear hK12 K12
                                refine AWP.cond rfl (fun c35 => ?_) (fun c35 => ?_)
                                · first | exact Bool.noConfusion c35 | (
                                    try simp only [dD] at c35
                                    refine AWP.seqk fun K29 hK29 => ?_
                                    refine AWP.region ?_
                                    simp only [go_sem] -- region 15
                                    repeat' (first | (refine AGet.haveM (by assumption) ?_; (try simp only [go_sem])) | (refine AGet.have' (by assumption) ?_; (try simp only [go_sem])) | ((first | refine AGet.nth ?_ (fun b hb => ?_) | refine AGet.nth1 ?_ (fun b hb => ?_) | with_reducible refine And.intro ?_ ?_); (focus ((first | omega | exact List.length_pos_iff.2 (by assumption) | (simp only [List.length_append, List.length_cons, List.length_nil, List.length_map, List.length_take, List.length_drop] at *; omega) | (rw [wrap64_id (by omega) (by omega)]; omega) | (simp; done)))); (try simp only [hb, go_sem])))
                                    refine hK29 _ ?_; clear hK29 K29
                                    refine AWP.cond rfl (fun c43 => ?_) (fun c43 => ?_)
                                    · first | exact Bool.noConfusion c43 | (
                                        try simp only [dD] at c43
                                        refine AWP.seqk fun K30 hK30 => ?_
                                        refine AWP.region ?_
                                        simp only [go_sem] -- region 16
                                        repeat' (first | (refine AGet.haveM (by assumption) ?_; (try simp only [go_sem])) | (refine AGet.have' (by assumption) ?_; (try simp only [go_sem])) | ((first | refine AGet.nth ?_ (fun b hb => ?_) | refine AGet.nth1 ?_ (fun b hb => ?_) | with_reducible refine And.intro ?_ ?_); (focus ((first | omega | exact List.length_pos_iff.2 (by assumption) | (simp only [List.length_append, List.length_cons, List.length_nil, List.length_map, List.length_take, List.length_drop] at *; omega) | (rw [wrap64_id (by omega) (by omega)]; omega) | (simp; done)))); (try simp only [hb, go_sem])))
                                        refine hK30 _ ?_; clear hK30 K30
                                        refine AWP.ret ?_
                                        try simp only [go_sem]
                                        clear hK5 K5
                                        exact ⟨[], .v _, rfl, rfl, by simp_all [execB], rfl⟩)
                                    · first | exact Bool.noConfusion c43 | (
                                        try simp only [dD] at c43
                                        refine AWP.skip ?_
                                        refine hK5 _ ?_; clear hK5 K5
                                        refine AWP.seqk fun K31 hK31 => ?_
                                        refine AWP.region ?_
                                        simp only [go_sem] -- region 17
                                        repeat' (first | (refine ACall.one (msmall_c _) (by kernel_rfl) rfl ?_; simp only [go_sem]) | (refine ACall.one (mwhen_c _) (by kernel_rfl) rfl ?_; simp only [go_sem]) | (refine AGuard.splitN (fun h => ?_) (fun h => ?_) <;> simp only [h, go_sem] <;> try simp only [dD] at h) | (refine AGuard.split (fun h => ?_) (fun h => ?_) <;> simp only [h, go_sem] <;> try simp only [dD] at h) | (refine AGet.haveM (by assumption) ?_; (try simp only [go_sem])) | (refine AGet.have' (by assumption) ?_; (try simp only [go_sem])) | ((first | refine AGet.nth ?_ (fun b hb => ?_) | refine AGet.nth1 ?_ (fun b hb => ?_) | with_reducible refine And.intro ?_ ?_); (focus ((first | omega | exact List.length_pos_iff.2 (by assumption) | (simp only [List.length_append, List.length_cons, List.length_nil, List.length_map, List.length_take, List.length_drop] at *; omega) | (rw [wrap64_id (by omega) (by omega)]; omega) | (simp; done)))); (try simp only [hb, go_sem])))
                                        all_goals (
                                          refine hK31 _ ?_; clear hK31 K31
                                          refine AWP.ret ?_
                                          try simp only [go_sem]
                                          exact ⟨[], .v _, rfl, rfl, by simp_all [execB], rfl⟩)))
                                · first | exact Bool.noConfusion c35 | (
                                    try simp only [dD] at c35
                                    refine AWP.seqk fun K32 hK32 => ?_
                                    refine AWP.region ?_
                                    simp only [go_sem] -- region 4
                                    repeat' (first | (refine AGet.haveM (by assumption) ?_; (try simp only [go_sem])) | (refine AGet.have' (by assumption) ?_; (try simp only [go_sem])) | ((first | refine AGet.nth ?_ (fun b hb => ?_) | refine AGet.nth1 ?_ (fun b hb => ?_) | with_reducible refine And.intro ?_ ?_); (focus ((first | omega | exact List.length_pos_iff.2 (by assumption) | (simp only [List.length_append, List.length_cons, List.length_nil, List.length_map, List.length_take, List.length_drop] at *; omega) | (rw [wrap64_id (by omega) (by omega)]; omega) | (simp; done)))); (try simp only [hb, go_sem])))
                                    refine hK32 _ ?_; clear hK32 K32
                                    refine AWP.ret ?_
                                    try simp only [go_sem]
                                    clear hK5 K5
                                    exact ⟨[], .v _, rfl, rfl, by simp_all [execB], rfl⟩))
                            · first | exact Bool.noConfusion c35 | (
                                try simp only [dD] at c35
                                refine AWP.region ?_
                                simp only [go_sem] -- region 14
                                repeat' (first | (refine AGet.haveM (by assumption) ?_; (try simp only [go_sem])) | (refine AGet.have' (by assumption) ?_; (try simp only [go_sem])) | ((first | refine AGet.nth ?_ (fun b hb => ?_) | refine AGet.nth1 ?_ (fun b hb => ?_) | with_reducible refine And.intro ?_ ?_); (focus ((first | omega | exact List.length_pos_iff.2 (by assumption) | (simp only [List.length_append, List.length_cons, List.length_nil, List.length_map, List.length_take, List.length_drop] at *; omega) | (rw [wrap64_id (by omega) (by omega)]; omega) | (simp; done)))); (try simp only [hb, go_sem])))
                                refine hK12 _ ?_; clear hK12 K12
                                refine AWP.cond rfl (fun c35 => ?_) (fun c35 => ?_)
                                · first | exact Bool.noConfusion c35 | (
                                    try simp only [dD] at c35
                                    refine AWP.seqk fun K33 hK33 => ?_
                                    refine AWP.region ?_
                                    simp only [go_sem] -- region 15
                                    repeat' (first | (refine AGet.haveM (by assumption) ?_; (try simp only [go_sem])) | (refine AGet.have' (by assumption) ?_; (try simp only [go_sem])) | ((first | refine AGet.nth ?_ (fun b hb => ?_) | refine AGet.nth1 ?_ (fun b hb => ?_) | with_reducible refine And.intro ?_ ?_); (focus ((first | omega | exact List.length_pos_iff.2 (by assumption) | (simp only [List.length_append, List.length_cons, List.length_nil, List.length_map, List.length_take, List.length_drop] at *; omega) | (rw [wrap64_id (by omega) (by omega)]; omega) | (simp; done)))); (try simp only [hb, go_sem])))
                                    refine hK33 _ ?_; clear hK33 K33
                                    refine AWP.cond rfl (fun c43 => ?_) (fun c43 => ?_)
                                    · first | exact Bool.noConfusion c43 | (
                                        try simp only [dD] at c43
                                        refine AWP.seqk fun K34 hK34 => ?_
                                        refine AWP.region ?_
                                        simp only [go_sem] -- region 16
                                        repeat' (first | (refine AGet.haveM (by assumption) ?_; (try simp only [go_sem])) | (refine AGet.have' (by assumption) ?_; (try simp only [go_sem])) | ((first | refine AGet.nth ?_ (fun b hb => ?_) | refine AGet.nth1 ?_ (fun b hb => ?_) | with_reducible refine And.intro ?_ ?_); (focus ((first | omega | exact List.length_pos_iff.2 (by assumption) | (simp only [List.length_append, List.length_cons, List.length_nil, List.length_map, List.length_take, List.length_drop] at *; omega) | (rw [wrap64_id (by omega) (by omega)]; omega) | (simp; done)))); (try simp only [hb, go_sem])))
                                        refine hK34 _ ?_; clear hK34 K34
                                        refine AWP.ret ?_
                                        try simp only [go_sem]
                                        clear hK5 K5
                                        exact ⟨[], .v _, rfl, rfl, by simp_all [execB], rfl⟩)
                                    · first | exact Bool.noConfusion c43 | (
                                        try simp only [dD] at c43
                                        refine AWP.skip ?_
                                        refine hK5 _ ?_; clear hK5 K5
                                        refine AWP.seqk fun K35 hK35 => ?_
                                        refine AWP.region ?_
                                        simp only [go_sem] -- region 17
                                        repeat' (first | (refine ACall.one (msmall_c _) (by kernel_rfl) rfl ?_; simp only [go_sem]) | (refine ACall.one (mwhen_c _) (by kernel_rfl) rfl ?_; simp only [go_sem]) | (refine AGuard.splitN (fun h => ?_) (fun h => ?_) <;> simp only [h, go_sem] <;> try simp only [dD] at h) | (refine AGuard.split (fun h => ?_) (fun h => ?_) <;> simp only [h, go_sem] <;> try simp only [dD] at h) | (refine AGet.haveM (by assumption) ?_; (try simp only [go_sem])) | (refine AGet.have' (by assumption) ?_; (try simp only [go_sem])) | ((first | refine AGet.nth ?_ (fun b hb => ?_) | refine AGet.nth1 ?_ (fun b hb => ?_) | with_reducible refine And.intro ?_ ?_); (focus ((first | omega | exact List.length_pos_iff.2 (by assumption) | (simp only [List.length_append, List.length_cons, List.length_nil, List.length_map, List.length_take, List.length_drop] at *; omega) | (rw [wrap64_id (by omega) (by omega)]; omega) | (simp; done)))); (try simp only [hb, go_sem])))
                                        all_goals (
                                          refine hK35 _ ?_; clear hK35 K35
                                          refine AWP.ret ?_
                                          try simp only [go_sem]
                                          exact ⟨[], .v _, rfl, rfl, by simp_all [execB], rfl⟩)))
                                · first | exact Bool.noConfusion c35 | (
                                    try simp only [dD] at c35
                                    refine AWP.seqk fun K36 hK36 => ?_
                                    refine AWP.region ?_
                                    simp only [go_sem] -- region 4
                                    repeat' (first | (refine AGet.haveM (by assumption) ?_; (try simp only [go_sem])) | (refine AGet.have' (by assumption) ?_; (try simp only [go_sem])) | ((first | refine AGet.nth ?_ (fun b hb => ?_) | refine AGet.nth1 ?_ (fun b hb => ?_) | with_reducible refine And.intro ?_ ?_); (focus ((first | omega | exact List.length_pos_iff.2 (by assumption) | (simp only [List.length_append, List.length_cons, List.length_nil, List.length_map, List.length_take, List.length_drop] at *; omega) | (rw [wrap64_id (by omega) (by omega)]; omega) | (simp; done)))); (try simp only [hb, go_sem])))
                                    refine hK36 _ ?_; clear hK36 K36
                                    refine AWP.ret ?_
                                    try simp only [go_sem]
                                    clear hK5 K5
                                    exact ⟨[], .v _, rfl, rfl, by simp_all [execB], rfl⟩)))))))
        · first | exact Bool.noConfusion c27 | (
            try simp only [dD] at c27
            refine AWP.seqk fun K37 hK37 => ?_
            refine AWP.region ?_
            simp only [go_sem] -- region 6
            repeat' (first | (refine AGet.haveM (by assumption) ?_; (try simp only [go_sem])) | (refine AGet.have' (by assumption) ?_; (try simp only [go_sem])) | ((first | refine AGet.nth ?_ (fun b hb => ?_) | refine AGet.nth1 ?_ (fun b hb => ?_) | with_reducible refine And.intro ?_ ?_); (focus ((first | omega | exact List.length_pos_iff.2 (by assumption) | (simp only [List.length_append, List.length_cons, List.length_nil, List.length_map, List.length_take, List.length_drop] at *; omega) | (rw [wrap64_id (by omega) (by omega)]; omega) | (simp; done)))); (try simp only [hb, go_sem])))
            refine hK37 _ ?_; clear hK37 K37
            refine AWP.cond rfl (fun c27 => ?_) (fun c27 => ?_)
            · first | exact Bool.noConfusion c27 | (
                try simp only [dD] at c27
                refine AWP.skip ?_
                refine hK7 _ ?_; clear hK7 K7
                refine AWP.cond rfl (fun c27 => ?_) (fun c27 => ?_)
                · first | exact Bool.noConfusion c27 | (
                    try simp only [dD] at c27
                    refine AWP.seqk fun K38 hK38 => ?_
                    refine AWP.region ?_
                    simp only [go_sem] -- region 8
                    repeat' (first | (refine ACall.one (mname_c _) (by kernel_rfl) rfl ?_; simp only [go_sem]) | (refine AGet.haveM (by assumption) ?_; (try simp only [go_sem])) | (refine AGet.have' (by assumption) ?_; (try simp only [go_sem])) | ((first | refine AGet.nth ?_ (fun b hb => ?_) | refine AGet.nth1 ?_ (fun b hb => ?_) | with_reducible refine And.intro ?_ ?_); (focus ((first | omega | exact List.length_pos_iff.2 (by assumption) | (simp only [List.length_append, List.length_cons, List.length_nil, List.length_map, List.length_take, List.length_drop] at *; omega) | (rw [wrap64_id (by omega) (by omega)]; omega) | (simp; done)))); (try simp only [hb, go_sem])))
                    refine hK38 _ ?_; clear hK38 K38
                    refine AWP.cond rfl (fun c34 => ?_) (fun c34 => ?_)
                    · first | exact Bool.noConfusion c34 | (
                        try simp only [dD] at c34
                        refine AWP.seqk fun K39 hK39 => ?_
                        refine AWP.region ?_
                        simp only [go_sem] -- region 9
                        repeat' (first | (refine AGet.haveM (by assumption) ?_; (try simp only [go_sem])) | (refine AGet.have' (by assumption) ?_; (try simp only [go_sem])) | ((first | refine AGet.nth ?_ (fun b hb => ?_) | refine AGet.nth1 ?_ (fun b hb => ?_) | with_reducible refine And.intro ?_ ?_); (focus ((first | omega | exact List.length_pos_iff.2 (by assumption) | (simp only [List.length_append, List.length_cons, List.length_nil, List.length_map, List.length_take, List.length_drop] at *; omega) | (rw [wrap64_id (by omega) (by omega)]; omega) | (simp; done)))); (try simp only [hb, go_sem])))
                        refine hK39 _ ?_; clear hK39 K39
                        refine AWP.ret ?_
                        try simp only [go_sem]
                        clear hK5 K5
                        exact ⟨[], .v _, rfl, rfl, by simp_all [execB], rfl⟩)
                    · first | exact Bool.noConfusion c34 | (
                        try simp only [dD] at c34
                        refine AWP.skip ?_
                        refine hK5 _ ?_; clear hK5 K5
                        refine AWP.seqk fun K40 hK40 => ?_
                        refine AWP.region ?_
                        simp only [go_sem] -- region 17
                        repeat' (first | (refine ACall.one (msmall_c _) (by kernel_rfl) rfl ?_; simp only [go_sem]) | (refine ACall.one (mwhen_c _) (by kernel_rfl) rfl ?_; simp only [go_sem]) | (refine AGuard.splitN (fun h => ?_) (fun h => ?_) <;> simp only [h, go_sem] <;> try simp only [dD] at h) | (refine AGuard.split (fun h => ?_) (fun h => ?_) <;> simp only [h, go_sem] <;> try simp only [dD] at h) | (refine AGet.haveM (by assumption) ?_; (try simp only [go_sem])) | (refine AGet.have' (by assumption) ?_; (try simp only [go_sem])) | ((first | refine AGet.nth ?_ (fun b hb => ?_) | refine AGet.nth1 ?_ (fun b hb => ?_) | with_reducible refine And.intro ?_ ?_); (focus ((first | omega | exact List.length_pos_iff.2 (by assumption) | (simp only [List.length_append, List.length_cons, List.length_nil, List.length_map, List.length_take, List.length_drop] at *; omega) | (rw [wrap64_id (by omega) (by omega)]; omega) | (simp; done)))); (try simp only [hb, go_sem])))
                        all_goals (
                          refine hK40 _ ?_; clear hK40 K40
                          refine AWP.ret ?_
                          try simp only [go_sem]
                          exact ⟨[], .v _, rfl, rfl, by simp_all [execB], rfl⟩)))
                · first | exact Bool.noConfusion c27 | (
                    try simp only [dD] at c27
                    refine AWP.seqk fun K41 hK41 => ?_
                    refine AWP.seqk fun K42 hK42 => ?_
                    refine AWP.region ?_
                    simp only [go_sem] -- region 10
                    repeat' (first | (refine AGet.haveM (by assumption) ?_; (try simp only [go_sem])) | (refine AGet.have' (by assumption) ?_; (try simp only [go_sem])) | ((first | refine AGet.nth ?_ (fun b hb => ?_) | refine AGet.nth1 ?_ (fun b hb => ?_) | with_reducible refine And.intro ?_ ?_); (focus ((first | omega | exact List.length_pos_iff.2 (by assumption) | (simp only [List.length_append, List.length_cons, List.length_nil, List.length_map, List.length_take, List.length_drop] at *; omega) | (rw [wrap64_id (by omega) (by omega)]; omega) | (simp; done)))); (try simp only [hb, go_sem])))
                    refine hK42 _ ?_; clear hK42 K42
                    refine AWP.cond rfl (fun c35 => ?_) (fun c35 => ?_)
                    · first | exact Bool.noConfusion c35 | (
                        try simp only [dD] at c35
                        refine AWP.skip ?_
                        refine hK41 _ ?_; clear hK41 K41
                        refine AWP.cond rfl (fun c35 => ?_) (fun c35 => ?_)
                        · first | exact Bool.noConfusion c35 | (
                            try simp only [dD] at c35
                            refine AWP.seqk fun K43 hK43 => ?_
                            refine AWP.region ?_
                            simp only [go_sem] -- region 15
                            repeat' (first | (refine AGet.haveM (by assumption) ?_; (try simp only [go_sem])) | (refine AGet.have' (by assumption) ?_; (try simp only [go_sem])) | ((first | refine AGet.nth ?_ (fun b hb => ?_) | refine AGet.nth1 ?_ (fun b hb => ?_) | with_reducible refine And.intro ?_ ?_); (focus ((first | omega | exact List.length_pos_iff.2 (by assumption) | (simp only [List.length_append, List.length_cons, List.length_nil, List.length_map, List.length_take, List.length_drop] at *; omega) | (rw [wrap64_id (by omega) (by omega)]; omega) | (simp; done)))); (try simp only [hb, go_sem])))
                            refine hK43 _ ?_; clear hK43 K43
                            refine AWP.cond rfl (fun c43 => ?_) (fun c43 => ?_)
                            · first | exact Bool.noConfusion c43 | (
                                try simp only [dD] at c43
                                refine AWP.seqk fun K44 hK44 => ?_
                                refine AWP.region ?_
                                simp only [go_sem] -- region 16
                                repeat' (first | (refine AGet.haveM (by assumption) ?_; (try simp only [go_sem])) | (refine AGet.have' (by assumption) ?_; (try simp only [go_sem])) | ((first | refine AGet.nth ?_ (fun b hb => ?_) | refine AGet.nth1 ?_ (fun b hb => ?_) | with_reducible refine And.intro ?_ ?_); (focus ((first | omega | exact List.length_pos_iff.2 (by assumption) | (simp only [List.length_append, List.length_cons, List.length_nil, List.length_map, List.length_take, List.length_drop] at *; omega) | (rw [wrap64_id (by omega) (by omega)]; omega) | (simp; done)))); (try simp only [hb, go_sem])))
                                refine hK44 _ ?_; clear hK44 K44
                                refine AWP.ret ?_
                                try simp only [go_sem]
                                clear hK5 K5
                                exact ⟨[], .v _, rfl, rfl, by simp_all [execB], rfl⟩)
                            · first | exact Bool.noConfusion c43 | (
                                try simp only [dD] at c43
                                refine AWP.skip ?_
                                refine hK5 _ ?_; clear hK5 K5
                                refine AWP.seqk fun K45 hK45 => ?_
                                refine AWP.region ?_
                                simp only [go_sem] -- region 17
                                repeat' (first | (refine ACall.one (msmall_c _) (by kernel_rfl) rfl ?_; simp only [go_sem]) | (refine ACall.one (mwhen_c _) (by kernel_rfl) rfl ?_; simp only [go_sem]) | (refine AGuard.splitN (fun h => ?_) (fun h => ?_) <;> simp only [h, go_sem] <;> try simp only [dD] at h) | (refine AGuard.split (fun h => ?_) (fun h => ?_) <;> simp only [h, go_sem] <;> try simp only [dD] at h) | (refine AGet.haveM (by assumption) ?_; (try simp only [go_sem])) | (refine AGet.have' (by assumption) ?_; (try simp only [go_sem])) | ((first | refine AGet.nth ?_ (fun b hb => ?_) | refine AGet.nth1 ?_ (fun b hb => ?_) | with_reducible refine And.intro ?_ ?_); (focus ((first | omega | exact List.length_pos_iff.2 (by assumption) | (simp only [List.length_append, List.length_cons, List.length_nil, List.length_map, List.length_take, List.length_drop] at *; omega) | (rw [wrap64_id (by omega) (by omega)]; omega) | (simp; done)))); (try simp only [hb, go_sem])))
                                all_goals (
                                  refine hK45 _ ?_; clear hK45 K45
                                  refine AWP.ret ?_
                                  try simp only [go_sem]
                                  exact ⟨[], .v _, rfl, rfl, by simp_all [execB], rfl⟩)))
                        · first | exact Bool.noConfusion c35 | (
                            try simp only [dD] at c35
                            refine AWP.seqk fun K46 hK46 => ?_
                            refine AWP.region ?_
                            simp only [go_sem] -- region 4
                            repeat' (first | (refine AGet.haveM (by assumption) ?_; (try simp only [go_sem])) | (refine AGet.have' (by assumption) ?_; (try simp only [go_sem])) | ((first | refine AGet.nth ?_ (fun b hb => ?_) | refine AGet.nth1 ?_ (fun b hb => ?_) | with_reducible refine And.intro ?_ ?_); (focus ((first | omega | exact List.length_pos_iff.2 (by assumption) | (simp only [List.length_append, List.length_cons, List.length_nil, List.length_map, List.length_take, List.length_drop] at *; omega) | (rw [wrap64_id (by omega) (by omega)]; omega) | (simp; done)))); (try simp only [hb, go_sem])))
                            refine hK46 _ ?_; clear hK46 K46
                            refine AWP.ret ?_
                            try simp only [go_sem]
                            clear hK5 K5
                            exact ⟨[], .v _, rfl, rfl, by simp_all [execB], rfl⟩))
                    · first | exact Bool.noConfusion c35 | (
                        try simp only [dD] at c35
                        refine AWP.seqk fun K47 hK47 => ?_
                        refine AWP.region ?_
                        simp only [go_sem] -- region 11
                        repeat' (first | (refine AGet.haveM (by assumption) ?_; (try simp only [go_sem])) | (refine AGet.have' (by assumption) ?_; (try simp only [go_sem])) | ((first | refine AGet.nth ?_ (fun b hb => ?_) | refine AGet.nth1 ?_ (fun b hb => ?_) | with_reducible refine And.intro ?_ ?_); (focus ((first | omega | exact List.length_pos_iff.2 (by assumption) | (simp only [List.length_append, List.length_cons, List.length_nil, List.length_map, List.length_take, List.length_drop] at *; omega) | (rw [wrap64_id (by omega) (by omega)]; omega) | (simp; done)))); (try simp only [hb, go_sem])))
                        refine hK47 _ ?_; clear hK47 K47
                        refine AWP.cond rfl (fun c35 => ?_) (fun c35 => ?_)
                        · first | exact Bool.noConfusion c35 | (
                            try simp only [dD] at c35
                            refine AWP.skip ?_
                            refine hK41 _ ?_; clear hK41 K41
                            refine AWP.cond rfl (fun c35 => ?_) (fun c35 => ?_)
                            · first | exact Bool.noConfusion c35 | (
                                try simp only [dD] at c35
                                refine AWP.seqk fun K48 hK48 => ?_
                                refine AWP.region ?_
                                simp only [go_sem] -- region 15
                                repeat' (first | (refine AGet.haveM (by assumption) ?_; (try simp only [go_sem])) | (refine AGet.have' (by assumption) ?_; (try simp only [go_sem])) | ((first | refine AGet.nth ?_ (fun b hb => ?_) | refine AGet.nth1 ?_ (fun b hb => ?_) | with_reducible refine And.intro ?_ ?_); (focus ((first | omega | exact List.length_pos_iff.2 (by assumption) | (simp only [List.length_append, List.length_cons, List.length_nil, List.length_map, List.length_take, List.length_drop] at *; omega) | (rw [wrap64_id (by omega) (by omega)]; omega) | (simp; done)))); (try simp only [hb, go_sem])))
                                refine hK48 _ ?_; clear hK48 K48
                                refine AWP.cond rfl (fun c43 => ?_) (fun c43 => ?_)
                                · first | exact Bool.noConfusion c43 | (
                                    try simp only [dD] at c43
                                    refine AWP.seqk fun K49 hK49 => ?_
                                    refine AWP.region ?_
                                    simp only [go_sem] -- region 16
                                    repeat' (first | (refine AGet.haveM (by assumption) ?_; (try simp only [go_sem])) | (refine AGet.have' (by assumption) ?_; (try simp only [go_sem])) | ((first | refine AGet.nth ?_ (fun b hb => ?_) | refine AGet.nth1 ?_ (fun b hb => ?_) | with_reducible refine And.intro ?_ ?_); (focus ((first | omega | exact List.length_pos_iff.2 (by assumption) | (simp only [List.length_append, List.length_cons, List.length_nil, List.length_map, List.length_take, List.length_drop] at *; omega) | (rw [wrap64_id (by omega) (by omega)]; omega) | (simp; done)))); (try simp only [hb, go_sem])))
                                    refine hK49 _ ?_; clear hK49 K49
                                    refine AWP.ret ?_
                                    try simp only [go_sem]
                                    clear hK5 K5
                                    exact ⟨[], .v _, rfl, rfl, by simp_all [execB], rfl⟩)
                                · first | exact Bool.noConfusion c43 | (
                                    try simp only [dD] at c43
                                    refine AWP.skip ?_
                                    refine hK5 _ ?_; clear hK5 K5
                                    refine AWP.seqk fun K50 hK50 => ?_
                                    refine AWP.region ?_
                                    simp only [go_sem] -- region 17
                                    repeat' (first | (refine ACall.one (msmall_c _) (by kernel_rfl) rfl ?_; simp only [go_sem]) | (refine ACall.one (mwhen_c _) (by kernel_rfl) rfl ?_; simp only [go_sem]) | (refine AGuard.splitN (fun h => ?_) (fun h => ?_) <;> simp only [h, go_sem] <;> try simp only [dD] at h) | (refine AGuard.split (fun h => ?_) (fun h => ?_) <;> simp only [h, go_sem] <;> try simp only [dD] at h) | (refine AGet.haveM (by assumption) ?_; (try simp only [go_sem])) | (refine AGet.have' (by assumption) ?_; (try simp only [go_sem])) | ((first | refine AGet.nth ?_ (fun b hb => ?_) | refine AGet.nth1 ?_ (fun b hb => ?_) | with_reducible refine And.intro ?_ ?_); (focus ((first | omega | exact List.length_pos_iff.2 (by assumption) | (simp only [List.length_append, List.length_cons, List.length_nil, List.length_map, List.length_take, List.length_drop] at *; omega) | (rw [wrap64_id (by omega) (by omega)]; omega) | (simp; done)))); (try simp only [hb, go_sem])))
                                    all_goals (
                                      refine hK50 _ ?_; clear hK50 K50
                                      refine AWP.ret ?_
                                      try simp only [go_sem]
                                      exact ⟨[], .v _, rfl, rfl, by simp_all [execB], rfl⟩)))
                            · first | exact Bool.noConfusion c35 | (
                                try simp only [dD] at c35
                                refine AWP.seqk fun K51 hK51 => ?_
                                refine AWP.region ?_
                                simp only [go_sem] -- region 4
                                repeat' (first | (refine AGet.haveM (by assumption) ?_; (try simp only [go_sem])) | (refine AGet.have' (by assumption) ?_; (try simp only [go_sem])) | ((first | refine AGet.nth ?_ (fun b hb => ?_) | refine AGet.nth1 ?_ (fun b hb => ?_) | with_reducible refine And.intro ?_ ?_); (focus ((first | omega | exact List.length_pos_iff.2 (by assumption) | (simp only [List.length_append, List.length_cons, List.length_nil, List.length_map, List.length_take, List.length_drop] at *; omega) | (rw [wrap64_id (by omega) (by omega)]; omega) | (simp; done)))); (try simp only [hb, go_sem])))
                                refine hK51 _ ?_; clear hK51 K51
                                refine AWP.ret ?_
                                try simp only [go_sem]
                                clear hK5 K5
                                exact ⟨[], .v _, rfl, rfl, by simp_all [execB], rfl⟩))
                        · first | exact Bool.noConfusion c35 | (
                            try simp only [dD] at c35
                            refine AWP.seqk fun K52 hK52 => ?_
                            refine AWP.region ?_
                            simp only [go_sem] -- region 12
                            repeat' (first | (refine AGet.haveM (by assumption) ?_; (try simp only [go_sem])) | (refine AGet.have' (by assumption) ?_; (try simp only [go_sem])) | ((first | refine AGet.nth ?_ (fun b hb => ?_) | refine AGet.nth1 ?_ (fun b hb => ?_) | with_reducible refine And.intro ?_ ?_); (focus ((first | omega | exact List.length_pos_iff.2 (by assumption) | (simp only [List.length_append, List.length_cons, List.length_nil, List.length_map, List.length_take, List.length_drop] at *; omega) | (rw [wrap64_id (by omega) (by omega)]; omega) | (simp; done)))); (try simp only [hb, go_sem])))
                            refine hK52 _ ?_; clear hK52 K52
                            refine AWP.cond rfl (fun c35 => ?_) (fun c35 => ?_)
                            · first | exact Bool.noConfusion c35 | (
                                try simp only [dD] at c35
                                refine AWP.skip ?_
                                refine hK41 _ ?_; clear hK41 K41
                                refine AWP.cond rfl (fun c35 => ?_) (fun c35 => ?_)
                                · first | exact Bool.noConfusion c35 | (
                                    try simp only [dD] at c35
                                    refine AWP.seqk fun K53 hK53 => ?_
                                    refine AWP.region ?_
                                    simp only [go_sem] -- region 15
                                    repeat' (first | (refine AGet.haveM (by assumption) ?_; (try simp only [go_sem])) | (refine AGet.have' (by assumption) ?_; (try simp only [go_sem])) | ((first | refine AGet.nth ?_ (fun b hb => ?_) | refine AGet.nth1 ?_ (fun b hb => ?_) | with_reducible refine And.intro ?_ ?_); (focus ((first | omega | exact List.length_pos_iff.2 (by assumption) | (simp only [List.length_append, List.length_cons, List.length_nil, List.length_map, List.length_take, List.length_drop] at *; omega) | (rw [wrap64_id (by omega) (by omega)]; omega) | (simp; done)))); (try simp only [hb, go_sem])))
                                    refine hK53 _ ?_; clear hK53 K53
                                    refine AWP.cond rfl (fun c43 => ?_) (fun c43 => ?_)
                                    · first | exact Bool.noConfusion c43 | (
                                        try simp only [dD] at c43
                                        refine AWP.seqk fun K54 hK54 => ?_
                                        refine AWP.region ?_
                                        simp only [go_sem] -- region 16
                                        repeat' (first | (refine AGet.haveM (by assumption) ?_; (try simp only [go_sem])) | (refine AGet.have' (by assumption) ?_; (try simp only [go_sem])) | ((first | refine AGet.nth ?_ (fun b hb => ?_) | refine AGet.nth1 ?_ (fun b hb => ?_) | with_reducible refine And.intro ?_ ?_); (focus ((first | omega | exact List.length_pos_iff.2 (by assumption) | (simp only [List.length_append, List.length_cons, List.length_nil, List.length_map, List.length_take, List.length_drop] at *; omega) | (rw [wrap64_id (by omega) (by omega)]; omega) | (simp; done)))); (try simp only [hb, go_sem])))
                                        refine hK54 _ ?_; clear hK54 K54
                                        refine AWP.ret ?_
                                        try simp only [go_sem]
                                        clear hK5 K5
                                        exact ⟨[], .v _, rfl, rfl, by simp_all [execB], rfl⟩)
                                    · first | exact Bool.noConfusion c43 | (
                                        try simp only [dD] at c43
                                        refine AWP.skip ?_
                                        refine hK5 _ ?_; clear hK5 K5
                                        refine AWP.seqk fun K55 hK55 => ?_
                                        refine AWP.region ?_
                                        simp only [go_sem] -- region 17
                                        repeat' (first | (refine ACall.one (msmall_c _) (by kernel_rfl) rfl ?_; simp only [go_sem]) | (refine ACall.one (mwhen_c _) (by kernel_rfl) rfl ?_; simp only [go_sem]) | (refine AGuard.splitN (fun h => ?_) (fun h => ?_) <;> simp only [h, go_sem] <;> try simp only [dD] at h) | (refine AGuard.split (fun h => ?_) (fun h => ?_) <;> simp only [h, go_sem] <;> try simp only [dD] at h) | (refine AGet.haveM (by assumption) ?_; (try simp only [go_sem])) | (refine AGet.have' (by assumption) ?_; (try simp only [go_sem])) | ((first | refine AGet.nth ?_ (fun b hb => ?_) | refine AGet.nth1 ?_ (fun b hb => ?_) | with_reducible refine And.intro ?_ ?_); (focus ((first | omega | exact List.length_pos_iff.2 (by assumption) | (simp only [List.length_append, List.length_cons, List.length_nil, List.length_map, List.length_take, List.length_drop] at *; omega) | (rw [wrap64_id (by omega) (by omega)]; omega) | (simp; done)))); (try simp only [hb, go_sem])))
                                        all_goals (
                                          refine hK55 _ ?_; clear hK55 K55
                                          refine AWP.ret ?_
                                          try simp only [go_sem]
                                          exact ⟨[], .v _, rfl, rfl, by simp_all [execB], rfl⟩)))
                                · first | exact Bool.noConfusion c35 | (
                                    try simp only [dD] at c35
                                    refine AWP.seqk fun K56 hK56 => ?_
                                    refine AWP.region ?_
                                    simp only [go_sem] -- region 4
                                    repeat' (first | (refine AGet.haveM (by assumption) ?_; (try simp only [go_sem])) | (refine AGet.have' (by assumption) ?_; (try simp only [go_sem])) | ((first | refine AGet.nth ?_ (fun b hb => ?_) | refine AGet.nth1 ?_ (fun b hb => ?_) | with_reducible refine And.intro ?_ ?_); (focus ((first | omega | exact List.length_pos_iff.2 (by assumption) | (simp only [List.length_append, List.length_cons, List.length_nil, List.length_map, List.length_take, List.length_drop] at *; omega) | (rw [wrap64_id (by omega) (by omega)]; omega) | (simp; done)))); (try simp only [hb, go_sem])))
                                    refine hK56 _ ?_; clear hK56 K56
                                    refine AWP.ret ?_
                                    try simp only [go_sem]
                                    clear hK5 K5
                                    exact ⟨[], .v _, rfl, rfl, by simp_all [execB], rfl⟩))
                            · first | exact Bool.noConfusion c35 | (
                                try simp only [dD] at c35
                                refine AWP.seqk fun K57 hK57 => ?_
                                refine AWP.region ?_
                                simp only [go_sem] -- region 13
                                repeat' (first | (refine AGet.haveM (by assumption) ?_; (try simp only [go_sem])) | (refine AGet.have' (by assumption) ?_; (try simp only [go_sem])) | ((first | refine AGet.nth ?_ (fun b hb => ?_) | refine AGet.nth1 ?_ (fun b hb => ?_) | with_reducible refine And.intro ?_ ?_); (focus ((first | omega | exact List.length_pos_iff.2 (by assumption) | (simp only [List.length_append, List.length_cons, List.length_nil, List.length_map, List.length_take, List.length_drop] at *; omega) | (rw [wrap64_id (by omega) (by omega)]; omega) | (simp; done)))); (try simp only [hb, go_sem])))
                                refine hK57 _ ?_; clear hK57 K57
                                refine AWP.cond rfl (fun c35 => ?_) (fun c35 => ?_)
                                · first | exact Bool.noConfusion c35 | (
                                    try simp only [dD] at c35
                                    refine AWP.skip ?_
                                    refine hK41 _ ?_; clear hK41 K41
                                    refine AWP.cond rfl (fun c35 => ?_) (fun c35 => ?_)
                                    · first | exact Bool.noConfusion c35 | (
                                        try simp only [dD] at c35
                                        refine AWP.seqk fun K58 hK58 => ?_
                                        refine AWP.region ?_
                                        simp only [go_sem] -- region 15
                                        repeat' (first | (refine AGet.haveM (by assumption) ?_; (try simp only [go_sem])) | (refine AGet.have' (by assumption) ?_; (try simp only [go_sem])) | ((first | refine AGet.nth ?_ (fun b hb => ?_) | refine AGet.nth1 ?_ (fun b hb => ?_) | with_reducible refine And.intro ?_ ?_); (focus ((first | omega | exact List.length_pos_iff.2 (by assumption) | (simp only [List.length_append, List.length_cons, List.length_nil, List.length_map, List.length_take, List.length_drop] at *; omega) | (rw [wrap64_id (by omega) (by omega)]; omega) | (simp; done)))); (try simp only [hb, go_sem])))
                                        refine hK58 _ ?_; clear hK58 K58
                                        refine AWP.cond rfl (fun c43 => ?_) (fun c43 => ?_)
                                        · first | exact Bool.noConfusion c43 | (
                                            try simp only [dD] at c43
                                            refine AWP.seqk fun K59 hK59 => ?_
                                            refine AWP.region ?_
                                            simp only [go_sem] -- region 16
                                            repeat' (first | (refine AGet.haveM (by assumption) ?_; (try simp only [go_sem])) | (refine AGet.have' (by assumption) ?_; (try simp only [go_sem])) | ((first | refine AGet.nth ?_ (fun b hb => ?_) | refine AGet.nth1 ?_ (fun b hb => ?_) | with_reducible refine And.intro ?_ ?_); (focus ((first | omega | exact List.length_pos_iff.2 (by assumption) | (simp only [List.length_append, List.length_cons, List.length_nil, List.length_map, List.length_take, List.length_drop] at *; omega) | (rw [wrap64_id (by omega) (by omega)]; omega) | (simp; done)))); (try simp only [hb, go_sem])))
                                            refine hK59 _ ?_; clear hK59 K59
                                            refine AWP.ret ?_
                                            try simp only [go_sem]
                                            clear hK5 K5
                                            exact ⟨[], .v _, rfl, rfl, by simp_all [execB], rfl⟩)
                                        · first | exact Bool.noConfusion c43 | (
                                            try simp only [dD] at c43
                                            refine AWP.skip ?_
                                            refine hK5 _ ?_; clear hK5 K5
                                            refine AWP.seqk fun K60 hK60 => ?_
                                            refine AWP.region ?_
                                            simp only [go_sem] -- region 17
                                            repeat' (first | (refine ACall.one (msmall_c _) (by kernel_rfl) rfl ?_; simp only [go_sem]) | (refine ACall.one (mwhen_c _) (by kernel_rfl) rfl ?_; simp only [go_sem]) | (refine AGuard.splitN (fun h => ?_) (fun h => ?_) <;> simp only [h, go_sem] <;> try simp only [dD] at h) | (refine AGuard.split (fun h => ?_) (fun h => ?_) <;> simp only [h, go_sem] <;> try simp only [dD] at h) | (refine AGet.haveM (by assumption) ?_; (try simp only [go_sem])) | (refine AGet.have' (by assumption) ?_; (try simp only [go_sem])) | ((first | refine AGet.nth ?_ (fun b hb => ?_) | refine AGet.nth1 ?_ (fun b hb => ?_) | with_reducible refine And.intro ?_ ?_); (focus ((first | omega | exact List.length_pos_iff.2 (by assumption) | (simp only [List.length_append, List.length_cons, List.length_nil, List.length_map, List.length_take, List.length_drop] at *; omega) | (rw [wrap64_id (by omega) (by omega)]; omega) | (simp; done)))); (try simp only [hb, go_sem])))
                                            all_goals (
                                              refine hK60 _ ?_; clear hK60 K60
                                              refine AWP.ret ?_
                                              try simp only [go_sem]
                                              exact ⟨[], .v _, rfl, rfl, by simp_all [execB], rfl⟩)))
                                    · first | exact Bool.noConfusion c35 | (
                                        try simp only [dD] at c35
                                        refine AWP.seqk fun K61 hK61 => ?_
                                        refine AWP.region ?_
                                        simp only [go_sem] -- region 4
                                        repeat' (first | (refine AGet.haveM (by assumption) ?_; (try simp only [go_sem])) | (refine AGet.have' (by assumption) ?_; (try simp only [go_sem])) | ((first | refine AGet.nth ?_ (fun b hb => ?_) | refine AGet.nth1 ?_ (fun b hb => ?_) | with_reducible refine And.intro ?_ ?_); (focus ((first | omega | exact List.length_pos_iff.2 (by assumption) | (simp only [List.length_append, List.length_cons, List.length_nil, List.length_map, List.length_take, List.length_drop] at *; omega) | (rw [wrap64_id (by omega) (by omega)]; omega) | (simp; done)))); (try simp only [hb, go_sem])))
                                        refine hK61 _ ?_; clear hK61 K61
                                        refine AWP.ret ?_
                                        try simp only [go_sem]
                                        clear hK5 K5
                                        exact ⟨[], .v _, rfl, rfl, by simp_all [execB], rfl⟩))
                                · first | exact Bool.noConfusion c35 | (
                                    try simp only [dD] at c35
                                    refine AWP.region ?_
                                    simp only [go_sem] -- region 14
                                    repeat' (first | (refine AGet.haveM (by assumption) ?_; (try simp only [go_sem])) | (refine AGet.have' (by assumption) ?_; (try simp only [go_sem])) | ((first | refine AGet.nth ?_ (fun b hb => ?_) | refine AGet.nth1 ?_ (fun b hb => ?_) | with_reducible refine And.intro ?_ ?_); (focus ((first | omega | exact List.length_pos_iff.2 (by assumption) | (simp only [List.length_append, List.length_cons, List.length_nil, List.length_map, List.length_take, List.length_drop] at *; omega) | (rw [wrap64_id (by omega) (by omega)]; omega) | (simp; done)))); (try simp only [hb, go_sem])))
                                    refine hK41 _ ?_; clear hK41 K41
                                    refine AWP.cond rfl (fun c35 => ?_) (fun c35 => ?_)
                                    · first | exact Bool.noConfusion c35 | (
                                        try simp only [dD] at c35
                                        refine AWP.seqk fun K62 hK62 => ?_
                                        refine AWP.region ?_
                                        simp only [go_sem] -- region 15
                                        repeat' (first | (refine AGet.haveM (by assumption) ?_; (try simp only [go_sem])) | (refine AGet.have' (by assumption) ?_; (try simp only [go_sem])) | ((first | refine AGet.nth ?_ (fun b hb => ?_) | refine AGet.nth1 ?_ (fun b hb => ?_) | with_reducible refine And.intro ?_ ?_); (focus ((first | omega | exact List.length_pos_iff.2 (by assumption) | (simp only [List.length_append, List.length_cons, List.length_nil, List.length_map, List.length_take, List.length_drop] at *; omega) | (rw [wrap64_id (by omega) (by omega)]; omega) | (simp; done)))); (try simp only [hb, go_sem])))
                                        refine hK62 _ ?_; clear hK62 K62
                                        refine AWP.cond rfl (fun c43 => ?_) (fun c43 => ?_)
                                        · first | exact Bool.noConfusion c43 | (
                                            try simp only [dD] at c43
                                            refine AWP.seqk fun K63 hK63 => ?_
                                            refine AWP.region ?_
                                            simp only [go_sem] -- region 16
                                            repeat' (first | (refine AGet.haveM (by assumption) ?_; (try simp only [go_sem])) | (refine AGet.have' (by assumption) ?_; (try simp only [go_sem])) | ((first | refine AGet.nth ?_ (fun b hb => ?_) | refine AGet.nth1 ?_ (fun b hb => ?_) | with_reducible refine And.intro ?_ ?_); (focus ((first | omega | exact List.length_pos_iff.2 (by assumption) | (simp only [List.length_append, List.length_cons, List.length_nil, List.length_map, List.length_take, List.length_drop] at *; omega) | (rw [wrap64_id (by omega) (by omega)]; omega) | (simp; done)))); (try simp only [hb, go_sem])))
                                            refine hK63 _ ?_; clear hK63 K63
                                            refine AWP.ret ?_
                                            try simp only [go_sem]
                                            clear hK5 K5
                                            exact ⟨[], .v _, rfl, rfl, by simp_all [execB], rfl⟩)
                                        · first | exact Bool.noConfusion c43 | (
                                            try simp only [dD] at c43
                                            refine AWP.skip ?_
                                            refine hK5 _ ?_; clear hK5 K5
                                            refine AWP.seqk fun K64 hK64 => ?_
                                            refine AWP.region ?_
                                            simp only [go_sem] -- region 17
                                            repeat' (first | (refine ACall.one (msmall_c _) (by kernel_rfl) rfl ?_; simp only [go_sem]) | (refine ACall.one (mwhen_c _) (by kernel_rfl) rfl ?_; simp only [go_sem]) | (refine AGuard.splitN (fun h => ?_) (fun h => ?_) <;> simp only [h, go_sem] <;> try simp only [dD] at h) | (refine AGuard.split (fun h => ?_) (fun h => ?_) <;> simp only [h, go_sem] <;> try simp only [dD] at h) | (refine AGet.haveM (by assumption) ?_; (try simp only [go_sem])) | (refine AGet.have' (by assumption) ?_; (try simp only [go_sem])) | ((first | refine AGet.nth ?_ (fun b hb => ?_) | refine AGet.nth1 ?_ (fun b hb => ?_) | with_reducible refine And.intro ?_ ?_); (focus ((first | omega | exact List.length_pos_iff.2 (by assumption) | (simp only [List.length_append, List.length_cons, List.length_nil, List.length_map, List.length_take, List.length_drop] at *; omega) | (rw [wrap64_id (by omega) (by omega)]; omega) | (simp; done)))); (try simp only [hb, go_sem])))
                                            all_goals (
                                              refine hK64 _ ?_; clear hK64 K64
                                              refine AWP.ret ?_
                                              try simp only [go_sem]
                                              exact ⟨[], .v _, rfl, rfl, by simp_all [execB], rfl⟩)))
                                    · first | exact Bool.noConfusion c35 | (
                                        try simp only [dD] at c35
                                        refine AWP.seqk fun K65 hK65 => ?_
                                        refine AWP.region ?_
                                        simp only [go_sem] -- region 4
                                        repeat' (first | (refine AGet.haveM (by assumption) ?_; (try simp only [go_sem])) | (refine AGet.have' (by assumption) ?_; (try simp only [go_sem])) | ((first | refine AGet.nth ?_ (fun b hb => ?_) | refine AGet.nth1 ?_ (fun b hb => ?_) | with_reducible refine And.intro ?_ ?_); (focus ((first | omega | exact List.length_pos_iff.2 (by assumption) | (simp only [List.length_append, List.length_cons, List.length_nil, List.length_map, List.length_take, List.length_drop] at *; omega) | (rw [wrap64_id (by omega) (by omega)]; omega) | (simp; done)))); (try simp only [hb, go_sem])))
                                        refine hK65 _ ?_; clear hK65 K65
                                        refine AWP.ret ?_
                                        try simp only [go_sem]
                                        clear hK5 K5
                                        exact ⟨[], .v _, rfl, rfl, by simp_all [execB], rfl⟩)))))))
            · first | exact Bool.noConfusion c27 | (
                try simp only [dD] at c27
                refine AWP.region ?_
                simp only [go_sem] -- region 7
                repeat' (first | (refine AGet.haveM (by assumption) ?_; (try simp only [go_sem])) | (refine AGet.have' (by assumption) ?_; (try simp only [go_sem])) | ((first | refine AGet.nth ?_ (fun b hb => ?_) | refine AGet.nth1 ?_ (fun b hb => ?_) | with_reducible refine And.intro ?_ ?_); (focus ((first | omega | exact List.length_pos_iff.2 (by assumption) | (simp only [List.length_append, List.length_cons, List.length_nil, List.length_map, List.length_take, List.length_drop] at *; omega) | (rw [wrap64_id (by omega) (by omega)]; omega) | (simp; done)))); (try simp only [hb, go_sem])))
                refine hK7 _ ?_; clear hK7 K7
                refine AWP.cond rfl (fun c27 => ?_) (fun c27 => ?_)
                · first | exact Bool.noConfusion c27 | (
                    try simp only [dD] at c27
                    refine AWP.seqk fun K66 hK66 => ?_
                    refine AWP.region ?_
                    simp only [go_sem] -- region 8
                    repeat' (first | (refine ACall.one (mname_c _) (by kernel_rfl) rfl ?_; simp only [go_sem]) | (refine AGet.haveM (by assumption) ?_; (try simp only [go_sem])) | (refine AGet.have' (by assumption) ?_; (try simp only [go_sem])) | ((first | refine AGet.nth ?_ (fun b hb => ?_) | refine AGet.nth1 ?_ (fun b hb => ?_) | with_reducible refine And.intro ?_ ?_); (focus ((first | omega | exact List.length_pos_iff.2 (by assumption) | (simp only [List.length_append, List.length_cons, List.length_nil, List.length_map, List.length_take, List.length_drop] at *; omega) | (rw [wrap64_id (by omega) (by omega)]; omega) | (simp; done)))); (try simp only [hb, go_sem])))
                    refine hK66 _ ?_; clear hK66 K66
                    refine AWP.cond rfl (fun c34 => ?_) (fun c34 => ?_)
                    · first | exact Bool.noConfusion c34 | (
                        try simp only [dD] at c34
                        refine AWP.seqk fun K67 hK67 => ?_
                        refine AWP.region ?_
                        simp only [go_sem] -- region 9
                        repeat' (first | (refine AGet.haveM (by assumption) ?_; (try simp only [go_sem])) | (refine AGet.have' (by assumption) ?_; (try simp only [go_sem])) | ((first | refine AGet.nth ?_ (fun b hb => ?_) | refine AGet.nth1 ?_ (fun b hb => ?_) | with_reducible refine And.intro ?_ ?_); (focus ((first | omega | exact List.length_pos_iff.2 (by assumption) | (simp only [List.length_append, List.length_cons, List.length_nil, List.length_map, List.length_take, List.length_drop] at *; omega) | (rw [wrap64_id (by omega) (by omega)]; omega) | (simp; done)))); (try simp only [hb, go_sem])))
                        refine hK67 _ ?_; clear hK67 K67
                        refine AWP.ret ?_
                        try simp only [go_sem]
                        clear hK5 K5
                        exact ⟨[], .v _, rfl, rfl, by simp_all [execB], rfl⟩)
                    · first | exact Bool.noConfusion c34 | (
                        try simp only [dD] at c34
                        refine AWP.skip ?_
                        refine hK5 _ ?_; clear hK5 K5
                        refine AWP.seqk fun K68 hK68 => ?_
                        refine AWP.region ?_
                        simp only [go_sem] -- region 17
                        repeat' (first | (refine ACall.one (msmall_c _) (by kernel_rfl) rfl ?_; simp only [go_sem]) | (refine ACall.one (mwhen_c _) (by kernel_rfl) rfl ?_; simp only [go_sem]) | (refine AGuard.splitN (fun h => ?_) (fun h => ?_) <;> simp only [h, go_sem] <;> try simp only [dD] at h) | (refine AGuard.split (fun h => ?_) (fun h => ?_) <;> simp only [h, go_sem] <;> try simp only [dD] at h) | (refine AGet.haveM (by assumption) ?_; (try simp only [go_sem])) | (refine AGet.have' (by assumption) ?_; (try simp only [go_sem])) | ((first | refine AGet.nth ?_ (fun b hb => ?_) | refine AGet.nth1 ?_ (fun b hb => ?_) | with_reducible refine And.intro ?_ ?_); (focus ((first | omega | exact List.length_pos_iff.2 (by assumption) | (simp only [List.length_append, List.length_cons, List.length_nil, List.length_map, List.length_take, List.length_drop] at *; omega) | (rw [wrap64_id (by omega) (by omega)]; omega) | (simp; done)))); (try simp only [hb, go_sem])))
                        all_goals (
                          refine hK68 _ ?_; clear hK68 K68
                          refine AWP.ret ?_
                          try simp only [go_sem]
                          exact ⟨[], .v _, rfl, rfl, by simp_all [execB], rfl⟩)))
                · first | exact Bool.noConfusion c27 | (
                    try simp only [dD] at c27
                    refine AWP.seqk fun K69 hK69 => ?_
                    refine AWP.seqk fun K70 hK70 => ?_
                    refine AWP.region ?_
                    simp only [go_sem] -- region 10
                    repeat' (first | (refine AGet.haveM (by assumption) ?_; (try simp only [go_sem])) | (refine AGet.have' (by assumption) ?_; (try simp only [go_sem])) | ((first | refine AGet.nth ?_ (fun b hb => ?_) | refine AGet.nth1 ?_ (fun b hb => ?_) | with_reducible refine And.intro ?_ ?_); (focus ((first | omega | exact List.length_pos_iff.2 (by assumption) | (simp only [List.length_append, List.length_cons, List.length_nil, List.length_map, List.length_take, List.length_drop] at *; omega) | (rw [wrap64_id (by omega) (by omega)]; omega) | (simp; done)))); (try simp only [hb, go_sem])))
                    refine hK70 _ ?_; clear hK70 K70
                    refine AWP.cond rfl (fun c35 => ?_) (fun c35 => ?_)
                    · first | exact Bool.noConfusion c35 | (
                        try simp only [dD] at c35
                        refine AWP.skip ?_
                        refine hK69 _ ?_; clear hK69 K69
                        refine AWP.cond rfl (fun c35 => ?_) (fun c35 => ?_)
                        · first | exact Bool.noConfusion c35 | (
                            try simp only [dD] at c35
                            refine AWP.seqk fun K71 hK71 => ?_
                            refine AWP.region ?_
                            simp only [go_sem] -- region 15
                            repeat' (first | (refine AGet.haveM (by assumption) ?_; (try simp only [go_sem])) | (refine AGet.have' (by assumption) ?_; (try simp only [go_sem])) | ((first | refine AGet.nth ?_ (fun b hb => ?_) | refine AGet.nth1 ?_ (fun b hb => ?_) | with_reducible refine And.intro ?_ ?_); (focus ((first | omega | exact List.length_pos_iff.2 (by assumption) | (simp only [List.length_append, List.length_cons, List.length_nil, List.length_map, List.length_take, List.length_drop] at *; omega) | (rw [wrap64_id (by omega) (by omega)]; omega) | (simp; done)))); (try simp only [hb, go_sem])))
                            refine hK71 _ ?_; clear hK71 K71
                            refine AWP.cond rfl (fun c43 => ?_) (fun c43 => ?_)
                            · first | exact Bool.noConfusion c43 | (
                                try simp only [dD] at c43
                                refine AWP.seqk fun K72 hK72 => ?_
                                refine AWP.region ?_
                                simp only [go_sem] -- region 16
                                repeat' (first | (refine AGet.haveM (by assumption) ?_; (try simp only [go_sem])) | (refine AGet.have' (by assumption) ?_; (try simp only [go_sem])) | ((first | refine AGet.nth ?_ (fun b hb => ?_) | refine AGet.nth1 ?_ (fun b hb => ?_) | with_reducible refine And.intro ?_ ?_); (focus ((first | omega | exact List.length_pos_iff.2 (by assumption) | (simp only [List.length_append, List.length_cons, List.length_nil, List.length_map, List.length_take, List.length_drop] at *; omega) | (rw [wrap64_id (by omega) (by omega)]; omega) | (simp; done)))); (try simp only [hb, go_sem])))
                                refine hK72 _ ?_; clear hK72 K72
                                refine AWP.ret ?_
                                try simp only [go_sem]
                                clear hK5 K5
                                exact ⟨[], .v _, rfl, rfl, by simp_all [execB], rfl⟩)
                            · first | exact Bool.noConfusion c43 | (
                                try simp only [dD] at c43
                                refine AWP.skip ?_
                                refine hK5 _ ?_; clear hK5 K5
                                refine AWP.seqk fun K73 hK73 => ?_
                                refine AWP.region ?_
                                simp only [go_sem] -- region 17
                                repeat' (first | (refine ACall.one (msmall_c _) (by kernel_rfl) rfl ?_; simp only [go_sem]) | (refine ACall.one (mwhen_c _) (by kernel_rfl) rfl ?_; simp only [go_sem]) | (refine AGuard.splitN (fun h => ?_) (fun h => ?_) <;> simp only [h, go_sem] <;> try simp only [dD] at h) | (refine AGuard.split (fun h => ?_) (fun h => ?_) <;> simp only [h, go_sem] <;> try simp only [dD] at h) | (refine AGet.haveM (by assumption) ?_; (try simp only [go_sem])) | (refine AGet.have' (by assumption) ?_; (try simp only [go_sem])) | ((first | refine AGet.nth ?_ (fun b hb => ?_) | refine AGet.nth1 ?_ (fun b hb => ?_) | with_reducible refine And.intro ?_ ?_); (focus ((first | omega | exact List.length_pos_iff.2 (by assumption) | (simp only [List.length_append, List.length_cons, List.length_nil, List.length_map, List.length_take, List.length_drop] at *; omega) | (rw [wrap64_id (by omega) (by omega)]; omega) | (simp; done)))); (try simp only [hb, go_sem])))
                                all_goals (
                                  refine hK73 _ ?_; clear hK73 K73
                                  refine AWP.ret ?_
                                  try simp only [go_sem]
                                  exact ⟨[], .v _, rfl, rfl, by simp_all [execB], rfl⟩)))
                        · first | exact Bool.noConfusion c35 | (
                            try simp only [dD] at c35
                            refine AWP.seqk fun K74 hK74 => ?_
                            refine AWP.region ?_
                            simp only [go_sem] -- region 4
                            repeat' (first | (refine AGet.haveM (by assumption) ?_; (try simp only [go_sem])) | (refine AGet.have' (by assumption) ?_; (try simp only [go_sem])) | ((first | refine AGet.nth ?_ (fun b hb => ?_) | refine AGet.nth1 ?_ (fun b hb => ?_) | with_reducible refine And.intro ?_ ?_); (focus ((first | omega | exact List.length_pos_iff.2 (by assumption) | (simp only [List.length_append, List.length_cons, List.length_nil, List.length_map, List.length_take, List.length_drop] at *; omega) | (rw [wrap64_id (by omega) (by omega)]; omega) | (simp; done)))); (try simp only [hb, go_sem])))
                            refine hK74 _ ?_; clear hK74 K74
                            refine AWP.ret ?_
                            try simp only [go_sem]
                            clear hK5 K5
                            exact ⟨[], .v _, rfl, rfl, by simp_all [execB], rfl⟩))
                    · first | exact Bool.noConfusion c35 | (
                        try simp only [dD] at c35
                        refine AWP.seqk fun K75 hK75 => ?_
                        refine AWP.region ?_
                        simp only [go_sem] -- region 11
                        repeat' (first | (refine AGet.haveM (by assumption) ?_; (try simp only [go_sem])) | (refine AGet.have' (by assumption) ?_; (try simp only [go_sem])) | ((first | refine AGet.nth ?_ (fun b hb => ?_) | refine AGet.nth1 ?_ (fun b hb => ?_) | with_reducible refine And.intro ?_ ?_); (focus ((first | omega | exact List.length_pos_iff.2 (by assumption) | (simp only [List.length_append, List.length_cons, List.length_nil, List.length_map, List.length_take, List.length_drop] at *; omega) | (rw [wrap64_id (by omega) (by omega)]; omega) | (simp; done)))); (try simp only [hb, go_sem])))
                        refine hK75 _ ?_; clear hK75 K75
                        refine AWP.cond rfl (fun c35 => ?_) (fun c35 => ?_)
                        · first | exact Bool.noConfusion c35 | (
                            try simp only [dD] at c35
                            refine AWP.skip ?_
                            refine hK69 _ ?_; clear hK69 K69
                            refine AWP.cond rfl (fun c35 => ?_) (fun c35 => ?_)
                            · first | exact Bool.noConfusion c35 | (
                                try simp only [dD] at c35
                                refine AWP.seqk fun K76 hK76 => ?_
                                refine AWP.region ?_
                                simp only [go_sem] -- region 15
                                repeat' (first | (refine AGet.haveM (by assumption) ?_; (try simp only [go_sem])) | (refine AGet.have' (by assumption) ?_; (try simp only [go_sem])) | ((first | refine AGet.nth ?_ (fun b hb => ?_) | refine AGet.nth1 ?_ (fun b hb => ?_) | with_reducible refine And.intro ?_ ?_); (focus ((first | omega | exact List.length_pos_iff.2 (by assumption) | (simp only [List.length_append, List.length_cons, List.length_nil, List.length_map, List.length_take, List.length_drop] at *; omega) | (rw [wrap64_id (by omega) (by omega)]; omega) | (simp; done)))); (try simp only [hb, go_sem])))
                                refine hK76 _ ?_; clear hK76 K76
                                refine AWP.cond rfl (fun c43 => ?_) (fun c43 => ?_)
                                · first | exact Bool.noConfusion c43 | (
                                    try simp only [dD] at c43
                                    refine AWP.seqk fun K77 hK77 => ?_
                                    refine AWP.region ?_
                                    simp only [go_sem] -- region 16
                                    repeat' (first | (refine AGet.haveM (by assumption) ?_; (try simp only [go_sem])) | (refine AGet.have' (by assumption) ?_; (try simp only [go_sem])) | ((first | refine AGet.nth ?_ (fun b hb => ?_) | refine AGet.nth1 ?_ (fun b hb => ?_) | with_reducible refine And.intro ?_ ?_); (focus ((first | omega | exact List.length_pos_iff.2 (by assumption) | (simp only [List.length_append, List.length_cons, List.length_nil, List.length_map, List.length_take, List.length_drop] at *; omega) | (rw [wrap64_id (by omega) (by omega)]; omega) | (simp; done)))); (try simp only [hb, go_sem])))
                                    refine hK77 _ ?_; clear hK77 K77
                                    refine AWP.ret ?_
                                    try simp only [go_sem]
                                    clear hK5 K5
                                    exact ⟨[], .v _, rfl, rfl, by simp_all [execB], rfl⟩)
                                · first | exact Bool.noConfusion c43 | (
                                    try simp only [dD] at c43
                                    refine AWP.skip ?_
                                    refine hK5 _ ?_; clear hK5 K5
                                    refine AWP.seqk fun K78 hK78 => ?_
                                    refine AWP.region ?_
                                    simp only [go_sem] -- region 17
                                    repeat' (first | (refine ACall.one (msmall_c _) (by kernel_rfl) rfl ?_; simp only [go_sem]) | (refine ACall.one (mwhen_c _) (by kernel_rfl) rfl ?_; simp only [go_sem]) | (refine AGuard.splitN (fun h => ?_) (fun h => ?_) <;> simp only [h, go_sem] <;> try simp only [dD] at h) | (refine AGuard.split (fun h => ?_) (fun h => ?_) <;> simp only [h, go_sem] <;> try simp only [dD] at h) | (refine AGet.haveM (by assumption) ?_; (try simp only [go_sem])) | (refine AGet.have' (by assumption) ?_; (try simp only [go_sem])) | ((first | refine AGet.nth ?_ (fun b hb => ?_) | refine AGet.nth1 ?_ (fun b hb => ?_) | with_reducible refine And.intro ?_ ?_); (focus ((first | omega | exact List.length_pos_iff.2 (by assumption) | (simp only [List.length_append, List.length_cons, List.length_nil, List.length_map, List.length_take, List.length_drop] at *; omega) | (rw [wrap64_id (by omega) (by omega)]; omega) | (simp; done)))); (try simp only [hb, go_sem])))
                                    all_goals (
                                      refine hK78 _ ?_; clear hK78 K78
                                      refine AWP.ret ?_
                                      try simp only [go_sem]
                                      exact ⟨[], .v _, rfl, rfl, by simp_all [execB], rfl⟩)))
                            · first | exact Bool.noConfusion c35 | (
                                try simp only [dD] at c35
                                refine AWP.seqk fun K79 hK79 => ?_
                                refine AWP.region ?_
                                simp only [go_sem] -- region 4
                                repeat' (first | (refine AGet.haveM (by assumption) ?_; (try simp only [go_sem])) | (refine AGet.have' (by assumption) ?_; (try simp only [go_sem])) | ((first | refine AGet.nth ?_ (fun b hb => ?_) | refine AGet.nth1 ?_ (fun b hb => ?_) | with_reducible refine And.intro ?_ ?_); (focus ((first | omega | exact List.length_pos_iff.2 (by assumption) | (simp only [List.length_append, List.length_cons, List.length_nil, List.length_map, List.length_take, List.length_drop] at *; omega) | (rw [wrap64_id (by omega) (by omega)]; omega) | (simp; done)))); (try simp only [hb, go_sem])))
                                refine hK79 _ ?_; clear hK79 K79
                                refine AWP.ret ?_
                                try simp only [go_sem]
                                clear hK5 K5
                                exact ⟨[], .v _, rfl, rfl, by simp_all [execB], rfl⟩))
                        · first | exact Bool.noConfusion c35 | (
                            try simp only [dD] at c35
                            refine AWP.seqk fun K80 hK80 => ?_
                            refine AWP.region ?_
                            simp only [go_sem] -- region 12
                            repeat' (first | (refine AGet.haveM (by assumption) ?_; (try simp only [go_sem])) | (refine AGet.have' (by assumption) ?_; (try simp only [go_sem])) | ((first | refine AGet.nth ?_ (fun b hb => ?_) | refine AGet.nth1 ?_ (fun b hb => ?_) | with_reducible refine And.intro ?_ ?_); (focus ((first | omega | exact List.length_pos_iff.2 (by assumption) | (simp only [List.length_append, List.length_cons, List.length_nil, List.length_map, List.length_take, List.length_drop] at *; omega) | (rw [wrap64_id (by omega) (by omega)]; omega) | (simp; done)))); (try simp only [hb, go_sem])))
                            refine hK80 _ ?_; clear hK80 K80
                            refine AWP.cond rfl (fun c35 => ?_) (fun c35 => ?_)
                            · first | exact Bool.noConfusion c35 | (
                                try simp only [dD] at c35
                                refine AWP.skip ?_
                                refine hK69 _ ?_; clear hK69 K69
                                refine AWP.cond rfl (fun c35 => ?_) (fun c35 => ?_)
                                · first | exact Bool.noConfusion c35 | (
                                    try simp only [dD] at c35
                                    refine AWP.seqk fun K81 hK81 => ?_
                                    refine AWP.region ?_
                                    simp only [go_sem] -- region 15
                                    repeat' (first | (refine AGet.haveM (by assumption) ?_; (try simp only [go_sem])) | (refine AGet.have' (by assumption) ?_; (try simp only [go_sem])) | ((first | refine AGet.nth ?_ (fun b hb => ?_) | refine AGet.nth1 ?_ (fun b hb => ?_) | with_reducible refine And.intro ?_ ?_); (focus ((first | omega | exact List.length_pos_iff.2 (by assumption) | (simp only [List.length_append, List.length_cons, List.length_nil, List.length_map, List.length_take, List.length_drop] at *; omega) | (rw [wrap64_id (by omega) (by omega)]; omega) | (simp; done)))); (try simp only [hb, go_sem])))
                                    refine hK81 _ ?_; clear hK81 K81
                                    refine AWP.cond rfl (fun c43 => ?_) (fun c43 => ?_)
                                    · first | exact Bool.noConfusion c43 | (
                                        try simp only [dD] at c43
                                        refine AWP.seqk fun K82 hK82 => ?_
                                        refine AWP.region ?_
                                        simp only [go_sem] -- region 16
                                        repeat' (first | (refine AGet.haveM (by assumption) ?_; (try simp only [go_sem])) | (refine AGet.have' (by assumption) ?_; (try simp only [go_sem])) | ((first | refine AGet.nth ?_ (fun b hb => ?_) | refine AGet.nth1 ?_ (fun b hb => ?_) | with_reducible refine And.intro ?_ ?_); (focus ((first | omega | exact List.length_pos_iff.2 (by assumption) | (simp only [List.length_append, List.length_cons, List.length_nil, List.length_map, List.length_take, List.length_drop] at *; omega) | (rw [wrap64_id (by omega) (by omega)]; omega) | (simp; done)))); (try simp only [hb, go_sem])))
                                        refine hK82 _ ?_; clear hK82 K82
                                        refine AWP.ret ?_
                                        try simp only [go_sem]
                                        clear hK5 K5
                                        exact ⟨[], .v _, rfl, rfl, by simp_all [execB], rfl⟩)
                                    · first | exact Bool.noConfusion c43 | (
                                        try simp only [dD] at c43
                                        refine AWP.skip ?_
                                        refine hK5 _ ?_; clear hK5 K5
                                        refine AWP.seqk fun K83 hK83 => ?_
                                        refine AWP.region ?_
                                        simp only [go_sem] -- region 17
                                        repeat' (first | (refine ACall.one (msmall_c _) (by kernel_rfl) rfl ?_; simp only [go_sem]) | (refine ACall.one (mwhen_c _) (by kernel_rfl) rfl ?_; simp only [go_sem]) | (refine AGuard.splitN (fun h => ?_) (fun h => ?_) <;> simp only [h, go_sem] <;> try simp only [dD] at h) | (refine AGuard.split (fun h => ?_) (fun h => ?_) <;> simp only [h, go_sem] <;> try simp only [dD] at h) | (refine AGet.haveM (by assumption) ?_; (try simp only [go_sem])) | (refine AGet.have' (by assumption) ?_; (try simp only [go_sem])) | ((first | refine AGet.nth ?_ (fun b hb => ?_) | refine AGet.nth1 ?_ (fun b hb => ?_) | with_reducible refine And.intro ?_ ?_); (focus ((first | omega | exact List.length_pos_iff.2 (by assumption) | (simp only [List.length_append, List.length_cons, List.length_nil, List.length_map, List.length_take, List.length_drop] at *; omega) | (rw [wrap64_id (by omega) (by omega)]; omega) | (simp; done)))); (try simp only [hb, go_sem])))
                                        all_goals (
                                          refine hK83 _ ?_; clear hK83 K83
                                          refine AWP.ret ?_
                                          try simp only [go_sem]
                                          exact ⟨[], .v _, rfl, rfl, by simp_all [execB], rfl⟩)))
                                · first | exact Bool.noConfusion c35 | (
                                    try simp only [dD] at c35
                                    refine AWP.seqk fun K84 hK84 => ?_
                                    refine AWP.region ?_
                                    simp only [go_sem] -- region 4
                                    repeat' (first | (refine AGet.haveM (by assumption) ?_; (try simp only [go_sem])) | (refine AGet.have' (by assumption) ?_; (try simp only [go_sem])) | ((first | refine AGet.nth ?_ (fun b hb => ?_) | refine AGet.nth1 ?_ (fun b hb => ?_) | with_reducible refine And.intro ?_ ?_); (focus ((first | omega | exact List.length_pos_iff.2 (by assumption) | (simp only [List.length_append, List.length_cons, List.length_nil, List.length_map, List.length_take, List.length_drop] at *; omega) | (rw [wrap64_id (by omega) (by omega)]; omega) | (simp; done)))); (try simp only [hb, go_sem])))
                                    refine hK84 _ ?_; clear hK84 K84
                                    refine AWP.ret ?_
                                    try simp only [go_sem]
                                    clear hK5 K5
                                    exact ⟨[], .v _, rfl, rfl, by simp_all [execB], rfl⟩))
                            · first | exact Bool.noConfusion c35 | (
                                try simp only [dD] at c35
                                refine AWP.seqk fun K85 hK85 => ?_
                                refine AWP.region ?_
                                simp only [go_sem] -- region 13
                                repeat' (first | (refine AGet.haveM (by assumption) ?_; (try simp only [go_sem])) | (refine AGet.have' (by assumption) ?_; (try simp only [go_sem])) | ((first | refine AGet.nth ?_ (fun b hb => ?_) | refine AGet.nth1 ?_ (fun b hb => ?_) | with_reducible refine And.intro ?_ ?_); (focus ((first | omega | exact List.length_pos_iff.2 (by assumption) | (simp only [List.length_append, List.length_cons, List.length_nil, List.length_map, List.length_take, List.length_drop] at *; omega) | (rw [wrap64_id (by omega) (by omega)]; omega) | (simp; done)))); (try simp only [hb, go_sem])))
                                refine hK85 _ ?_; clear hK85 K85
                                refine AWP.cond rfl (fun c35 => ?_) (fun c35 => ?_)
                                · first | exact Bool.noConfusion c35 | (
                                    try simp only [dD] at c35
                                    refine AWP.skip ?_
                                    refine hK69 _ ?_; clear hK69 K69
                                    refine AWP.cond rfl (fun c35 => ?_) (fun c35 => ?_)
                                    · first | exact Bool.noConfusion c35 | (
                                        try simp only [dD] at c35
                                        refine AWP.seqk fun K86 hK86 => ?_
                                        refine AWP.region ?_
                                        simp only [go_sem] -- region 15
                                        repeat' (first | (refine AGet.haveM (by assumption) ?_; (try simp only [go_sem])) | (refine AGet.have' (by assumption) ?_; (try simp only [go_sem])) | ((first | refine AGet.nth ?_ (fun b hb => ?_) | refine AGet.nth1 ?_ (fun b hb => ?_) | with_reducible refine And.intro ?_ ?_); (focus ((first | omega | exact List.length_pos_iff.2 (by assumption) | (simp only [List.length_append, List.length_cons, List.length_nil, List.length_map, List.length_take, List.length_drop] at *; omega) | (rw [wrap64_id (by omega) (by omega)]; omega) | (simp; done)))); (try simp only [hb, go_sem])))
                                        refine hK86 _ ?_; clear hK86 K86
                                        refine AWP.cond rfl (fun c43 => ?_) (fun c43 => ?_)
                                        · first | exact Bool.noConfusion c43 | (
                                            try simp only [dD] at c43
                                            refine AWP.seqk fun K87 hK87 => ?_
                                            refine AWP.region ?_
                                            simp only [go_sem] -- region 16
                                            repeat' (first | (refine AGet.haveM (by assumption) ?_; (try simp only [go_sem])) | (refine AGet.have' (by assumption) ?_; (try simp only [go_sem])) | ((first | refine AGet.nth ?_ (fun b hb => ?_) | refine AGet.nth1 ?_ (fun b hb => ?_) | with_reducible refine And.intro ?_ ?_); (focus ((first | omega | exact List.length_pos_iff.2 (by assumption) | (simp only [List.length_append, List.length_cons, List.length_nil, List.length_map, List.length_take, List.length_drop] at *; omega) | (rw [wrap64_id (by omega) (by omega)]; omega) | (simp; done)))); (try simp only [hb, go_sem])))
                                            refine hK87 _ ?_; clear hK87 K87
                                            refine AWP.ret ?_
                                            try simp only [go_sem]
                                            clear hK5 K5
                                            exact ⟨[], .v _, rfl, rfl, by simp_all [execB], rfl⟩)
                                        · first | exact Bool.noConfusion c43 | (
                                            try simp only [dD] at c43
                                            refine AWP.skip ?_
                                            refine hK5 _ ?_; clear hK5 K5
                                            refine AWP.seqk fun K88 hK88 => ?_
                                            refine AWP.region ?_
                                            simp only [go_sem] -- region 17
                                            repeat' (first | (refine ACall.one (msmall_c _) (by kernel_rfl) rfl ?_; simp only [go_sem]) | (refine ACall.one (mwhen_c _) (by kernel_rfl) rfl ?_; simp only [go_sem]) | (refine AGuard.splitN (fun h => ?_) (fun h => ?_) <;> simp only [h, go_sem] <;> try simp only [dD] at h) | (refine AGuard.split (fun h => ?_) (fun h => ?_) <;> simp only [h, go_sem] <;> try simp only [dD] at h) | (refine AGet.haveM (by assumption) ?_; (try simp only [go_sem])) | (refine AGet.have' (by assumption) ?_; (try simp only [go_sem])) | ((first | refine AGet.nth ?_ (fun b hb => ?_) | refine AGet.nth1 ?_ (fun b hb => ?_) | with_reducible refine And.intro ?_ ?_); (focus ((first | omega | exact List.length_pos_iff.2 (by assumption) | (simp only [List.length_append, List.length_cons, List.length_nil, List.length_map, List.length_take, List.length_drop] at *; omega) | (rw [wrap64_id (by omega) (by omega)]; omega) | (simp; done)))); (try simp only [hb, go_sem])))
                                            all_goals (
                                              refine hK88 _ ?_; clear hK88 K88
                                              refine AWP.ret ?_
                                              try simp only [go_sem]
                                              exact ⟨[], .v _, rfl, rfl, by simp_all [execB], rfl⟩)))
                                    · first | exact Bool.noConfusion c35 | (
                                        try simp only [dD] at c35
                                        refine AWP.seqk fun K89 hK89 => ?_
                                        refine AWP.region ?_
                                        simp only [go_sem] -- region 4
                                        repeat' (first | (refine AGet.haveM (by assumption) ?_; (try simp only [go_sem])) | (refine AGet.have' (by assumption) ?_; (try simp only [go_sem])) | ((first | refine AGet.nth ?_ (fun b hb => ?_) | refine AGet.nth1 ?_ (fun b hb => ?_) | with_reducible refine And.intro ?_ ?_); (focus ((first | omega | exact List.length_pos_iff.2 (by assumption) | (simp only [List.length_append, List.length_cons, List.length_nil, List.length_map, List.length_take, List.length_drop] at *; omega) | (rw [wrap64_id (by omega) (by omega)]; omega) | (simp; done)))); (try simp only [hb, go_sem])))
                                        refine hK89 _ ?_; clear hK89 K89
                                        refine AWP.ret ?_
                                        try simp only [go_sem]
                                        clear hK5 K5
                                        exact ⟨[], .v _, rfl, rfl, by simp_all [execB], rfl⟩))
                                · first | exact Bool.noConfusion c35 | (
                                    try simp only [dD] at c35
                                    refine AWP.region ?_
                                    simp only [go_sem] -- region 14
                                    repeat' (first | (refine AGet.haveM (by assumption) ?_; (try simp only [go_sem])) | (refine AGet.have' (by assumption) ?_; (try simp only [go_sem])) | ((first | refine AGet.nth ?_ (fun b hb => ?_) | refine AGet.nth1 ?_ (fun b hb => ?_) | with_reducible refine And.intro ?_ ?_); (focus ((first | omega | exact List.length_pos_iff.2 (by assumption) | (simp only [List.length_append, List.length_cons, List.length_nil, List.length_map, List.length_take, List.length_drop] at *; omega) | (rw [wrap64_id (by omega) (by omega)]; omega) | (simp; done)))); (try simp only [hb, go_sem])))
                                    refine hK69 _ ?_; clear hK69 K69
                                    refine AWP.cond rfl (fun c35 => ?_) (fun c35 => ?_)
                                    · first | exact Bool.noConfusion c35 | (
                                        try simp only [dD] at c35
                                        refine AWP.seqk fun K90 hK90 => ?_
                                        refine AWP.region ?_
                                        simp only [go_sem] -- region 15
                                        repeat' (first | (refine AGet.haveM (by assumption) ?_; (try simp only [go_sem])) | (refine AGet.have' (by assumption) ?_; (try simp only [go_sem])) | ((first | refine AGet.nth ?_ (fun b hb => ?_) | refine AGet.nth1 ?_ (fun b hb => ?_) | with_reducible refine And.intro ?_ ?_); (focus ((first | omega | exact List.length_pos_iff.2 (by assumption) | (simp only [List.length_append, List.length_cons, List.length_nil, List.length_map, List.length_take, List.length_drop] at *; omega) | (rw [wrap64_id (by omega) (by omega)]; omega) | (simp; done)))); (try simp only [hb, go_sem])))
                                        refine hK90 _ ?_; clear hK90 K90
                                        refine AWP.cond rfl (fun c43 => ?_) (fun c43 => ?_)
                                        · first | exact Bool.noConfusion c43 | (
                                            try simp only [dD] at c43
                                            refine AWP.seqk fun K91 hK91 => ?_
                                            refine AWP.region ?_
                                            simp only [go_sem] -- region 16
                                            repeat' (first | (refine AGet.haveM (by assumption) ?_; (try simp only [go_sem])) | (refine AGet.have' (by assumption) ?_; (try simp only [go_sem])) | ((first | refine AGet.nth ?_ (fun b hb => ?_) | refine AGet.nth1 ?_ (fun b hb => ?_) | with_reducible refine And.intro ?_ ?_); (focus ((first | omega | exact List.length_pos_iff.2 (by assumption) | (simp only [List.length_append, List.length_cons, List.length_nil, List.length_map, List.length_take, List.length_drop] at *; omega) | (rw [wrap64_id (by omega) (by omega)]; omega) | (simp; done)))); (try simp only [hb, go_sem])))
                                            refine hK91 _ ?_; clear hK91 K91
                                            refine AWP.ret ?_
                                            try simp only [go_sem]
                                            clear hK5 K5
                                            exact ⟨[], .v _, rfl, rfl, by simp_all [execB], rfl⟩)
                                        · first | exact Bool.noConfusion c43 | (
                                            try simp only [dD] at c43
                                            refine AWP.skip ?_
                                            refine hK5 _ ?_; clear hK5 K5
                                            refine AWP.seqk fun K92 hK92 => ?_
                                            refine AWP.region ?_
                                            simp only [go_sem] -- region 17
                                            repeat' (first | (refine ACall.one (msmall_c _) (by kernel_rfl) rfl ?_; simp only [go_sem]) | (refine ACall.one (mwhen_c _) (by kernel_rfl) rfl ?_; simp only [go_sem]) | (refine AGuard.splitN (fun h => ?_) (fun h => ?_) <;> simp only [h, go_sem] <;> try simp only [dD] at h) | (refine AGuard.split (fun h => ?_) (fun h => ?_) <;> simp only [h, go_sem] <;> try simp only [dD] at h) | (refine AGet.haveM (by assumption) ?_; (try simp only [go_sem])) | (refine AGet.have' (by assumption) ?_; (try simp only [go_sem])) | ((first | refine AGet.nth ?_ (fun b hb => ?_) | refine AGet.nth1 ?_ (fun b hb => ?_) | with_reducible refine And.intro ?_ ?_); (focus ((first | omega | exact List.length_pos_iff.2 (by assumption) | (simp only [List.length_append, List.length_cons, List.length_nil, List.length_map, List.length_take, List.length_drop] at *; omega) | (rw [wrap64_id (by omega) (by omega)]; omega) | (simp; done)))); (try simp only [hb, go_sem])))
                                            all_goals (
                                              refine hK92 _ ?_; clear hK92 K92
                                              refine AWP.ret ?_
                                              try simp only [go_sem]
                                              exact ⟨[], .v _, rfl, rfl, by simp_all [execB], rfl⟩)))
                                    · first | exact Bool.noConfusion c35 | (
                                        try simp only [dD] at c35
                                        refine AWP.seqk fun K93 hK93 => ?_
                                        refine AWP.region ?_
                                        simp only [go_sem] -- region 4
                                        repeat' (first | (refine AGet.haveM (by assumption) ?_; (try simp only [go_sem])) | (refine AGet.have' (by assumption) ?_; (try simp only [go_sem])) | ((first | refine AGet.nth ?_ (fun b hb => ?_) | refine AGet.nth1 ?_ (fun b hb => ?_) | with_reducible refine And.intro ?_ ?_); (focus ((first | omega | exact List.length_pos_iff.2 (by assumption) | (simp only [List.length_append, List.length_cons, List.length_nil, List.length_map, List.length_take, List.length_drop] at *; omega) | (rw [wrap64_id (by omega) (by omega)]; omega) | (simp; done)))); (try simp only [hb, go_sem])))
                                        refine hK93 _ ?_; clear hK93 K93
                                        refine AWP.ret ?_
                                        try simp only [go_sem]
                                        clear hK5 K5
                                        exact ⟨[], .v _, rfl, rfl, by simp_all [execB], rfl⟩))))))))))


end Go.Proofs.Ytlhdnenlgceeeaa
