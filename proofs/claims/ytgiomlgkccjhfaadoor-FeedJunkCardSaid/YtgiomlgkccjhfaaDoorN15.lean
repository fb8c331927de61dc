/- strconv.AppendInt, walked in its caller's state. -/
import Derived.Test.YtgiomlgkccjhfaaDoorN14
set_option linter.unusedVariables false
set_option linter.unusedSimpArgs false
namespace Go.Proofs.YtgiomlgkccjhfaaDoor
open Go Go.Abs Go.RowKit Go.Fld Go.Shelf

theorem wkT_self {no nt : Nat} : ∀ {l : List AV}, l.all (AV.bel no nt) = true → WkT no nt l l
  | [], _ => trivial
  | x :: l, h => by
    rw [List.all_cons, Bool.and_eq_true] at h
    exact ⟨.inr ⟨rfl, h.1⟩, wkT_self h.2⟩
theorem wkK_self : ∀ {l : List Nat}, WkK l l
  | [] => trivial
  | x :: l => ⟨rfl, wkK_self⟩
theorem wk_dropOwn {s : St} (h : s.tmps.all (AV.bel 0 s.tk.length) = true) (hu : s.up.all (AV.bel 0 s.tk.length) = true) (hr : s.rsv = none) : s.Wk ⟨s.tmps, [], s.tk, s.gl, none, s.up⟩ :=
  ⟨wkT_self h, (by show WkO _ _ s.own []; cases s.own <;> exact True.intro), wkK_self, rfl, rfl, rfl, hu⟩
theorem cl48' : callable Tryd.prog 48 = true := by kernel_rfl
theorem cl64 : callable Tryd.prog 64 = true := by kernel_rfl
theorem cl73 : callable Tryd.prog 73 = true := by kernel_rfl
theorem cl74 : callable Tryd.prog 74 = true := by kernel_rfl
theorem cl75 : callable Tryd.prog 75 = true := by kernel_rfl
theorem tz93 : tzero Tryd.prog 93 = some (List.replicate 24 (.v (.int .u8 0))) := by kernel_rfl
theorem ud93 : Tryd.prog.underlying 93 = some (.array 24 5) := by kernel_rfl
theorem wrapu64 {n : Nat} (h : n ≤ 8000) : IntKind.i64.wrap (n : Int) = n := by rw [IntKind.wrap_i64]; omega
theorem small_c (u : Nat) (hu : u < 100) : ACalls E 74 [i64 u] (fun r t => r = str (Lib.decDigits u) ∧ t = []) :=
  ACalls.of_pure (E := E) (f := 74) (xs := [.int .i64 u]) (S := fun v => v = .string ⟨(Lib.decDigits u).toArray⟩)
    (fun w _ => (Tryd.internal_strconv_small u hu w).mono (by rintro e w' ⟨rfl, rfl⟩; exact ⟨⟨_, rfl, rfl⟩, rfl⟩))
    (by rintro v rfl; exact ⟨_, fun _ => .v _, rfl, rfl⟩)
theorem numDigits_c (u : Nat) (h1 : 1 ≤ u) (h2 : u < 18446744073709551616) : ACalls E 75 [.v (.int .u64 u)] (fun r t => r = i64 (Lib.nDigits u : Nat) ∧ t = []) :=
  ACalls.of_pure (E := E) (f := 75) (xs := [.int .u64 u]) (S := fun v => v = .int .i64 (Lib.nDigits u : Nat))
    (fun w hok => (Tryd.internal_strconv_numDigits u h1 h2 w hok.1).mono (by rintro e w' ⟨rfl, rfl⟩; exact ⟨⟨_, rfl, rfl⟩, rfl⟩))
    (by rintro v rfl; exact ⟨_, fun _ => .v _, rfl, rfl⟩)

set_option maxRecDepth 100000 in
theorem au_call {ops : Array Oper} {l : List Oper} {Q : Exit → St → Prop} {tmps up : List AV} {tk : List Nat} {gl : Nat → Option (List AV)} {t u : Nat} {pre : Bs} {dst : Option Tmp} {x0 x1 x2 : Operand} {tys : Array TypeId} {ty : TypeId} {pos : String} {after : Array Edge}
    (hx0 : St.ev ⟨tmps, [], tk, gl, none, up⟩ x0 = .sl (some t) 1 (pre.map u8)) (hx1 : St.ev ⟨tmps, [], tk, gl, none, up⟩ x1 = .v (.int .u64 u)) (hx2 : St.ev ⟨tmps, [], tk, gl, none, up⟩ x2 = i64 10)
    (hu : u ≤ 8000) (hpre : pre.length ≤ 1000000) (htk : tk[t]? = some pre.length) (hup : (tmps ++ up).all (AV.bel 0 tk.length) = true)
    (h : AWPL E ops l Q (St.put ⟨tmps, [], tk.set t (pre ++ Lib.decDigits u).length, gl, none, up⟩ dst (.sl (some t) 1 ((pre ++ Lib.decDigits u).map u8)))) :
    AWPL E ops (⟨dst, .call ⟨.value (.func 73), #[x0, x1, x2], tys⟩, ty, pos, after, none⟩ :: l) Q ⟨tmps, [], tk, gl, none, up⟩ := by
  have hd4 : (Lib.decDigits u).length ≤ 4 := dec_len (u := u) (k := 4) (by omega) (by decide)
  have hdl := dig_len u
  have hlt : t < tk.length := (List.getElem?_eq_some_iff.1 htk).1
  refine AWPL.call (caps := []) (rs := [.tmp 6]) Tryd.func73 rfl Tryd.ntmps73 rfl (by kernel_rfl) rfl rfl ?_
  show AWP E _ _ ⟨([St.ev ⟨tmps, [], tk, gl, none, up⟩ x0, St.ev ⟨tmps, [], tk, gl, none, up⟩ x1, St.ev ⟨tmps, [], tk, gl, none, up⟩ x2] ++ []) ++ List.replicate (36 - 3) (.v undef), [], tk, gl, none, tmps ++ up⟩
  rw [hx0, hx1, hx2]
  have hK : ∀ tm : List AV, tm[6]? = some (.sl (some t) 1 ((pre ++ Lib.decDigits u).map u8)) → AInPost E.P [.tmp 6] ⟨tmps, [], tk, gl, none, up⟩ (fun s z => AWPL E ops l Q (s.put dst z)) .ret ⟨tm, [], tk.set t (pre ++ Lib.decDigits u).length, gl, none, tmps ++ up⟩ := by
    intro tm h6
    refine ⟨rfl, ?_⟩
    have : St.ev ⟨tm, [], tk.set t (pre ++ Lib.decDigits u).length, gl, none, tmps ++ up⟩ (.tmp 6) = .sl (some t) 1 ((pre ++ Lib.decDigits u).map u8) := by simp [St.ev, List.getD_eq_getElem?_getD, h6]
    show AWPL E ops l Q (St.put _ dst (tupOf [St.ev _ (.tmp 6)]))
    rw [this]
    exact h
  generalize AInPost E.P [.tmp 6] ⟨tmps, [], tk, gl, none, up⟩ (fun s z => AWPL E ops l Q (s.put dst z)) = Q' at hK ⊢
  generalize tmps ++ up = up' at hup hK ⊢
  clear h hx0 hx1 hx2
  simp only [List.length_append] at hK
  refine AWP.seqk fun K1 hK1 => ?_
  refine AWP.region ?_
  simp only [go_sem, tz93, cl74, cl75, wrapu64 hu, htk] -- region 0
  repeat' (first | (refine AGet.haveM (by assumption) ?_; (try simp only [go_sem, tz93, cl74, cl75, wrapu64 hu, htk])) | (refine AGet.have' (by assumption) ?_; (try simp only [go_sem, tz93, cl74, cl75, wrapu64 hu, htk])) | ((first | refine AGet.nth ?_ (fun b hb => ?_) | refine AGet.nth1 ?_ (fun b hb => ?_) | with_reducible refine And.intro ?_ ?_); (focus ((first | omega | exact List.length_pos_iff.2 (by assumption) | (simp only [List.length_append, List.length_cons, List.length_nil, List.length_map, List.length_take, List.length_drop] at *; omega) | (rw [wrap64_id (by omega) (by omega)]; omega) | (simp; done)))); (try simp only [hb, go_sem, tz93, cl74, cl75, wrapu64 hu, htk])))
  refine hK1 _ ?_; clear hK1 K1
  refine AWP.seqk fun K2 hK2 => ?_
  refine AWP.seqk fun K3 hK3 => ?_
  refine AWP.region ?_
  simp only [go_sem, tz93, cl74, cl75, wrapu64 hu, htk] -- region 1
  repeat' (first | (refine AGet.haveM (by assumption) ?_; (try simp only [go_sem, tz93, cl74, cl75, wrapu64 hu, htk])) | (refine AGet.have' (by assumption) ?_; (try simp only [go_sem, tz93, cl74, cl75, wrapu64 hu, htk])) | ((first | refine AGet.nth ?_ (fun b hb => ?_) | refine AGet.nth1 ?_ (fun b hb => ?_) | with_reducible refine And.intro ?_ ?_); (focus ((first | omega | exact List.length_pos_iff.2 (by assumption) | (simp only [List.length_append, List.length_cons, List.length_nil, List.length_map, List.length_take, List.length_drop] at *; omega) | (rw [wrap64_id (by omega) (by omega)]; omega) | (simp; done)))); (try simp only [hb, go_sem, tz93, cl74, cl75, wrapu64 hu, htk])))
  refine hK3 _ ?_; clear hK3 K3
  refine AWP.cond rfl (fun c10 => ?_) (fun c10 => ?_)
  · first | exact Bool.noConfusion c10 | (
      try simp only [dD] at c10
      refine AWP.seqk fun K4 hK4 => ?_
      refine AWP.seqk fun K5 hK5 => ?_
      refine AWP.region ?_
      simp only [go_sem, tz93, cl74, cl75, wrapu64 hu, htk] -- region 2
      repeat' (first | (refine AGet.haveM (by assumption) ?_; (try simp only [go_sem, tz93, cl74, cl75, wrapu64 hu, htk])) | (refine AGet.have' (by assumption) ?_; (try simp only [go_sem, tz93, cl74, cl75, wrapu64 hu, htk])) | ((first | refine AGet.nth ?_ (fun b hb => ?_) | refine AGet.nth1 ?_ (fun b hb => ?_) | with_reducible refine And.intro ?_ ?_); (focus ((first | omega | exact List.length_pos_iff.2 (by assumption) | (simp only [List.length_append, List.length_cons, List.length_nil, List.length_map, List.length_take, List.length_drop] at *; omega) | (rw [wrap64_id (by omega) (by omega)]; omega) | (simp; done)))); (try simp only [hb, go_sem, tz93, cl74, cl75, wrapu64 hu, htk])))
      refine hK5 _ ?_; clear hK5 K5
      refine AWP.cond rfl (fun c12 => ?_) (fun c12 => ?_)
      · first | exact Bool.noConfusion c12 | (
          try simp only [dD] at c12
          refine AWP.seqk fun K6 hK6 => ?_
          refine AWP.region ?_
          simp only [go_sem, tz93, cl74, cl75, wrapu64 hu, htk] -- region 3
          repeat' (first | (refine ACall.one (small_c u (by omega)) (by kernel_rfl) rfl ?_; simp only [go_sem, tz93, cl74, cl75, wrapu64 hu, htk]) | (refine AGet.haveM (by assumption) ?_; (try simp only [go_sem, tz93, cl74, cl75, wrapu64 hu, htk])) | (refine AGet.have' (by assumption) ?_; (try simp only [go_sem, tz93, cl74, cl75, wrapu64 hu, htk])) | ((first | refine AGet.nth ?_ (fun b hb => ?_) | refine AGet.nth1 ?_ (fun b hb => ?_) | with_reducible refine And.intro ?_ ?_); (focus ((first | omega | exact List.length_pos_iff.2 (by assumption) | (simp only [List.length_append, List.length_cons, List.length_nil, List.length_map, List.length_take, List.length_drop] at *; omega) | (rw [wrap64_id (by omega) (by omega)]; omega) | (simp; done)))); (try simp only [hb, go_sem, tz93, cl74, cl75, wrapu64 hu, htk])))
          refine hK6 _ ?_; clear hK6 K6
          refine AWP.ret ?_
          try simp only [go_sem]
          clear hK4 K4 hK2 K2
          exact hK _ (by first | rfl | (rw [List.map_append]; rfl)))
      · first | exact Bool.noConfusion c12 | (
          try simp only [dD] at c12
          refine AWP.skip ?_
          refine hK4 _ ?_; clear hK4 K4
          refine AWP.seqk fun K7 hK7 => ?_
          refine AWP.region ?_
          simp only [go_sem, tz93, cl74, cl75, wrapu64 hu, htk] -- region 4
          repeat' (first | (refine AGet.haveM (by assumption) ?_; (try simp only [go_sem, tz93, cl74, cl75, wrapu64 hu, htk])) | (refine AGet.have' (by assumption) ?_; (try simp only [go_sem, tz93, cl74, cl75, wrapu64 hu, htk])) | ((first | refine AGet.nth ?_ (fun b hb => ?_) | refine AGet.nth1 ?_ (fun b hb => ?_) | with_reducible refine And.intro ?_ ?_); (focus ((first | omega | exact List.length_pos_iff.2 (by assumption) | (simp only [List.length_append, List.length_cons, List.length_nil, List.length_map, List.length_take, List.length_drop] at *; omega) | (rw [wrap64_id (by omega) (by omega)]; omega) | (simp; done)))); (try simp only [hb, go_sem, tz93, cl74, cl75, wrapu64 hu, htk])))
          refine hK7 _ ?_; clear hK7 K7
          refine AWP.seqk fun K8 hK8 => ?_
          refine AWP.region ?_
          simp only [go_sem, tz93, cl74, cl75, wrapu64 hu, htk] -- region 5
          repeat' (first | (refine ACall.one (numDigits_c u (by omega) (by omega)) (by kernel_rfl) rfl ?_; simp only [go_sem, tz93, cl74, cl75, wrapu64 hu, htk]) | (refine AGet.haveM (by assumption) ?_; (try simp only [go_sem, tz93, cl74, cl75, wrapu64 hu, htk])) | (refine AGet.have' (by assumption) ?_; (try simp only [go_sem, tz93, cl74, cl75, wrapu64 hu, htk])) | ((first | refine AGet.nth ?_ (fun b hb => ?_) | refine AGet.nth1 ?_ (fun b hb => ?_) | with_reducible refine And.intro ?_ ?_); (focus ((first | omega | exact List.length_pos_iff.2 (by assumption) | (simp only [List.length_append, List.length_cons, List.length_nil, List.length_map, List.length_take, List.length_drop] at *; omega) | (rw [wrap64_id (by omega) (by omega)]; omega) | (simp; done)))); (try simp only [hb, go_sem, tz93, cl74, cl75, wrapu64 hu, htk])))
          refine hK8 _ ?_; clear hK8 K8
          refine AWP.seqk fun K9 hK9 => ?_
          refine fmt_region (u := u) (nd := Lib.nDigits u) rfl rfl rfl rfl rfl rfl (by omega) (by omega) ?_
          refine hK9 _ ?_; clear hK9 K9
          refine AWP.seqk fun K10 hK10 => ?_
          refine AWP.publish 7 0 (.agg ((Lib.decDigits u).map u8 ++ List.replicate (24 - (Lib.decDigits u).length) (.v (.int .u8 0)))) rfl rfl (fun x hx => by
              simp only [AV.leaves, List.mem_append, List.mem_map, List.mem_replicate] at hx
              rcases hx with ⟨b, _, rfl⟩ | ⟨_, rfl⟩ <;> rfl) ?_
          refine AWP.weaken (wk_dropOwn (by simp [AV.bel, AV.bel2, AV.bel1, hlt]) hup rfl) ?_
          refine AWP.region ?_
          simp only [go_sem]
          have htake : List.take (Lib.nDigits u) ((Lib.decDigits u).map u8 ++ List.replicate (24 - (Lib.decDigits u).length) (AV.v (.int .u8 0))) = (Lib.decDigits u).map u8 := by rw [← hdl]; exact List.take_left' (by simp)
          rw [htake]
          refine ⟨24, 5, ud93, sz5, ?_, ?_, ?_, htk, ?_, ?_, ?_⟩
          · simp only [List.length_append, List.length_map, List.length_replicate]; omega
          · omega
          · intro c hc
            simp only [List.mem_append, List.mem_map, List.mem_replicate] at hc
            rcases hc with ⟨b, _, rfl⟩ | ⟨_, rfl⟩ <;> rfl
          · rw [List.length_map]; omega
          · rw [List.length_map]; omega
          rw [List.length_map]
          refine hK10 _ ?_; clear hK10 K10
          refine AWP.ret ?_
          try simp only [go_sem]
          clear hK2 K2
          exact hK _ (by first | rfl | (rw [List.map_append]; rfl))))
  · first | exact Bool.noConfusion c10 | (
      try simp only [dD] at c10
      refine AWP.skip ?_
      refine hK2 _ ?_; clear hK2 K2
      refine AWP.seqk fun K11 hK11 => ?_
      refine AWP.region ?_
      simp only [go_sem, tz93, cl74, cl75, wrapu64 hu, htk] -- region 8
      repeat' (first | (refine AGet.haveM (by assumption) ?_; (try simp only [go_sem, tz93, cl74, cl75, wrapu64 hu, htk])) | (refine AGet.have' (by assumption) ?_; (try simp only [go_sem, tz93, cl74, cl75, wrapu64 hu, htk])) | ((first | refine AGet.nth ?_ (fun b hb => ?_) | refine AGet.nth1 ?_ (fun b hb => ?_) | with_reducible refine And.intro ?_ ?_); (focus ((first | omega | exact List.length_pos_iff.2 (by assumption) | (simp only [List.length_append, List.length_cons, List.length_nil, List.length_map, List.length_take, List.length_drop] at *; omega) | (rw [wrap64_id (by omega) (by omega)]; omega) | (simp; done)))); (try simp only [hb, go_sem, tz93, cl74, cl75, wrapu64 hu, htk])))
      refine hK11 _ ?_; clear hK11 K11
      refine AWP.seqk fun K12 hK12 => ?_
      refine AWP.region ?_
      simp only [go_sem, tz93, cl74, cl75, wrapu64 hu, htk] -- region 9
      repeat' (first | (refine AGet.haveM (by assumption) ?_; (try simp only [go_sem, tz93, cl74, cl75, wrapu64 hu, htk])) | (refine AGet.have' (by assumption) ?_; (try simp only [go_sem, tz93, cl74, cl75, wrapu64 hu, htk])) | ((first | refine AGet.nth ?_ (fun b hb => ?_) | refine AGet.nth1 ?_ (fun b hb => ?_) | with_reducible refine And.intro ?_ ?_); (focus ((first | omega | exact List.length_pos_iff.2 (by assumption) | (simp only [List.length_append, List.length_cons, List.length_nil, List.length_map, List.length_take, List.length_drop] at *; omega) | (rw [wrap64_id (by omega) (by omega)]; omega) | (simp; done)))); (try simp only [hb, go_sem, tz93, cl74, cl75, wrapu64 hu, htk])))
      refine hK12 _ ?_; clear hK12 K12
      refine AWP.ret ?_
      try simp only [go_sem]
      exact hK _ (by first | rfl | (rw [List.map_append]; rfl)))


set_option maxRecDepth 100000 in
theorem aint_call {ops : Array Oper} {l : List Oper} {Q : Exit → St → Prop} {tmps up : List AV} {tk : List Nat} {gl : Nat → Option (List AV)} {t u : Nat} {pre : Bs} {dst : Option Tmp} {x0 x1 x2 : Operand} {tys : Array TypeId} {ty : TypeId} {pos : String} {after : Array Edge}
    (hx0 : St.ev ⟨tmps, [], tk, gl, none, up⟩ x0 = .sl (some t) 1 (pre.map u8)) (hx1 : St.ev ⟨tmps, [], tk, gl, none, up⟩ x1 = i64 u) (hx2 : St.ev ⟨tmps, [], tk, gl, none, up⟩ x2 = i64 10)
    (hu : u ≤ 8000) (hpre : pre.length ≤ 1000000) (htk : tk[t]? = some pre.length) (hup : (tmps ++ up).all (AV.bel 0 tk.length) = true)
    (h : AWPL E ops l Q (St.put ⟨tmps, [], tk.set t (pre ++ Lib.decDigits u).length, gl, none, up⟩ dst (.sl (some t) 1 ((pre ++ Lib.decDigits u).map u8)))) :
    AWPL E ops (⟨dst, .call ⟨.value (.func 64), #[x0, x1, x2], tys⟩, ty, pos, after, none⟩ :: l) Q ⟨tmps, [], tk, gl, none, up⟩ := by
  have hlt : t < tk.length := (List.getElem?_eq_some_iff.1 htk).1
  have hneg : decide ((u : Int) < 0) = false := decide_eq_false (by omega)
  have hwu : IntKind.u64.wrap (u : Int) = u := by rw [wrap_u64']; omega
  refine AWPL.call (caps := []) (rs := [.tmp 6]) Tryd.func64 rfl Tryd.ntmps64 rfl (by kernel_rfl) rfl rfl ?_
  show AWP E _ _ ⟨([St.ev ⟨tmps, [], tk, gl, none, up⟩ x0, St.ev ⟨tmps, [], tk, gl, none, up⟩ x1, St.ev ⟨tmps, [], tk, gl, none, up⟩ x2] ++ []) ++ List.replicate (21 - 3) (.v undef), [], tk, gl, none, tmps ++ up⟩
  rw [hx0, hx1, hx2]
  have hK : ∀ tm : List AV, tm[6]? = some (.sl (some t) 1 ((pre ++ Lib.decDigits u).map u8)) → AInPost E.P [.tmp 6] ⟨tmps, [], tk, gl, none, up⟩ (fun s z => AWPL E ops l Q (s.put dst z)) .ret ⟨tm, [], tk.set t (pre ++ Lib.decDigits u).length, gl, none, tmps ++ up⟩ := by
    intro tm h6
    refine ⟨rfl, ?_⟩
    have : St.ev ⟨tm, [], tk.set t (pre ++ Lib.decDigits u).length, gl, none, tmps ++ up⟩ (.tmp 6) = .sl (some t) 1 ((pre ++ Lib.decDigits u).map u8) := by simp [St.ev, List.getD_eq_getElem?_getD, h6]
    show AWPL E ops l Q (St.put _ dst (tupOf [St.ev _ (.tmp 6)]))
    rw [this]
    exact h
  generalize AInPost E.P [.tmp 6] ⟨tmps, [], tk, gl, none, up⟩ (fun s z => AWPL E ops l Q (s.put dst z)) = Q' at hK ⊢
  generalize tmps ++ up = up' at hup hK ⊢
  clear h hx0 hx1 hx2
  simp only [List.length_append] at hK
  refine AWP.seqk fun K1 hK1 => ?_
  refine AWP.region ?_
  simp only [go_sem, hneg, hwu] -- region 0
  repeat' (first | (refine AGet.haveM (by assumption) ?_; (try simp only [go_sem, hneg, hwu])) | (refine AGet.have' (by assumption) ?_; (try simp only [go_sem, hneg, hwu])) | ((first | refine AGet.nth ?_ (fun b hb => ?_) | refine AGet.nth1 ?_ (fun b hb => ?_) | with_reducible refine And.intro ?_ ?_); (focus ((first | omega | exact List.length_pos_iff.2 (by assumption) | (simp only [List.length_append, List.length_cons, List.length_nil, List.length_map, List.length_take, List.length_drop] at *; omega) | (rw [wrap64_id (by omega) (by omega)]; omega) | (simp; done)))); (try simp only [hb, go_sem, hneg, hwu])))
  refine hK1 _ ?_; clear hK1 K1
  refine AWP.seqk fun K2 hK2 => ?_
  refine AWP.region ?_
  simp only [go_sem, hneg, hwu] -- region 1
  repeat' (first | (refine AGet.haveM (by assumption) ?_; (try simp only [go_sem, hneg, hwu])) | (refine AGet.have' (by assumption) ?_; (try simp only [go_sem, hneg, hwu])) | ((first | refine AGet.nth ?_ (fun b hb => ?_) | refine AGet.nth1 ?_ (fun b hb => ?_) | with_reducible refine And.intro ?_ ?_); (focus ((first | omega | exact List.length_pos_iff.2 (by assumption) | (simp only [List.length_append, List.length_cons, List.length_nil, List.length_map, List.length_take, List.length_drop] at *; omega) | (rw [wrap64_id (by omega) (by omega)]; omega) | (simp; done)))); (try simp only [hb, go_sem, hneg, hwu])))
  refine hK2 _ ?_; clear hK2 K2
  refine AWP.seqk fun K3 hK3 => ?_
  refine AWP.seqk fun K4 hK4 => ?_
  refine AWP.region ?_
  simp only [go_sem, hneg, hwu] -- region 2
  repeat' (first | (refine AGet.haveM (by assumption) ?_; (try simp only [go_sem, hneg, hwu])) | (refine AGet.have' (by assumption) ?_; (try simp only [go_sem, hneg, hwu])) | ((first | refine AGet.nth ?_ (fun b hb => ?_) | refine AGet.nth1 ?_ (fun b hb => ?_) | with_reducible refine And.intro ?_ ?_); (focus ((first | omega | exact List.length_pos_iff.2 (by assumption) | (simp only [List.length_append, List.length_cons, List.length_nil, List.length_map, List.length_take, List.length_drop] at *; omega) | (rw [wrap64_id (by omega) (by omega)]; omega) | (simp; done)))); (try simp only [hb, go_sem, hneg, hwu])))
  refine hK4 _ ?_; clear hK4 K4
  refine AWP.cond rfl (fun c11 => ?_) (fun c11 => ?_)
  · first | exact Bool.noConfusion c11 | (
      try simp only [dD] at c11
      refine AWP.seqk fun K5 hK5 => ?_
      refine AWP.region ?_
      simp only [go_sem, hneg, hwu] -- region 3
      repeat' (first | (refine AGet.haveM (by assumption) ?_; (try simp only [go_sem, hneg, hwu])) | (refine AGet.have' (by assumption) ?_; (try simp only [go_sem, hneg, hwu])) | ((first | refine AGet.nth ?_ (fun b hb => ?_) | refine AGet.nth1 ?_ (fun b hb => ?_) | with_reducible refine And.intro ?_ ?_); (focus ((first | omega | exact List.length_pos_iff.2 (by assumption) | (simp only [List.length_append, List.length_cons, List.length_nil, List.length_map, List.length_take, List.length_drop] at *; omega) | (rw [wrap64_id (by omega) (by omega)]; omega) | (simp; done)))); (try simp only [hb, go_sem, hneg, hwu])))
      refine hK5 _ ?_; clear hK5 K5
      refine AWP.region ?_
      simp only [go_sem, hneg, hwu] -- region 4
      repeat' (first | (refine AGet.haveM (by assumption) ?_; (try simp only [go_sem, hneg, hwu])) | (refine AGet.have' (by assumption) ?_; (try simp only [go_sem, hneg, hwu])) | ((first | refine AGet.nth ?_ (fun b hb => ?_) | refine AGet.nth1 ?_ (fun b hb => ?_) | with_reducible refine And.intro ?_ ?_); (focus ((first | omega | exact List.length_pos_iff.2 (by assumption) | (simp only [List.length_append, List.length_cons, List.length_nil, List.length_map, List.length_take, List.length_drop] at *; omega) | (rw [wrap64_id (by omega) (by omega)]; omega) | (simp; done)))); (try simp only [hb, go_sem, hneg, hwu])))
      refine hK3 _ ?_; clear hK3 K3
      refine AWP.seqk fun K6 hK6 => ?_
      refine AWP.regionL ?_
      refine AWPL.app (l1 := [_, _, _]) (l2 := _ :: _) ?_
      simp only [go_sem]
      refine au_call (pre := pre) (u := u) rfl rfl rfl hu hpre htk ?_ ?_
      · simp [AV.bel, AV.bel2, AV.bel1, hlt]
        intro x hx; exact List.all_eq_true.1 hup x hx
      refine AWPL.of ?_
      simp only [go_sem]
      refine hK6 _ ?_; clear hK6 K6
      refine AWP.ret ?_
      try simp only [go_sem]
      exact hK _ rfl)
  · first | exact Bool.noConfusion c11 | (
      try simp only [dD] at c11
      refine AWP.skip ?_
      refine hK3 _ ?_; clear hK3 K3
      refine AWP.seqk fun K7 hK7 => ?_
      refine AWP.regionL ?_
      refine AWPL.app (l1 := [_, _, _]) (l2 := _ :: _) ?_
      simp only [go_sem]
      refine au_call (pre := pre) (u := u) rfl rfl rfl hu hpre htk ?_ ?_
      · simp [AV.bel, AV.bel2, AV.bel1, hlt]
        intro x hx; exact List.all_eq_true.1 hup x hx
      refine AWPL.of ?_
      simp only [go_sem]
      refine hK7 _ ?_; clear hK7 K7
      refine AWP.ret ?_
      try simp only [go_sem]
      exact hK _ rfl)


set_option maxRecDepth 100000 in
theorem app_call {ops : Array Oper} {l : List Oper} {Q : Exit → St → Prop} {tmps up : List AV} {tk : List Nat} {gl : Nat → Option (List AV)} {t u : Nat} {pre : Bs} {dst : Option Tmp} {x0 x1 x2 : Operand} {tys : Array TypeId} {ty : TypeId} {pos : String} {after : Array Edge}
    (hx0 : St.ev ⟨tmps, [], tk, gl, none, up⟩ x0 = .sl (some t) 1 (pre.map u8)) (hx1 : St.ev ⟨tmps, [], tk, gl, none, up⟩ x1 = i64 u) (hx2 : St.ev ⟨tmps, [], tk, gl, none, up⟩ x2 = i64 10)
    (hu : u ≤ 8000) (hpre : pre.length ≤ 1000000) (htk : tk[t]? = some pre.length) (hup : (tmps ++ up).all (AV.bel 0 tk.length) = true)
    (h : AWPL E ops l Q (St.put ⟨tmps, [], tk.set t (pre ++ Lib.decDigits u).length, gl, none, up⟩ dst (.sl (some t) 1 ((pre ++ Lib.decDigits u).map u8)))) :
    AWPL E ops (⟨dst, .call ⟨.value (.func 48), #[x0, x1, x2], tys⟩, ty, pos, after, none⟩ :: l) Q ⟨tmps, [], tk, gl, none, up⟩ := by
  have hlt : t < tk.length := (List.getElem?_eq_some_iff.1 htk).1
  have hneg : decide ((u : Int) < 0) = false := decide_eq_false (by omega)
  have hwu : IntKind.u64.wrap (u : Int) = u := by rw [wrap_u64']; omega
  refine AWPL.call (caps := []) (rs := [.tmp 6]) Tryd.func48 rfl Tryd.ntmps48 rfl (by kernel_rfl) rfl rfl ?_
  show AWP E _ _ ⟨([St.ev ⟨tmps, [], tk, gl, none, up⟩ x0, St.ev ⟨tmps, [], tk, gl, none, up⟩ x1, St.ev ⟨tmps, [], tk, gl, none, up⟩ x2] ++ []) ++ List.replicate (11 - 3) (.v undef), [], tk, gl, none, tmps ++ up⟩
  rw [hx0, hx1, hx2]
  have hK : ∀ tm : List AV, tm[6]? = some (.sl (some t) 1 ((pre ++ Lib.decDigits u).map u8)) → AInPost E.P [.tmp 6] ⟨tmps, [], tk, gl, none, up⟩ (fun s z => AWPL E ops l Q (s.put dst z)) .ret ⟨tm, [], tk.set t (pre ++ Lib.decDigits u).length, gl, none, tmps ++ up⟩ := by
    intro tm h6
    refine ⟨rfl, ?_⟩
    have : St.ev ⟨tm, [], tk.set t (pre ++ Lib.decDigits u).length, gl, none, tmps ++ up⟩ (.tmp 6) = .sl (some t) 1 ((pre ++ Lib.decDigits u).map u8) := by simp [St.ev, List.getD_eq_getElem?_getD, h6]
    show AWPL E ops l Q (St.put _ dst (tupOf [St.ev _ (.tmp 6)]))
    rw [this]
    exact h
  generalize AInPost E.P [.tmp 6] ⟨tmps, [], tk, gl, none, up⟩ (fun s z => AWPL E ops l Q (s.put dst z)) = Q' at hK ⊢
  generalize tmps ++ up = up' at hup hK ⊢
  clear h hx0 hx1 hx2
  simp only [List.length_append] at hK
  refine AWP.seqk fun K1 hK1 => ?_
  refine AWP.region ?_
  simp only [go_sem] -- region 0
  repeat' (first | (refine AGet.haveM (by assumption) ?_; (try simp only [go_sem])) | (refine AGet.have' (by assumption) ?_; (try simp only [go_sem])) | ((first | refine AGet.nth ?_ (fun b hb => ?_) | refine AGet.nth1 ?_ (fun b hb => ?_) | with_reducible refine And.intro ?_ ?_); (focus ((first | omega | exact List.length_pos_iff.2 (by assumption) | (simp only [List.length_append, List.length_cons, List.length_nil, List.length_map, List.length_take, List.length_drop] at *; omega) | (rw [wrap64_id (by omega) (by omega)]; omega) | (simp; done)))); (try simp only [hb, go_sem])))
  refine hK1 _ ?_; clear hK1 K1
  refine AWP.seqk fun K2 hK2 => ?_
  refine AWP.regionL ?_
  refine AWPL.app (l1 := [_, _, _]) (l2 := _ :: _) ?_
  simp only [go_sem]
  refine aint_call (pre := pre) (u := u) rfl rfl rfl hu hpre htk ?_ ?_
  · simp [AV.bel, AV.bel2, AV.bel1, hlt]
    intro x hx; exact List.all_eq_true.1 hup x hx
  refine AWPL.of ?_
  simp only [go_sem]
  refine hK2 _ ?_; clear hK2 K2
  refine AWP.ret ?_
  try simp only [go_sem]
  exact hK _ rfl


end Go.Proofs.YtgiomlgkccjhfaaDoor
