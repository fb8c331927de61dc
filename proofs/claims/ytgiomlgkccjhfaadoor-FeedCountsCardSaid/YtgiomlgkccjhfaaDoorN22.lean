/- slices.Grow of a nil slice of bytes; slices.Concat; contracts of the feed. -/
import Derived.Test.YtgiomlgkccjhfaaDoorN20
import Derived.Shelf.Spec.SlicesGrow
import Derived.Test.YtgiomlgkccjhfaaDoorLd
import Derived.Test.YtgiomlgkccjhfaaDoorPm
set_option linter.unusedVariables false
set_option linter.unusedSimpArgs false
namespace Go.Proofs.YtgiomlgkccjhfaaDoor
open Go Go.Abs Go.RowKit Go.Fld Go.Shelf

def growRen : Go.Shelf.Ren := ⟨fun | 4 => 66 | n => n, fun | 0 => 0 | 3 => 3 | 4 => 4 | 9 => 9 | 20 => 20 | 22 => 25 | 25 => 5 | n => n, fun | n => n⟩
theorem growLays : Go.Proofs.Lays8.n4 Tryd.prog growRen := {
  mixed := by kernel_rfl
  f4 := ⟨Tryd.f66.name, by kernel_rfl, Tryd.func66.trans (congrArg some (by kernel_rfl))⟩
  t0 := Tryd.underlying0
  a0 := Tryd.isAgg0
  z0 := Tryd.sizeOf0
  v0 := Tryd.zeroValue0
  t3 := Tryd.underlying3
  a3 := Tryd.isAgg3
  z3 := Tryd.sizeOf3
  v3 := Tryd.zeroValue3
  t4 := Tryd.underlying4
  a4 := Tryd.isAgg4
  z4 := Tryd.sizeOf4
  v4 := Tryd.zeroValue4
  t9 := Tryd.underlying9
  a9 := Tryd.isAgg9
  z9 := Tryd.sizeOf9
  v9 := Tryd.zeroValue9
  t20 := Tryd.underlying20
  a20 := Tryd.isAgg20
  z20 := Tryd.sizeOf20
  v20 := Tryd.zeroValue20
  t22 := Tryd.underlying25
  a22 := Tryd.isAgg25
  z22 := Tryd.sizeOf25
  v22 := Tryd.zeroValue25 }
theorem ud66s : callable Tryd.prog 66 = true := by kernel_rfl
/-- Room for n bytes: none of them is there yet. -/
theorem grow_c (n : Nat) (hn : n ≤ 1000000) : ACalls E 66 [.nilS, i64 n] (fun r t => r = .sl (some 0) 1 [] ∧ t = [0]) := by
  intro w im vs hok hg him hpw
  obtain ⟨hl, hp⟩ := hpw
  match vs, hl with
  | [v0, v1], _ =>
    have h0 := hp 0 _ v0 rfl rfl
    have h1 := hp 1 _ v1 rfl rfl
    cases h0; cases h1
    by_cases h : n = 0
    · subst h
      refine (Any8.slices_Grow_room growLays none 0 0 0 w (Nat.le_refl _) (by omega) (by omega) (by omega)).mono ?_
      rintro e w' ⟨rfl, rfl⟩
      refine ⟨_, .sl (some 0) 1 [], [⟨none, 0, 0, 1⟩], im, rfl, Below.refl _ _, .refl _, fun _ _ _ => rfl, him, ⟨fun i T b h1 h2 => ?_, fun i j T U b d h1 h2 h3 h4 hij => ?_⟩, .tok rfl (.sl0 1 none 0) rfl (Nat.le_refl _) (fun _ => .inl ⟨rfl, rfl⟩), rfl, rfl⟩
      · cases i with
        | zero => simp only [List.getElem?_cons_zero, Option.some.injEq] at h1; subst h1; simp at h2
        | succ i => simp at h1
      · cases i with
        | zero => simp only [List.getElem?_cons_zero, Option.some.injEq] at h1; subst h1; simp at h3
        | succ i => simp at h1
    · obtain ⟨i0, z, hi0, hz0, hs0, hb0, hzc⟩ : ∃ i0 z, Tryd.prog.info? 5 = some i0 ∧ i0.zero = some z ∧ i0.size = 1 ∧ i0.bytes = 1 ∧ z.cells.size = 1 := by
        obtain ⟨_, _, _, i, zv, h1, h2, h3, h4, h5⟩ := appInfo_ok (P := Tryd.prog) (t := 25) (e := 5) (k := 1) (n := 1) ap25
        exact ⟨i, zv, h1, h2, h3, h4, h5⟩
      refine (Any8.slices_Grow_grow growLays i0 z hi0 hz0 (by omega) none 0 0 n [] w (Nat.le_refl _) (by omega) (by rw [hb0]; omega) (by omega) (by simp) (fun _ => rfl) (fun a ha => by simp at ha)).mono ?_
      rintro e w' ⟨rfl, rfl⟩
      have hG := grownCap_ge w (0 + n) 0 (growRen.t 25)
      have hnone : ∀ o, im w.heap.size o = none := fun o => by
        cases hx : im w.heap.size o with
        | none => rfl
        | some x => exact absurd (World.block_lt_of_cell? w ⟨w.heap.size, o, none⟩ (him _ _ _ hx)) (Nat.lt_irrefl _)
      have hblk : ∀ ob, (w.drew.alloc ob).heap[w.heap.size]? = some ob := fun ob => heap_new w.drew ob
      refine ⟨_, .sl (some 0) 1 [], [⟨some w.heap.size, 0, grownCap w (0 + n) 0 (growRen.t 25), 1⟩], im, rfl, below_drew_alloc w _, .refl _, fun _ _ _ => rfl, fun b o x hx => ?_, ⟨fun i T b h1 h2 => ?_, fun i j T U b d h1 h2 h3 h4 hij => ?_⟩,
        .tok rfl (.sl0 1 _ _) rfl (Nat.le_refl _) (fun _ => .inr ⟨_, rfl, rfl⟩), rfl, rfl⟩
      · have hlt := World.block_lt_of_cell? w ⟨b, o, none⟩ (him b o x hx)
        rw [cell_of_block ((below_drew_alloc w _).block b hlt)]; exact him b o x hx
      · cases i with
        | succ i => simp at h1
        | zero =>
          simp only [List.getElem?_cons_zero, Option.some.injEq] at h1; subst h1
          simp only [Option.some.injEq] at h2; subst h2
          refine ⟨Nat.le_refl _, Nat.zero_le _, fun o _ => hnone o, _, 5, 0, 0, hblk _, .inl rfl, ?_⟩
          show grownCap w (0 + n) 0 (growRen.t 25) * 1 ≤ _
          rw [Array.size_append, Array.size_append, zeroCells_size, zeroCells_size, hzc]
          simp only [List.size_toArray, List.length_nil]
          omega
      · cases i with
        | zero => cases j with
          | zero => exact absurd rfl hij
          | succ j => simp at h2
        | succ i => simp at h1
theorem flat_next {ls : List Bs} {i : Nat} {b : Bs} (h : ls[i]? = some b) : (ls.take (i + 1)).flatten = (ls.take i).flatten ++ b := by rw [take_next h, List.flatten_append]; simp
theorem flat_le {ls : List Bs} (i : Nat) : (ls.take i).flatten.length ≤ ls.flatten.length := by
  conv => rhs; rw [← List.take_append_drop i ls, List.flatten_append, List.length_append]
  omega
theorem flat_all {ls : List Bs} {i : Nat} (h : ¬ (i : Int) < (ls.length : Int)) : (ls.take i).flatten = ls.flatten := by rw [List.take_of_length_le (by omega)]
theorem flat2 {a b : Bs} : [a, b].flatten = a ++ b := by simp
theorem app_bytes {l : List Bs} {x : Bs} : l.map bytesV ++ [AV.sl none 1 (x.map u8)] = (l ++ [x]).map bytesV := by rw [List.map_append]; rfl
theorem app_bytes2 {l m : List Bs} : l.map bytesV ++ m.map bytesV = (l ++ m).map bytesV := by rw [List.map_append]
theorem sameB_no1 {a b : List Bs} (h : ¬ (a.length : Int) = (b.length : Int)) : decide (a = b) = false := decide_eq_false fun e => h (by rw [e])
theorem sameB_no2 {a b : List Bs} {i : Nat} {f g : Bs} (hf : a[i]? = some f) (hg : b[i]? = some g) (h : ¬ f = g) : decide (a = b) = false := decide_eq_false fun e => by
  subst e; rw [hf, Option.some.injEq] at hg; exact h hg
theorem sameB_yes {a b : List Bs} {i : Nat} (h : (a.length : Int) = (b.length : Int)) (hi : ¬ (i : Int) < (a.length : Int)) (h2 : a.take i = b.take i) : decide (a = b) = true := decide_eq_true (by
  rw [List.take_of_length_le (by omega), List.take_of_length_le (by omega)] at h2; exact h2)
theorem sameB_next {a b : List Bs} {i : Nat} {f g : Bs} (hf : a[i]? = some f) (hg : b[i]? = some g) (h : f = g) (h2 : a.take i = b.take i) : a.take (i + 1) = b.take (i + 1) := by
  rw [take_next hf, take_next hg, h2, h]
theorem drop_end {l : Bs} {a : Nat} (h : ¬ (a : Int) < (l.length : Int)) : l.drop a = [] := List.drop_eq_nil_of_le (by omega)
set_option maxHeartbeats 1000000 in
theorem concat_c (ls : List Bs) (hl : ls.flatten.length ≤ 1000000) (hn : ls.length ≤ 1000000) : ACalls E 55 [.sl none 1 (ls.map bytesV)] (fun r t => r = .sl (some 0) 1 (ls.flatten.map u8) ∧ t = [ls.flatten.length]) := by -- slices.Concat[[]byte,byte]
  refine ACalls.of_awp (n := 36) (rs := [.tmp 2]) Tryd.func55 rfl Tryd.ntmps55 rfl ?_
  refine AWP.seqk fun K1 hK1 => ?_
  refine AWP.region ?_
  simp only [go_sem] -- region 0
  repeat' (first | (refine AGet.haveM (by assumption) ?_; (try simp only [go_sem])) | (refine AGet.have' (by assumption) ?_; (try simp only [go_sem])) | ((first | refine AGet.nth ?_ (fun b hb => ?_) | refine AGet.nth1 ?_ (fun b hb => ?_) | with_reducible refine And.intro ?_ ?_); (focus ((first | omega | exact List.length_pos_iff.2 (by assumption) | (simp only [List.length_append, List.length_cons, List.length_nil, List.length_map, List.length_take, List.length_drop] at *; omega) | (rw [wrap64_id (by omega) (by omega)]; omega) | (simp; done)))); (try simp only [hb, go_sem])))
  refine hK1 _ ?_; clear hK1 K1
  refine AWP.seqk fun K2 hK2 => ?_
  refine AWP.region ?_
  simp only [go_sem] -- region 1
  repeat' (first | (refine AGet.haveM (by assumption) ?_; (try simp only [go_sem])) | (refine AGet.have' (by assumption) ?_; (try simp only [go_sem])) | ((first | refine AGet.nth ?_ (fun b hb => ?_) | refine AGet.nth1 ?_ (fun b hb => ?_) | with_reducible refine And.intro ?_ ?_); (focus ((first | omega | exact List.length_pos_iff.2 (by assumption) | (simp only [List.length_append, List.length_cons, List.length_nil, List.length_map, List.length_take, List.length_drop] at *; omega) | (rw [wrap64_id (by omega) (by omega)]; omega) | (simp; done)))); (try simp only [hb, go_sem])))
  refine hK2 _ ?_; clear hK2 K2
  refine AWP.seqk fun K3 hK3 => ?_
  refine AWP.seqk fun K4 hK4 => ?_
  refine AWP.region ?_
  simp only [go_sem] -- region 2
  repeat' (first | (refine AGet.haveM (by assumption) ?_; (try simp only [go_sem])) | (refine AGet.have' (by assumption) ?_; (try simp only [go_sem])) | ((first | refine AGet.nth ?_ (fun b hb => ?_) | refine AGet.nth1 ?_ (fun b hb => ?_) | with_reducible refine And.intro ?_ ?_); (focus ((first | omega | exact List.length_pos_iff.2 (by assumption) | (simp only [List.length_append, List.length_cons, List.length_nil, List.length_map, List.length_take, List.length_drop] at *; omega) | (rw [wrap64_id (by omega) (by omega)]; omega) | (simp; done)))); (try simp only [hb, go_sem])))
  refine hK4 _ ?_; clear hK4 K4
  refine AWP.block ?_ -- 0
  refine AWP.loopH (ι := Nat) [5, 12, 13, 14, 15, 16, 17, 18, 19, 20, 21, 22] (fun (i : Nat) => [(3, i64 ((ls.take i).flatten.length : Nat)), (11, i64 i)]) (fun (i : Nat) => i ≤ ls.length) (fun (i : Nat) => ls.length - i) (0) ?_ ?_ ?_
  · (try simp only [go_sem]); simp
  · omega
  rintro i h1
  simp only [go_sem]
  refine AWP.seqk fun K5 hK5 => ?_
  refine AWP.region ?_
  simp only [go_sem] -- region 3
  repeat' (first | (refine AGet.haveM (by assumption) ?_; (try simp only [go_sem])) | (refine AGet.have' (by assumption) ?_; (try simp only [go_sem])) | ((first | refine AGet.nth ?_ (fun b hb => ?_) | refine AGet.nth1 ?_ (fun b hb => ?_) | with_reducible refine And.intro ?_ ?_); (focus ((first | omega | exact List.length_pos_iff.2 (by assumption) | (simp only [List.length_append, List.length_cons, List.length_nil, List.length_map, List.length_take, List.length_drop] at *; omega) | (rw [wrap64_id (by omega) (by omega)]; omega) | (simp; done)))); (try simp only [hb, go_sem])))
  refine hK5 _ ?_; clear hK5 K5
  refine AWP.seqk fun K6 hK6 => ?_
  refine AWP.cond rfl (fun c12 => ?_) (fun c12 => ?_)
  · first | exact Bool.noConfusion c12 | (
      try simp only [dD] at c12
      refine AWP.skip ?_
      refine hK6 _ ?_; clear hK6 K6
      refine AWP.seqk fun K7 hK7 => ?_
      refine AWP.block ?_ -- 1
      refine AWP.seqk fun K8 hK8 => ?_
      refine AWP.region ?_
      simp only [go_sem] -- region 4
      repeat' (first | (refine AGet.haveM (by assumption) ?_; (try simp only [go_sem])) | (refine AGet.have' (by assumption) ?_; (try simp only [go_sem])) | ((first | refine AGet.nth ?_ (fun b hb => ?_) | refine AGet.nth1 ?_ (fun b hb => ?_) | with_reducible refine And.intro ?_ ?_); (focus ((first | omega | exact List.length_pos_iff.2 (by assumption) | (simp only [List.length_append, List.length_cons, List.length_nil, List.length_map, List.length_take, List.length_drop] at *; omega) | (rw [wrap64_id (by omega) (by omega)]; omega) | (simp; done)))); (try simp only [hb, go_sem])))
      refine hK8 _ ?_; clear hK8 K8
      refine AWP.seqk fun K9 hK9 => ?_
      have hfn := flat_next hb
      have hfl := flat_le (ls := ls) (i + 1)
      rw [hfn, List.length_append] at hfl
      have hw := wrapA (a := (ls.take i).flatten.length) (b := b.length) (by omega)
      have hneg : decide ((((ls.take i).flatten.length + b.length : Nat) : Int) < 0) = false := decide_eq_false (by omega)
      refine AWP.region ?_
      simp only [go_sem, hw] -- region 5
      repeat' (first | (refine AGet.haveM (by assumption) ?_; (try simp only [go_sem, hw])) | (refine AGet.have' (by assumption) ?_; (try simp only [go_sem, hw])) | ((first | refine AGet.nth ?_ (fun b hb => ?_) | refine AGet.nth1 ?_ (fun b hb => ?_) | with_reducible refine And.intro ?_ ?_); (focus ((first | omega | exact List.length_pos_iff.2 (by assumption) | (simp only [List.length_append, List.length_cons, List.length_nil, List.length_map, List.length_take, List.length_drop] at *; omega) | (rw [wrap64_id (by omega) (by omega)]; omega) | (simp; done)))); (try simp only [hb, go_sem, hw])))
      refine hK9 _ ?_; clear hK9 K9
      refine AWP.seqk fun K10 hK10 => ?_
      refine AWP.region ?_
      simp only [go_sem, hneg] -- region 6
      repeat' (first | (refine AGet.haveM (by assumption) ?_; (try simp only [go_sem, hneg])) | (refine AGet.have' (by assumption) ?_; (try simp only [go_sem, hneg])) | ((first | refine AGet.nth ?_ (fun b hb => ?_) | refine AGet.nth1 ?_ (fun b hb => ?_) | with_reducible refine And.intro ?_ ?_); (focus ((first | omega | exact List.length_pos_iff.2 (by assumption) | (simp only [List.length_append, List.length_cons, List.length_nil, List.length_map, List.length_take, List.length_drop] at *; omega) | (rw [wrap64_id (by omega) (by omega)]; omega) | (simp; done)))); (try simp only [hb, go_sem, hneg])))
      refine hK10 _ ?_; clear hK10 K10
      refine AWP.cond rfl (fun c20 => ?_) (fun c20 => ?_)
      · first | exact Bool.noConfusion c20 | (
          try simp only [dD] at c20
          refine AWP.region ?_
          simp only [go_sem] -- region 7
          repeat' (first | (refine AGet.haveM (by assumption) ?_; (try simp only [go_sem])) | (refine AGet.have' (by assumption) ?_; (try simp only [go_sem])) | ((first | refine AGet.nth ?_ (fun b hb => ?_) | refine AGet.nth1 ?_ (fun b hb => ?_) | with_reducible refine And.intro ?_ ?_); (focus ((first | omega | exact List.length_pos_iff.2 (by assumption) | (simp only [List.length_append, List.length_cons, List.length_nil, List.length_map, List.length_take, List.length_drop] at *; omega) | (rw [wrap64_id (by omega) (by omega)]; omega) | (simp; done)))); (try simp only [hb, go_sem])))
          refine hK7 _ ?_; clear hK7 K7
          refine AWP.region ?_
          simp only [go_sem] -- region 8
          repeat' (first | (refine AGet.haveM (by assumption) ?_; (try simp only [go_sem])) | (refine AGet.have' (by assumption) ?_; (try simp only [go_sem])) | ((first | refine AGet.nth ?_ (fun b hb => ?_) | refine AGet.nth1 ?_ (fun b hb => ?_) | with_reducible refine And.intro ?_ ?_); (focus ((first | omega | exact List.length_pos_iff.2 (by assumption) | (simp only [List.length_append, List.length_cons, List.length_nil, List.length_map, List.length_take, List.length_drop] at *; omega) | (rw [wrap64_id (by omega) (by omega)]; omega) | (simp; done)))); (try simp only [hb, go_sem])))
          clear hK3 K3
          rw [wrap64_id (x := (i : Int) + 1) (by omega) (by omega)]
          refine ⟨i + 1, ?_, ?_, ?_⟩
          · rw [hfn]; simp
          · omega
          · omega)
      · first | exact Bool.noConfusion c20 | (
          try simp only [dD] at c20
          refine AWP.skip ?_
          refine hK7 _ ?_; clear hK7 K7
          refine AWP.region ?_
          simp only [go_sem] -- region 8
          repeat' (first | (refine AGet.haveM (by assumption) ?_; (try simp only [go_sem])) | (refine AGet.have' (by assumption) ?_; (try simp only [go_sem])) | ((first | refine AGet.nth ?_ (fun b hb => ?_) | refine AGet.nth1 ?_ (fun b hb => ?_) | with_reducible refine And.intro ?_ ?_); (focus ((first | omega | exact List.length_pos_iff.2 (by assumption) | (simp only [List.length_append, List.length_cons, List.length_nil, List.length_map, List.length_take, List.length_drop] at *; omega) | (rw [wrap64_id (by omega) (by omega)]; omega) | (simp; done)))); (try simp only [hb, go_sem])))
          clear hK3 K3
          rw [wrap64_id (x := (i : Int) + 1) (by omega) (by omega)]
          refine ⟨i + 1, ?_, ?_, ?_⟩
          · rw [hfn]; simp
          · omega
          · omega))
  · first | exact Bool.noConfusion c12 | (
      try simp only [dD] at c12
      refine AWP.exit ?_
      simp only [go_sem]
      clear hK6 K6
      refine hK3 _ ?_; clear hK3 K3
      refine AWP.seqk fun K11 hK11 => ?_
      rw [flat_all (by assumption)]
      refine AWP.region ?_
      simp only [go_sem] -- region 9
      repeat' (first | (refine ACall.of (grow_c ls.flatten.length (by omega)) (by kernel_rfl) rfl ?_; rintro r t ⟨rfl, rfl⟩ <;> simp only [go_sem]) | (refine AGet.haveM (by assumption) ?_; (try simp only [go_sem])) | (refine AGet.have' (by assumption) ?_; (try simp only [go_sem])) | ((first | refine AGet.nth ?_ (fun b hb => ?_) | refine AGet.nth1 ?_ (fun b hb => ?_) | with_reducible refine And.intro ?_ ?_); (focus ((first | omega | exact List.length_pos_iff.2 (by assumption) | (simp only [List.length_append, List.length_cons, List.length_nil, List.length_map, List.length_take, List.length_drop] at *; omega) | (rw [wrap64_id (by omega) (by omega)]; omega) | (simp; done)))); (try simp only [hb, go_sem])))
      refine hK11 _ ?_; clear hK11 K11
      refine AWP.seqk fun K12 hK12 => ?_
      refine AWP.seqk fun K13 hK13 => ?_
      refine AWP.region ?_
      simp only [go_sem] -- region 10
      repeat' (first | (refine AGet.haveM (by assumption) ?_; (try simp only [go_sem])) | (refine AGet.have' (by assumption) ?_; (try simp only [go_sem])) | ((first | refine AGet.nth ?_ (fun b hb => ?_) | refine AGet.nth1 ?_ (fun b hb => ?_) | with_reducible refine And.intro ?_ ?_); (focus ((first | omega | exact List.length_pos_iff.2 (by assumption) | (simp only [List.length_append, List.length_cons, List.length_nil, List.length_map, List.length_take, List.length_drop] at *; omega) | (rw [wrap64_id (by omega) (by omega)]; omega) | (simp; done)))); (try simp only [hb, go_sem])))
      refine hK13 _ ?_; clear hK13 K13
      refine AWP.block ?_ -- 2
      refine AWP.loopO (ι := Nat) [8, 28, 29, 30, 31, 32, 33, 34] (fun (i : Nat) => [(6, .sl (some 0) 1 ((ls.take i).flatten.map u8)), (27, i64 i)]) (fun (i : Nat) => []) (fun (i : Nat) => [(ls.take i).flatten.length]) (fun (i : Nat) => i ≤ ls.length) (fun (i : Nat) => ls.length - i) (0) ?_ ?_ ?_
      · (try simp only [go_sem]); simp
      · omega
      rintro i h1
      simp only [go_sem]
      refine AWP.seqk fun K14 hK14 => ?_
      refine AWP.region ?_
      simp only [go_sem] -- region 11
      repeat' (first | (refine AGet.haveM (by assumption) ?_; (try simp only [go_sem])) | (refine AGet.have' (by assumption) ?_; (try simp only [go_sem])) | ((first | refine AGet.nth ?_ (fun b hb => ?_) | refine AGet.nth1 ?_ (fun b hb => ?_) | with_reducible refine And.intro ?_ ?_); (focus ((first | omega | exact List.length_pos_iff.2 (by assumption) | (simp only [List.length_append, List.length_cons, List.length_nil, List.length_map, List.length_take, List.length_drop] at *; omega) | (rw [wrap64_id (by omega) (by omega)]; omega) | (simp; done)))); (try simp only [hb, go_sem])))
      refine hK14 _ ?_; clear hK14 K14
      refine AWP.seqk fun K15 hK15 => ?_
      refine AWP.cond rfl (fun c28 => ?_) (fun c28 => ?_)
      · first | exact Bool.noConfusion c28 | (
          try simp only [dD] at c28
          refine AWP.skip ?_
          refine hK15 _ ?_; clear hK15 K15
          refine AWP.seqk fun K16 hK16 => ?_
          refine AWP.block ?_ -- 3
          refine AWP.seqk fun K17 hK17 => ?_
          refine AWP.region ?_
          simp only [go_sem] -- region 12
          repeat' (first | (refine AGet.haveM (by assumption) ?_; (try simp only [go_sem])) | (refine AGet.have' (by assumption) ?_; (try simp only [go_sem])) | ((first | refine AGet.nth ?_ (fun b hb => ?_) | refine AGet.nth1 ?_ (fun b hb => ?_) | with_reducible refine And.intro ?_ ?_); (focus ((first | omega | exact List.length_pos_iff.2 (by assumption) | (simp only [List.length_append, List.length_cons, List.length_nil, List.length_map, List.length_take, List.length_drop] at *; omega) | (rw [wrap64_id (by omega) (by omega)]; omega) | (simp; done)))); (try simp only [hb, go_sem])))
          refine hK17 _ ?_; clear hK17 K17
          have hfl := flat_le (ls := ls) (i + 1)
          rw [flat_next hb, List.length_append] at hfl
          refine AWP.region ?_
          simp only [go_sem] -- region 13
          repeat' (first | (refine AGet.haveM (by assumption) ?_; (try simp only [go_sem])) | (refine AGet.have' (by assumption) ?_; (try simp only [go_sem])) | ((first | refine AGet.nth ?_ (fun b hb => ?_) | refine AGet.nth1 ?_ (fun b hb => ?_) | with_reducible refine And.intro ?_ ?_); (focus ((first | omega | exact List.length_pos_iff.2 (by assumption) | (simp only [List.length_append, List.length_cons, List.length_nil, List.length_map, List.length_take, List.length_drop] at *; omega) | (rw [wrap64_id (by omega) (by omega)]; omega) | (simp; done)))); (try simp only [hb, go_sem])))
          refine hK16 _ ?_; clear hK16 K16
          refine AWP.region ?_
          simp only [go_sem] -- region 14
          repeat' (first | (refine AGet.haveM (by assumption) ?_; (try simp only [go_sem])) | (refine AGet.have' (by assumption) ?_; (try simp only [go_sem])) | ((first | refine AGet.nth ?_ (fun b hb => ?_) | refine AGet.nth1 ?_ (fun b hb => ?_) | with_reducible refine And.intro ?_ ?_); (focus ((first | omega | exact List.length_pos_iff.2 (by assumption) | (simp only [List.length_append, List.length_cons, List.length_nil, List.length_map, List.length_take, List.length_drop] at *; omega) | (rw [wrap64_id (by omega) (by omega)]; omega) | (simp; done)))); (try simp only [hb, go_sem])))
          clear hK12 K12
          have hfn := flat_next hb
          rw [wrap64_id (x := (i : Int) + 1) (by omega) (by omega)]
          refine ⟨i + 1, ?_, ?_, ?_⟩
          · rw [hfn]; simp
          · omega
          · omega)
      · first | exact Bool.noConfusion c28 | (
          try simp only [dD] at c28
          refine AWP.exit ?_
          simp only [go_sem]
          clear hK15 K15
          refine hK12 _ ?_; clear hK12 K12
          refine AWP.seqk fun K18 hK18 => ?_
          rw [flat_all (by assumption)]
          refine AWP.region ?_
          simp only [go_sem] -- region 15
          repeat' (first | (refine AGet.haveM (by assumption) ?_; (try simp only [go_sem])) | (refine AGet.have' (by assumption) ?_; (try simp only [go_sem])) | ((first | refine AGet.nth ?_ (fun b hb => ?_) | refine AGet.nth1 ?_ (fun b hb => ?_) | with_reducible refine And.intro ?_ ?_); (focus ((first | omega | exact List.length_pos_iff.2 (by assumption) | (simp only [List.length_append, List.length_cons, List.length_nil, List.length_map, List.length_take, List.length_drop] at *; omega) | (rw [wrap64_id (by omega) (by omega)]; omega) | (simp; done)))); (try simp only [hb, go_sem])))
          refine hK18 _ ?_; clear hK18 K18
          refine AWP.ret ?_
          try simp only [go_sem]
          exact ⟨[(true, 0)], .sl (some 0) 1 _, rfl, ⟨rfl, rfl, rfl⟩, rfl, rfl⟩))


set_option maxHeartbeats 8000000 in
set_option maxRecDepth 8000 in
theorem in_c (kp pc : Bs) (g1 : kp.length ≤ 1000000) (g2 : pc.length ≤ 1000000) : ACalls E 39 [bytesV kp, bytesV pc] (fun r t => r = .tup [.sl (some 0) 1 ((inB kp pc).1.map u8), .sl (some 1) 1 ((inB kp pc).2.1.map bytesV), i64 (inB kp pc).2.2.1, i64 (inB kp pc).2.2.2] ∧ t = [(inB kp pc).1.length, (inB kp pc).2.1.length]) := by -- checkroll/feed.In
  refine ACalls.of_awp (n := 52) (rs := [.tmp 4, .tmp 5, .tmp 6, .tmp 7]) Tryd.func39 rfl Tryd.ntmps39 rfl ?_
  refine AWP.seqk fun K1 hK1 => ?_
  refine AWP.region ?_
  simp only [go_sem, flat2] -- region 0
  repeat' (first | (refine AGet.haveM (by assumption) ?_; (try simp only [go_sem, flat2])) | (refine AGet.have' (by assumption) ?_; (try simp only [go_sem, flat2])) | ((first | refine AGet.nth ?_ (fun b hb => ?_) | refine AGet.nth1 ?_ (fun b hb => ?_) | with_reducible refine And.intro ?_ ?_); (focus ((first | omega | exact List.length_pos_iff.2 (by assumption) | (simp only [List.length_append, List.length_cons, List.length_nil, List.length_map, List.length_take, List.length_drop] at *; omega) | (rw [wrap64_id (by omega) (by omega)]; omega) | (simp; done)))); (try simp only [hb, go_sem, flat2])))
  refine hK1 _ ?_; clear hK1 K1
  refine AWP.seqk fun K2 hK2 => ?_
  refine AWP.seqk fun K3 hK3 => ?_
  refine AWP.region ?_
  simp only [go_sem, flat2] -- region 1
  repeat' (first | (refine AGuard.splitN (fun h => ?_) (fun h => ?_) <;> simp only [h, go_sem, flat2] <;> try simp only [dD] at h) | (refine AGuard.split (fun h => ?_) (fun h => ?_) <;> simp only [h, go_sem, flat2] <;> try simp only [dD] at h) | (refine AGet.haveM (by assumption) ?_; (try simp only [go_sem, flat2])) | (refine AGet.have' (by assumption) ?_; (try simp only [go_sem, flat2])) | ((first | refine AGet.nth ?_ (fun b hb => ?_) | refine AGet.nth1 ?_ (fun b hb => ?_) | with_reducible refine And.intro ?_ ?_); (focus ((first | omega | exact List.length_pos_iff.2 (by assumption) | (simp only [List.length_append, List.length_cons, List.length_nil, List.length_map, List.length_take, List.length_drop] at *; omega) | (rw [wrap64_id (by omega) (by omega)]; omega) | (simp; done)))); (try simp only [hb, go_sem, flat2])))
  all_goals (
    refine hK3 _ ?_; clear hK3 K3
    refine AWP.cond rfl (fun c21 => ?_) (fun c21 => ?_)
    · first | exact Bool.noConfusion c21 | (
        try simp only [dD] at c21
        refine AWP.seqk fun K4 hK4 => ?_
        refine AWP.region ?_
        simp only [go_sem, flat2] -- region 2
        repeat' (first | (refine ACall.of (bclone_c _ (by omega)) (by kernel_rfl) rfl ?_; rintro r t ⟨rfl, rfl⟩ <;> simp only [go_sem, flat2]) | (refine AGet.haveM (by assumption) ?_; (try simp only [go_sem, flat2])) | (refine AGet.have' (by assumption) ?_; (try simp only [go_sem, flat2])) | ((first | refine AGet.nth ?_ (fun b hb => ?_) | refine AGet.nth1 ?_ (fun b hb => ?_) | with_reducible refine And.intro ?_ ?_); (focus ((first | omega | exact List.length_pos_iff.2 (by assumption) | (simp only [List.length_append, List.length_cons, List.length_nil, List.length_map, List.length_take, List.length_drop] at *; omega) | (rw [wrap64_id (by omega) (by omega)]; omega) | (simp; done)))); (try simp only [hb, go_sem, flat2])))
        refine hK4 _ ?_; clear hK4 K4
        refine AWP.ret ?_
        try simp only [go_sem]
        clear hK2 K2
        first
        | exact ⟨[(true, 0), (false, 1)], .tup [.sl (some 0) 1 _, .sl (some 1) 1 [], .v _, .v _], rfl, ⟨⟨rfl, rfl, rfl⟩, rfl, rfl, rfl, trivial⟩, by rw [inB_long (by omega)]; rfl, by rw [inB_long (by omega)]; rfl⟩
        | (have hd := hf.done hk
           exact ⟨[(true, 4), (true, 2)], .tup [.sl (some 0) 1 _, .sl (some 1) 1 _, .v _, .v _], rfl, ⟨⟨rfl, rfl, rfl⟩, ⟨rfl, rfl, rfl⟩, rfl, rfl, trivial⟩, by rw [inB_ok (by omega), hd], by rw [inB_ok (by omega), hd]; rfl⟩)
        | (exfalso; omega)
        | skip)
    · first | exact Bool.noConfusion c21 | (
        try simp only [dD] at c21
        refine AWP.skip ?_
        refine hK2 _ ?_; clear hK2 K2
        refine AWP.seqk fun K5 hK5 => ?_
        refine AWP.region ?_
        simp only [go_sem, flat2] -- region 3
        repeat' (first | (refine ACall.of (concat_c [kp, pc] (by simp; omega) (by simp)) (by kernel_rfl) rfl ?_; rintro r t ⟨rfl, rfl⟩ <;> simp only [go_sem, flat2]) | (refine AGet.haveM (by assumption) ?_; (try simp only [go_sem, flat2])) | (refine AGet.have' (by assumption) ?_; (try simp only [go_sem, flat2])) | ((first | refine AGet.nth ?_ (fun b hb => ?_) | refine AGet.nth1 ?_ (fun b hb => ?_) | with_reducible refine And.intro ?_ ?_); (focus ((first | omega | exact List.length_pos_iff.2 (by assumption) | (simp only [List.length_append, List.length_cons, List.length_nil, List.length_map, List.length_take, List.length_drop] at *; omega) | (rw [wrap64_id (by omega) (by omega)]; omega) | (simp; done)))); (try simp only [hb, go_sem, flat2])))
        refine hK5 _ ?_; clear hK5 K5
        refine AWP.seqk fun K6 hK6 => ?_
        refine AWP.region ?_
        simp only [go_sem, flat2] -- region 4
        repeat' (first | (refine AGet.haveM (by assumption) ?_; (try simp only [go_sem, flat2])) | (refine AGet.have' (by assumption) ?_; (try simp only [go_sem, flat2])) | ((first | refine AGet.nth ?_ (fun b hb => ?_) | refine AGet.nth1 ?_ (fun b hb => ?_) | with_reducible refine And.intro ?_ ?_); (focus ((first | omega | exact List.length_pos_iff.2 (by assumption) | (simp only [List.length_append, List.length_cons, List.length_nil, List.length_map, List.length_take, List.length_drop] at *; omega) | (rw [wrap64_id (by omega) (by omega)]; omega) | (simp; done)))); (try simp only [hb, go_sem, flat2])))
        refine hK6 _ ?_; clear hK6 K6
        refine AWP.seqk fun K7 hK7 => ?_
        refine AWP.region ?_
        simp only [go_sem, flat2] -- region 5
        repeat' (first | (refine AGet.haveM (by assumption) ?_; (try simp only [go_sem, flat2])) | (refine AGet.have' (by assumption) ?_; (try simp only [go_sem, flat2])) | ((first | refine AGet.nth ?_ (fun b hb => ?_) | refine AGet.nth1 ?_ (fun b hb => ?_) | with_reducible refine And.intro ?_ ?_); (focus ((first | omega | exact List.length_pos_iff.2 (by assumption) | (simp only [List.length_append, List.length_cons, List.length_nil, List.length_map, List.length_take, List.length_drop] at *; omega) | (rw [wrap64_id (by omega) (by omega)]; omega) | (simp; done)))); (try simp only [hb, go_sem, flat2])))
        refine hK7 _ ?_; clear hK7 K7
        refine AWP.seqk fun K8 hK8 => ?_
        refine AWP.block ?_ -- 0
        have hal : (kp ++ pc).length = kp.length + pc.length := List.length_append
        refine AWP.forget 8 rfl ?_
        refine AWP.nilTok 9 1 rfl ?_
        simp only [go_sem]
        refine AWP.loopO (ι := Bs × List Bs × Nat) [11, 12, 13, 28, 29, 30, 31, 32, 33, 34, 35, 36, 37, 38, 39, 40, 41, 42, 43, 44, 45, 46, 47] (fun ⟨rest, bodies, j⟩ => [(8, bytesV rest), (9, .sl (some 2) 1 (bodies.map bytesV)), (10, i64 j)]) (fun ⟨rest, bodies, j⟩ => []) (fun ⟨rest, bodies, j⟩ => [2, (kp ++ pc).length, bodies.length]) (fun ⟨rest, bodies, j⟩ => FS (kp ++ pc) rest bodies j ∧ j + rest.length ≤ (kp ++ pc).length ∧ bodies.length + rest.length ≤ (kp ++ pc).length) (fun ⟨rest, bodies, j⟩ => rest.length) ((kp ++ pc, [], 0)) ?_ ?_ ?_
        · (try simp only [go_sem]); try (simp; done)
        · exact ⟨FS.start _, by simp, by simp⟩
        rintro ⟨rest, bodies, j⟩ ⟨hf, hj, hb⟩
        simp only [go_sem]
        refine AWP.block ?_ -- 1
        refine AWP.seqk fun K9 hK9 => ?_
        refine AWP.region ?_
        simp only [go_sem, flat2] -- region 6
        repeat' (first | (refine ACall.of (mnext_c _ (by omega)) (by kernel_rfl) rfl ?_; rintro r t ⟨rfl, rfl⟩ <;> simp only [go_sem, flat2]) | (refine AGet.haveM (by assumption) ?_; (try simp only [go_sem, flat2])) | (refine AGet.have' (by assumption) ?_; (try simp only [go_sem, flat2])) | ((first | refine AGet.nth ?_ (fun b hb => ?_) | refine AGet.nth1 ?_ (fun b hb => ?_) | with_reducible refine And.intro ?_ ?_); (focus ((first | omega | exact List.length_pos_iff.2 (by assumption) | (simp only [List.length_append, List.length_cons, List.length_nil, List.length_map, List.length_take, List.length_drop] at *; omega) | (rw [wrap64_id (by omega) (by omega)]; omega) | (simp; done)))); (try simp only [hb, go_sem, flat2])))
        refine hK9 _ ?_; clear hK9 K9
        refine AWP.seqk fun K10 hK10 => ?_
        refine AWP.seqk fun K11 hK11 => ?_
        rcases next_cases rest with ⟨hk, hn⟩ | ⟨hk, hn, hj1, hj2⟩ | ⟨s, n, hk, hn, hle, hput, hbl⟩ <;> simp only [hn]
        all_goals (
          refine AWP.region ?_
          simp only [go_sem, flat2] -- region 7
          repeat' (first | (refine AGet.haveM (by assumption) ?_; (try simp only [go_sem, flat2])) | (refine AGet.have' (by assumption) ?_; (try simp only [go_sem, flat2])) | ((first | refine AGet.nth ?_ (fun b hb => ?_) | refine AGet.nth1 ?_ (fun b hb => ?_) | with_reducible refine And.intro ?_ ?_); (focus ((first | omega | exact List.length_pos_iff.2 (by assumption) | (simp only [List.length_append, List.length_cons, List.length_nil, List.length_map, List.length_take, List.length_drop] at *; omega) | (rw [wrap64_id (by omega) (by omega)]; omega) | (simp; done)))); (try simp only [hb, go_sem, flat2])))
          refine hK11 _ ?_; clear hK11 K11
          refine AWP.cond rfl (fun c35 => ?_) (fun c35 => ?_)
          · first | exact Bool.noConfusion c35 | (
              try simp only [dD] at c35
              refine AWP.exit ?_
              simp only [go_sem]
              clear hK10 K10
              refine hK8 _ ?_; clear hK8 K8
              refine AWP.seqk fun K12 hK12 => ?_
              refine AWP.region ?_
              simp only [go_sem, flat2] -- region 12
              repeat' (first | (refine ACall.of (bclone_c _ (by omega)) (by kernel_rfl) rfl ?_; rintro r t ⟨rfl, rfl⟩ <;> simp only [go_sem, flat2]) | (refine AGet.haveM (by assumption) ?_; (try simp only [go_sem, flat2])) | (refine AGet.have' (by assumption) ?_; (try simp only [go_sem, flat2])) | ((first | refine AGet.nth ?_ (fun b hb => ?_) | refine AGet.nth1 ?_ (fun b hb => ?_) | with_reducible refine And.intro ?_ ?_); (focus ((first | omega | exact List.length_pos_iff.2 (by assumption) | (simp only [List.length_append, List.length_cons, List.length_nil, List.length_map, List.length_take, List.length_drop] at *; omega) | (rw [wrap64_id (by omega) (by omega)]; omega) | (simp; done)))); (try simp only [hb, go_sem, flat2])))
              refine hK12 _ ?_; clear hK12 K12
              refine AWP.ret ?_
              try simp only [go_sem]
              first
              | exact ⟨[(true, 0), (false, 1)], .tup [.sl (some 0) 1 _, .sl (some 1) 1 [], .v _, .v _], rfl, ⟨⟨rfl, rfl, rfl⟩, rfl, rfl, rfl, trivial⟩, by rw [inB_long (by omega)]; rfl, by rw [inB_long (by omega)]; rfl⟩
              | (have hd := hf.done hk
                 exact ⟨[(true, 4), (true, 2)], .tup [.sl (some 0) 1 _, .sl (some 1) 1 _, .v _, .v _], rfl, ⟨⟨rfl, rfl, rfl⟩, ⟨rfl, rfl, rfl⟩, rfl, rfl, trivial⟩, by rw [inB_ok (by omega), hd], by rw [inB_ok (by omega), hd]; rfl⟩)
              | (exfalso; omega)
              | skip)
          · first | exact Bool.noConfusion c35 | (
              try simp only [dD] at c35
              refine AWP.skip ?_
              refine hK10 _ ?_; clear hK10 K10
              refine AWP.seqk fun K13 hK13 => ?_
              refine AWP.seqk fun K14 hK14 => ?_
              refine AWP.region ?_
              simp only [go_sem, flat2] -- region 8
              repeat' (first | (refine AGet.haveM (by assumption) ?_; (try simp only [go_sem, flat2])) | (refine AGet.have' (by assumption) ?_; (try simp only [go_sem, flat2])) | ((first | refine AGet.nth ?_ (fun b hb => ?_) | refine AGet.nth1 ?_ (fun b hb => ?_) | with_reducible refine And.intro ?_ ?_); (focus ((first | omega | exact List.length_pos_iff.2 (by assumption) | (simp only [List.length_append, List.length_cons, List.length_nil, List.length_map, List.length_take, List.length_drop] at *; omega) | (rw [wrap64_id (by omega) (by omega)]; omega) | (simp; done)))); (try simp only [hb, go_sem, flat2])))
              refine hK14 _ ?_; clear hK14 K14
              refine AWP.cond rfl (fun c37 => ?_) (fun c37 => ?_)
              · first | exact Bool.noConfusion c37 | (
                  try simp only [dD] at c37
                  refine AWP.region ?_
                  simp only [go_sem, flat2, app_bytes] -- region 9
                  repeat' (first | (refine AGet.haveM (by assumption) ?_; (try simp only [go_sem, flat2, app_bytes])) | (refine AGet.have' (by assumption) ?_; (try simp only [go_sem, flat2, app_bytes])) | ((first | refine AGet.nth ?_ (fun b hb => ?_) | refine AGet.nth1 ?_ (fun b hb => ?_) | with_reducible refine And.intro ?_ ?_); (focus ((first | omega | exact List.length_pos_iff.2 (by assumption) | (simp only [List.length_append, List.length_cons, List.length_nil, List.length_map, List.length_take, List.length_drop] at *; omega) | (rw [wrap64_id (by omega) (by omega)]; omega) | (simp; done)))); (try simp only [hb, go_sem, flat2, app_bytes])))
                  refine hK13 _ ?_; clear hK13 K13
                  refine AWP.region ?_
                  simp only [go_sem, flat2] -- region 11
                  repeat' (first | (refine AGet.haveM (by assumption) ?_; (try simp only [go_sem, flat2])) | (refine AGet.have' (by assumption) ?_; (try simp only [go_sem, flat2])) | ((first | refine AGet.nth ?_ (fun b hb => ?_) | refine AGet.nth1 ?_ (fun b hb => ?_) | with_reducible refine And.intro ?_ ?_); (focus ((first | omega | exact List.length_pos_iff.2 (by assumption) | (simp only [List.length_append, List.length_cons, List.length_nil, List.length_map, List.length_take, List.length_drop] at *; omega) | (rw [wrap64_id (by omega) (by omega)]; omega) | (simp; done)))); (try simp only [hb, go_sem, flat2])))
                  clear hK8 K8
                  first
                  | (refine ⟨(rest.drop (s + n + 7), bodies ++ [(rest.drop s).take n], j), ?_, ⟨hf.frame hk, ?_, ?_⟩, ?_⟩
                     · simp; done
                     · show j + (rest.drop (s + n + 7)).length ≤ _; rw [List.length_drop]; omega
                     · show (bodies ++ [(rest.drop s).take n]).length + (rest.drop (s + n + 7)).length ≤ _; rw [List.length_drop, List.length_append, List.length_cons, List.length_nil]; omega
                     · show (rest.drop (s + n + 7)).length < rest.length; rw [List.length_drop]; omega)
                  | (refine ⟨(rest.drop (junkF rest), bodies, j + junkF rest), ?_, ⟨hf.junk hk, ?_, ?_⟩, ?_⟩
                     · rw [wrapA (a := j) (b := junkF rest) (by omega)]; simp; done
                     · show j + junkF rest + (rest.drop (junkF rest)).length ≤ _; rw [List.length_drop]; omega
                     · show bodies.length + (rest.drop (junkF rest)).length ≤ _; rw [List.length_drop]; omega
                     · show (rest.drop (junkF rest)).length < rest.length; rw [List.length_drop]; omega)
                  | (exfalso; omega))
              · first | exact Bool.noConfusion c37 | (
                  try simp only [dD] at c37
                  refine AWP.region ?_
                  simp only [go_sem, flat2] -- region 10
                  repeat' (first | (refine AGet.haveM (by assumption) ?_; (try simp only [go_sem, flat2])) | (refine AGet.have' (by assumption) ?_; (try simp only [go_sem, flat2])) | ((first | refine AGet.nth ?_ (fun b hb => ?_) | refine AGet.nth1 ?_ (fun b hb => ?_) | with_reducible refine And.intro ?_ ?_); (focus ((first | omega | exact List.length_pos_iff.2 (by assumption) | (simp only [List.length_append, List.length_cons, List.length_nil, List.length_map, List.length_take, List.length_drop] at *; omega) | (rw [wrap64_id (by omega) (by omega)]; omega) | (simp; done)))); (try simp only [hb, go_sem, flat2])))
                  refine hK13 _ ?_; clear hK13 K13
                  refine AWP.region ?_
                  simp only [go_sem, flat2] -- region 11
                  repeat' (first | (refine AGet.haveM (by assumption) ?_; (try simp only [go_sem, flat2])) | (refine AGet.have' (by assumption) ?_; (try simp only [go_sem, flat2])) | ((first | refine AGet.nth ?_ (fun b hb => ?_) | refine AGet.nth1 ?_ (fun b hb => ?_) | with_reducible refine And.intro ?_ ?_); (focus ((first | omega | exact List.length_pos_iff.2 (by assumption) | (simp only [List.length_append, List.length_cons, List.length_nil, List.length_map, List.length_take, List.length_drop] at *; omega) | (rw [wrap64_id (by omega) (by omega)]; omega) | (simp; done)))); (try simp only [hb, go_sem, flat2])))
                  clear hK8 K8
                  first
                  | (refine ⟨(rest.drop (s + n + 7), bodies ++ [(rest.drop s).take n], j), ?_, ⟨hf.frame hk, ?_, ?_⟩, ?_⟩
                     · simp; done
                     · show j + (rest.drop (s + n + 7)).length ≤ _; rw [List.length_drop]; omega
                     · show (bodies ++ [(rest.drop s).take n]).length + (rest.drop (s + n + 7)).length ≤ _; rw [List.length_drop, List.length_append, List.length_cons, List.length_nil]; omega
                     · show (rest.drop (s + n + 7)).length < rest.length; rw [List.length_drop]; omega)
                  | (refine ⟨(rest.drop (junkF rest), bodies, j + junkF rest), ?_, ⟨hf.junk hk, ?_, ?_⟩, ?_⟩
                     · rw [wrapA (a := j) (b := junkF rest) (by omega)]; simp; done
                     · show j + junkF rest + (rest.drop (junkF rest)).length ≤ _; rw [List.length_drop]; omega
                     · show bodies.length + (rest.drop (junkF rest)).length ≤ _; rw [List.length_drop]; omega
                     · show (rest.drop (junkF rest)).length < rest.length; rw [List.length_drop]; omega)
                  | (exfalso; omega))))))


set_option maxHeartbeats 8000000 in
set_option maxRecDepth 8000 in
theorem r4in_c (kp pc : Bs) (g1 : kp.length ≤ 1000000) (g2 : pc.length ≤ 1000000) : ACalls E 40 [bytesV kp, bytesV pc] (fun r t => r = .tup [bytesV (inB kp pc).1, .sl (some 0) 1 ((inB kp pc).2.1.map bytesV), i64 (inB kp pc).2.2.1, i64 (inB kp pc).2.2.2] ∧ t = [(inB kp pc).2.1.length]) := by -- checkroll/checkrollref04.In
  have hal : (kp ++ pc).length = kp.length + pc.length := List.length_append
  refine ACalls.of_awp (n := 62) (rs := [.tmp 4, .tmp 5, .tmp 6, .tmp 7]) Tryd.func40 rfl Tryd.ntmps40 rfl ?_
  refine AWP.seqk fun K1 hK1 => ?_
  refine AWP.region ?_
  simp only [go_sem, List.nil_append] -- region 0
  repeat' (first | (refine AGet.haveM (by assumption) ?_; (try simp only [go_sem, List.nil_append])) | (refine AGet.have' (by assumption) ?_; (try simp only [go_sem, List.nil_append])) | ((first | refine AGet.nth ?_ (fun b hb => ?_) | refine AGet.nth1 ?_ (fun b hb => ?_) | with_reducible refine And.intro ?_ ?_); (focus ((first | omega | exact List.length_pos_iff.2 (by assumption) | (simp only [List.length_append, List.length_cons, List.length_nil, List.length_map, List.length_take, List.length_drop] at *; omega) | (rw [wrap64_id (by omega) (by omega)]; omega) | (simp; done)))); (try simp only [hb, go_sem, List.nil_append])))
  refine hK1 _ ?_; clear hK1 K1
  refine AWP.seqk fun K2 hK2 => ?_
  refine AWP.seqk fun K3 hK3 => ?_
  refine AWP.region ?_
  simp only [go_sem, List.nil_append] -- region 1
  repeat' (first | (refine AGuard.splitN (fun h => ?_) (fun h => ?_) <;> simp only [h, go_sem, List.nil_append] <;> try simp only [dD] at h) | (refine AGuard.split (fun h => ?_) (fun h => ?_) <;> simp only [h, go_sem, List.nil_append] <;> try simp only [dD] at h) | (refine AGet.haveM (by assumption) ?_; (try simp only [go_sem, List.nil_append])) | (refine AGet.have' (by assumption) ?_; (try simp only [go_sem, List.nil_append])) | ((first | refine AGet.nth ?_ (fun b hb => ?_) | refine AGet.nth1 ?_ (fun b hb => ?_) | with_reducible refine And.intro ?_ ?_); (focus ((first | omega | exact List.length_pos_iff.2 (by assumption) | (simp only [List.length_append, List.length_cons, List.length_nil, List.length_map, List.length_take, List.length_drop] at *; omega) | (rw [wrap64_id (by omega) (by omega)]; omega) | (simp; done)))); (try simp only [hb, go_sem, List.nil_append])))
  all_goals (
    refine hK3 _ ?_; clear hK3 K3
    refine AWP.cond rfl (fun c22 => ?_) (fun c22 => ?_)
    · first | exact Bool.noConfusion c22 | (
        try simp only [dD] at c22
        refine AWP.seqk fun K4 hK4 => ?_
        refine AWP.region ?_
        simp only [go_sem, List.nil_append] -- region 2
        repeat' (first | (refine AGet.haveM (by assumption) ?_; (try simp only [go_sem, List.nil_append])) | (refine AGet.have' (by assumption) ?_; (try simp only [go_sem, List.nil_append])) | ((first | refine AGet.nth ?_ (fun b hb => ?_) | refine AGet.nth1 ?_ (fun b hb => ?_) | with_reducible refine And.intro ?_ ?_); (focus ((first | omega | exact List.length_pos_iff.2 (by assumption) | (simp only [List.length_append, List.length_cons, List.length_nil, List.length_map, List.length_take, List.length_drop] at *; omega) | (rw [wrap64_id (by omega) (by omega)]; omega) | (simp; done)))); (try simp only [hb, go_sem, List.nil_append])))
        refine hK4 _ ?_; clear hK4 K4
        refine AWP.ret ?_
        try simp only [go_sem]
        clear hK2 K2
        first
        | exact ⟨[(false, 1)], .tup [.sl none 1 _, .sl (some 0) 1 [], .v _, .v _], rfl, ⟨⟨rfl, rfl⟩, rfl, rfl, rfl, trivial⟩, by rw [inB_long (by omega)]; rfl, by rw [inB_long (by omega)]; rfl⟩
        | (have hd := hf.done hk
           exact ⟨[(true, 1)], .tup [.sl none 1 _, .sl (some 0) 1 _, .v _, .v _], rfl, ⟨⟨rfl, rfl⟩, ⟨rfl, rfl, rfl⟩, rfl, rfl, trivial⟩, by rw [inB_ok (by omega), hd], by rw [inB_ok (by omega), hd]; rfl⟩)
        | (rw [drop_end (by rw [hal]; assumption)] at hf
           have hd := hf.done0
           exact ⟨[(true, 1)], .tup [.sl none 1 [], .sl (some 0) 1 _, .v _, .v _], rfl, ⟨trivial, ⟨rfl, rfl, rfl⟩, rfl, rfl, trivial⟩, by rw [inB_ok (by omega), hd]; rfl, by rw [inB_ok (by omega), hd]; rfl⟩)
        | (exfalso; omega)
        | skip)
    · first | exact Bool.noConfusion c22 | (
        try simp only [dD] at c22
        refine AWP.skip ?_
        refine hK2 _ ?_; clear hK2 K2
        refine AWP.seqk fun K5 hK5 => ?_
        refine AWP.region ?_
        simp only [go_sem, List.nil_append] -- region 3
        repeat' (first | (refine AGet.haveM (by assumption) ?_; (try simp only [go_sem, List.nil_append])) | (refine AGet.have' (by assumption) ?_; (try simp only [go_sem, List.nil_append])) | ((first | refine AGet.nth ?_ (fun b hb => ?_) | refine AGet.nth1 ?_ (fun b hb => ?_) | with_reducible refine And.intro ?_ ?_); (focus ((first | omega | exact List.length_pos_iff.2 (by assumption) | (simp only [List.length_append, List.length_cons, List.length_nil, List.length_map, List.length_take, List.length_drop] at *; omega) | (rw [wrap64_id (by omega) (by omega)]; omega) | (simp; done)))); (try simp only [hb, go_sem, List.nil_append])))
        refine hK5 _ ?_; clear hK5 K5
        refine AWP.seqk fun K6 hK6 => ?_
        refine AWP.region ?_
        simp only [go_sem, List.nil_append] -- region 4
        repeat' (first | (refine AGet.haveM (by assumption) ?_; (try simp only [go_sem, List.nil_append])) | (refine AGet.have' (by assumption) ?_; (try simp only [go_sem, List.nil_append])) | ((first | refine AGet.nth ?_ (fun b hb => ?_) | refine AGet.nth1 ?_ (fun b hb => ?_) | with_reducible refine And.intro ?_ ?_); (focus ((first | omega | exact List.length_pos_iff.2 (by assumption) | (simp only [List.length_append, List.length_cons, List.length_nil, List.length_map, List.length_take, List.length_drop] at *; omega) | (rw [wrap64_id (by omega) (by omega)]; omega) | (simp; done)))); (try simp only [hb, go_sem, List.nil_append])))
        refine hK6 _ ?_; clear hK6 K6
        refine AWP.seqk fun K7 hK7 => ?_
        refine AWP.region ?_
        simp only [go_sem, List.nil_append] -- region 5
        repeat' (first | (refine AGet.haveM (by assumption) ?_; (try simp only [go_sem, List.nil_append])) | (refine AGet.have' (by assumption) ?_; (try simp only [go_sem, List.nil_append])) | ((first | refine AGet.nth ?_ (fun b hb => ?_) | refine AGet.nth1 ?_ (fun b hb => ?_) | with_reducible refine And.intro ?_ ?_); (focus ((first | omega | exact List.length_pos_iff.2 (by assumption) | (simp only [List.length_append, List.length_cons, List.length_nil, List.length_map, List.length_take, List.length_drop] at *; omega) | (rw [wrap64_id (by omega) (by omega)]; omega) | (simp; done)))); (try simp only [hb, go_sem, List.nil_append])))
        refine hK7 _ ?_; clear hK7 K7
        refine AWP.seqk fun K8 hK8 => ?_
        refine AWP.region ?_
        simp only [go_sem, List.nil_append] -- region 6
        repeat' (first | (refine AGet.haveM (by assumption) ?_; (try simp only [go_sem, List.nil_append])) | (refine AGet.have' (by assumption) ?_; (try simp only [go_sem, List.nil_append])) | ((first | refine AGet.nth ?_ (fun b hb => ?_) | refine AGet.nth1 ?_ (fun b hb => ?_) | with_reducible refine And.intro ?_ ?_); (focus ((first | omega | exact List.length_pos_iff.2 (by assumption) | (simp only [List.length_append, List.length_cons, List.length_nil, List.length_map, List.length_take, List.length_drop] at *; omega) | (rw [wrap64_id (by omega) (by omega)]; omega) | (simp; done)))); (try simp only [hb, go_sem, List.nil_append])))
        refine hK8 _ ?_; clear hK8 K8
        refine AWP.seqk fun K9 hK9 => ?_
        refine AWP.block ?_ -- 0
        rw [← hal]
        refine AWP.nilTok 9 1 rfl ?_
        simp only [go_sem]
        refine AWP.loopO (ι := Nat × List Bs × Nat) [4, 5, 6, 7, 12, 13, 14, 29, 30, 31, 32, 33, 34, 35, 36, 37, 38, 39, 40, 41, 42, 43, 44, 45, 46, 47, 48, 49, 50, 51, 52, 53, 54, 55, 56, 57, 58, 59] (fun ⟨a, bodies, j⟩ => [(11, i64 a), (9, .sl (some 1) 1 (bodies.map bytesV)), (10, i64 j)]) (fun ⟨a, bodies, j⟩ => []) (fun ⟨a, bodies, j⟩ => [(kp ++ pc).length, bodies.length]) (fun ⟨a, bodies, j⟩ => a ≤ (kp ++ pc).length ∧ FS (kp ++ pc) ((kp ++ pc).drop a) bodies j ∧ j ≤ a ∧ bodies.length ≤ a) (fun ⟨a, bodies, j⟩ => (kp ++ pc).length - a) ((0, [], 0)) ?_ ?_ ?_
        · (try simp only [go_sem]); try (simp; done)
        · exact ⟨by omega, FS.start _, by omega, by simp⟩
        rintro ⟨a, bodies, j⟩ ⟨ha, hf, hj, hb⟩
        simp only [go_sem]
        refine AWP.seqk fun K10 hK10 => ?_
        refine AWP.seqk fun K11 hK11 => ?_
        refine AWP.region ?_
        simp only [go_sem, List.nil_append] -- region 7
        repeat' (first | (refine AGet.haveM (by assumption) ?_; (try simp only [go_sem, List.nil_append])) | (refine AGet.have' (by assumption) ?_; (try simp only [go_sem, List.nil_append])) | ((first | refine AGet.nth ?_ (fun b hb => ?_) | refine AGet.nth1 ?_ (fun b hb => ?_) | with_reducible refine And.intro ?_ ?_); (focus ((first | omega | exact List.length_pos_iff.2 (by assumption) | (simp only [List.length_append, List.length_cons, List.length_nil, List.length_map, List.length_take, List.length_drop] at *; omega) | (rw [wrap64_id (by omega) (by omega)]; omega) | (simp; done)))); (try simp only [hb, go_sem, List.nil_append])))
        refine hK11 _ ?_; clear hK11 K11
        refine AWP.cond rfl (fun c32 => ?_) (fun c32 => ?_)
        · first | exact Bool.noConfusion c32 | (
            try simp only [dD] at c32
            refine AWP.skip ?_
            refine hK10 _ ?_; clear hK10 K10
            refine AWP.block ?_ -- 1
            refine AWP.seqk fun K12 hK12 => ?_
            refine AWP.region ?_
            simp only [go_sem, List.nil_append] -- region 8
            repeat' (first | (refine ACall.one (r3next_c _ (by rw [List.length_drop]; omega)) (by kernel_rfl) rfl ?_; simp only [go_sem, List.nil_append]) | (refine AGet.haveM (by assumption) ?_; (try simp only [go_sem, List.nil_append])) | (refine AGet.have' (by assumption) ?_; (try simp only [go_sem, List.nil_append])) | ((first | refine AGet.nth ?_ (fun b hb => ?_) | refine AGet.nth1 ?_ (fun b hb => ?_) | with_reducible refine And.intro ?_ ?_); (focus ((first | omega | exact List.length_pos_iff.2 (by assumption) | (simp only [List.length_append, List.length_cons, List.length_nil, List.length_map, List.length_take, List.length_drop] at *; omega) | (rw [wrap64_id (by omega) (by omega)]; omega) | (simp; done)))); (try simp only [hb, go_sem, List.nil_append])))
            refine hK12 _ ?_; clear hK12 K12
            refine AWP.seqk fun K13 hK13 => ?_
            refine AWP.seqk fun K14 hK14 => ?_
            have hdl : ((kp ++ pc).drop a).length = (kp ++ pc).length - a := List.length_drop
            rcases next_cases ((kp ++ pc).drop a) with ⟨hk, hn⟩ | ⟨hk, hn, hj1, hj2⟩ | ⟨s, n, hk, hn, hle, hput, hbl⟩ <;> simp only [hn]
            all_goals (
              refine AWP.region ?_
              simp only [go_sem, List.nil_append] -- region 9
              repeat' (first | (refine AGet.haveM (by assumption) ?_; (try simp only [go_sem, List.nil_append])) | (refine AGet.have' (by assumption) ?_; (try simp only [go_sem, List.nil_append])) | ((first | refine AGet.nth ?_ (fun b hb => ?_) | refine AGet.nth1 ?_ (fun b hb => ?_) | with_reducible refine And.intro ?_ ?_); (focus ((first | omega | exact List.length_pos_iff.2 (by assumption) | (simp only [List.length_append, List.length_cons, List.length_nil, List.length_map, List.length_take, List.length_drop] at *; omega) | (rw [wrap64_id (by omega) (by omega)]; omega) | (simp; done)))); (try simp only [hb, go_sem, List.nil_append])))
              refine hK14 _ ?_; clear hK14 K14
              refine AWP.cond rfl (fun c42 => ?_) (fun c42 => ?_)
              · first | exact Bool.noConfusion c42 | (
                  try simp only [dD] at c42
                  refine AWP.seqk fun K15 hK15 => ?_
                  refine AWP.region ?_
                  simp only [go_sem, List.nil_append] -- region 10
                  repeat' (first | (refine AGet.haveM (by assumption) ?_; (try simp only [go_sem, List.nil_append])) | (refine AGet.have' (by assumption) ?_; (try simp only [go_sem, List.nil_append])) | ((first | refine AGet.nth ?_ (fun b hb => ?_) | refine AGet.nth1 ?_ (fun b hb => ?_) | with_reducible refine And.intro ?_ ?_); (focus ((first | omega | exact List.length_pos_iff.2 (by assumption) | (simp only [List.length_append, List.length_cons, List.length_nil, List.length_map, List.length_take, List.length_drop] at *; omega) | (rw [wrap64_id (by omega) (by omega)]; omega) | (simp; done)))); (try simp only [hb, go_sem, List.nil_append])))
                  refine hK15 _ ?_; clear hK15 K15
                  refine AWP.ret ?_
                  try simp only [go_sem]
                  clear hK13 K13 hK9 K9
                  first
                  | exact ⟨[(false, 1)], .tup [.sl none 1 _, .sl (some 0) 1 [], .v _, .v _], rfl, ⟨⟨rfl, rfl⟩, rfl, rfl, rfl, trivial⟩, by rw [inB_long (by omega)]; rfl, by rw [inB_long (by omega)]; rfl⟩
                  | (have hd := hf.done hk
                     exact ⟨[(true, 1)], .tup [.sl none 1 _, .sl (some 0) 1 _, .v _, .v _], rfl, ⟨⟨rfl, rfl⟩, ⟨rfl, rfl, rfl⟩, rfl, rfl, trivial⟩, by rw [inB_ok (by omega), hd], by rw [inB_ok (by omega), hd]; rfl⟩)
                  | (rw [drop_end (by rw [hal]; assumption)] at hf
                     have hd := hf.done0
                     exact ⟨[(true, 1)], .tup [.sl none 1 [], .sl (some 0) 1 _, .v _, .v _], rfl, ⟨trivial, ⟨rfl, rfl, rfl⟩, rfl, rfl, trivial⟩, by rw [inB_ok (by omega), hd]; rfl, by rw [inB_ok (by omega), hd]; rfl⟩)
                  | (exfalso; omega)
                  | skip)
              · first | exact Bool.noConfusion c42 | (
                  try simp only [dD] at c42
                  refine AWP.skip ?_
                  refine hK13 _ ?_; clear hK13 K13
                  refine AWP.seqk fun K16 hK16 => ?_
                  refine AWP.seqk fun K17 hK17 => ?_
                  refine AWP.region ?_
                  simp only [go_sem, List.nil_append] -- region 11
                  repeat' (first | (refine AGet.haveM (by assumption) ?_; (try simp only [go_sem, List.nil_append])) | (refine AGet.have' (by assumption) ?_; (try simp only [go_sem, List.nil_append])) | ((first | refine AGet.nth ?_ (fun b hb => ?_) | refine AGet.nth1 ?_ (fun b hb => ?_) | with_reducible refine And.intro ?_ ?_); (focus ((first | omega | exact List.length_pos_iff.2 (by assumption) | (simp only [List.length_append, List.length_cons, List.length_nil, List.length_map, List.length_take, List.length_drop] at *; omega) | (rw [wrap64_id (by omega) (by omega)]; omega) | (simp; done)))); (try simp only [hb, go_sem, List.nil_append])))
                  refine hK17 _ ?_; clear hK17 K17
                  refine AWP.cond rfl (fun c49 => ?_) (fun c49 => ?_)
                  · first | exact Bool.noConfusion c49 | (
                      try simp only [dD] at c49
                      refine AWP.region ?_
                      simp only [go_sem, List.nil_append, app_bytes] -- region 12
                      repeat' (first | (refine AGet.haveM (by assumption) ?_; (try simp only [go_sem, List.nil_append, app_bytes])) | (refine AGet.have' (by assumption) ?_; (try simp only [go_sem, List.nil_append, app_bytes])) | ((first | refine AGet.nth ?_ (fun b hb => ?_) | refine AGet.nth1 ?_ (fun b hb => ?_) | with_reducible refine And.intro ?_ ?_); (focus ((first | omega | exact List.length_pos_iff.2 (by assumption) | (simp only [List.length_append, List.length_cons, List.length_nil, List.length_map, List.length_take, List.length_drop] at *; omega) | (rw [wrap64_id (by omega) (by omega)]; omega) | (simp; done)))); (try simp only [hb, go_sem, List.nil_append, app_bytes])))
                      refine hK16 _ ?_; clear hK16 K16
                      refine AWP.region ?_
                      simp only [go_sem, List.nil_append] -- region 14
                      repeat' (first | (refine AGet.haveM (by assumption) ?_; (try simp only [go_sem, List.nil_append])) | (refine AGet.have' (by assumption) ?_; (try simp only [go_sem, List.nil_append])) | ((first | refine AGet.nth ?_ (fun b hb => ?_) | refine AGet.nth1 ?_ (fun b hb => ?_) | with_reducible refine And.intro ?_ ?_); (focus ((first | omega | exact List.length_pos_iff.2 (by assumption) | (simp only [List.length_append, List.length_cons, List.length_nil, List.length_map, List.length_take, List.length_drop] at *; omega) | (rw [wrap64_id (by omega) (by omega)]; omega) | (simp; done)))); (try simp only [hb, go_sem, List.nil_append])))
                      clear hK9 K9
                      first
                      | (refine ⟨(a + (s + n + 7), bodies ++ [(((kp ++ pc).drop a).drop s).take n], j), ?_, ⟨?_, ?_, ?_, ?_⟩, ?_⟩
                         · rw [wrapA (a := a) (b := s + n + 7) (by omega)]; simp; done
                         · show a + (s + n + 7) ≤ _; omega
                         · first | (have := hf.frame hk; rw [List.drop_drop] at this; exact this) | (have := hf.frame hk; rw [List.drop_drop, Nat.add_comm] at this; exact this)
                         · show j ≤ a + (s + n + 7); omega
                         · show (bodies ++ [(((kp ++ pc).drop a).drop s).take n]).length ≤ a + (s + n + 7); rw [List.length_append, List.length_cons, List.length_nil]; omega
                         · show _ - (a + (s + n + 7)) < _ - a; omega)
                      | (refine ⟨(a + junkF ((kp ++ pc).drop a), bodies, j + junkF ((kp ++ pc).drop a)), ?_, ⟨?_, ?_, ?_, ?_⟩, ?_⟩
                         · rw [wrapA (a := a) (b := junkF ((kp ++ pc).drop a)) (by omega), wrapA (a := j) (b := junkF ((kp ++ pc).drop a)) (by omega)]; simp; done
                         · show a + junkF ((kp ++ pc).drop a) ≤ _; omega
                         · first | (have := hf.junk hk; rw [List.drop_drop] at this; exact this) | (have := hf.junk hk; rw [List.drop_drop, Nat.add_comm] at this; exact this)
                         · show j + junkF ((kp ++ pc).drop a) ≤ a + junkF ((kp ++ pc).drop a); omega
                         · show bodies.length ≤ a + junkF ((kp ++ pc).drop a); omega
                         · show _ - (a + junkF ((kp ++ pc).drop a)) < _ - a; omega)
                      | (exfalso; omega))
                  · first | exact Bool.noConfusion c49 | (
                      try simp only [dD] at c49
                      refine AWP.region ?_
                      simp only [go_sem, List.nil_append] -- region 13
                      repeat' (first | (refine AGet.haveM (by assumption) ?_; (try simp only [go_sem, List.nil_append])) | (refine AGet.have' (by assumption) ?_; (try simp only [go_sem, List.nil_append])) | ((first | refine AGet.nth ?_ (fun b hb => ?_) | refine AGet.nth1 ?_ (fun b hb => ?_) | with_reducible refine And.intro ?_ ?_); (focus ((first | omega | exact List.length_pos_iff.2 (by assumption) | (simp only [List.length_append, List.length_cons, List.length_nil, List.length_map, List.length_take, List.length_drop] at *; omega) | (rw [wrap64_id (by omega) (by omega)]; omega) | (simp; done)))); (try simp only [hb, go_sem, List.nil_append])))
                      refine hK16 _ ?_; clear hK16 K16
                      refine AWP.region ?_
                      simp only [go_sem, List.nil_append] -- region 14
                      repeat' (first | (refine AGet.haveM (by assumption) ?_; (try simp only [go_sem, List.nil_append])) | (refine AGet.have' (by assumption) ?_; (try simp only [go_sem, List.nil_append])) | ((first | refine AGet.nth ?_ (fun b hb => ?_) | refine AGet.nth1 ?_ (fun b hb => ?_) | with_reducible refine And.intro ?_ ?_); (focus ((first | omega | exact List.length_pos_iff.2 (by assumption) | (simp only [List.length_append, List.length_cons, List.length_nil, List.length_map, List.length_take, List.length_drop] at *; omega) | (rw [wrap64_id (by omega) (by omega)]; omega) | (simp; done)))); (try simp only [hb, go_sem, List.nil_append])))
                      clear hK9 K9
                      first
                      | (refine ⟨(a + (s + n + 7), bodies ++ [(((kp ++ pc).drop a).drop s).take n], j), ?_, ⟨?_, ?_, ?_, ?_⟩, ?_⟩
                         · rw [wrapA (a := a) (b := s + n + 7) (by omega)]; simp; done
                         · show a + (s + n + 7) ≤ _; omega
                         · first | (have := hf.frame hk; rw [List.drop_drop] at this; exact this) | (have := hf.frame hk; rw [List.drop_drop, Nat.add_comm] at this; exact this)
                         · show j ≤ a + (s + n + 7); omega
                         · show (bodies ++ [(((kp ++ pc).drop a).drop s).take n]).length ≤ a + (s + n + 7); rw [List.length_append, List.length_cons, List.length_nil]; omega
                         · show _ - (a + (s + n + 7)) < _ - a; omega)
                      | (refine ⟨(a + junkF ((kp ++ pc).drop a), bodies, j + junkF ((kp ++ pc).drop a)), ?_, ⟨?_, ?_, ?_, ?_⟩, ?_⟩
                         · rw [wrapA (a := a) (b := junkF ((kp ++ pc).drop a)) (by omega), wrapA (a := j) (b := junkF ((kp ++ pc).drop a)) (by omega)]; simp; done
                         · show a + junkF ((kp ++ pc).drop a) ≤ _; omega
                         · first | (have := hf.junk hk; rw [List.drop_drop] at this; exact this) | (have := hf.junk hk; rw [List.drop_drop, Nat.add_comm] at this; exact this)
                         · show j + junkF ((kp ++ pc).drop a) ≤ a + junkF ((kp ++ pc).drop a); omega
                         · show bodies.length ≤ a + junkF ((kp ++ pc).drop a); omega
                         · show _ - (a + junkF ((kp ++ pc).drop a)) < _ - a; omega)
                      | (exfalso; omega)))))
        · first | exact Bool.noConfusion c32 | (
            try simp only [dD] at c32
            refine AWP.exit ?_
            simp only [go_sem]
            clear hK10 K10
            refine hK9 _ ?_; clear hK9 K9
            refine AWP.seqk fun K18 hK18 => ?_
            refine AWP.region ?_
            simp only [go_sem, List.nil_append] -- region 15
            repeat' (first | (refine AGet.haveM (by assumption) ?_; (try simp only [go_sem, List.nil_append])) | (refine AGet.have' (by assumption) ?_; (try simp only [go_sem, List.nil_append])) | ((first | refine AGet.nth ?_ (fun b hb => ?_) | refine AGet.nth1 ?_ (fun b hb => ?_) | with_reducible refine And.intro ?_ ?_); (focus ((first | omega | exact List.length_pos_iff.2 (by assumption) | (simp only [List.length_append, List.length_cons, List.length_nil, List.length_map, List.length_take, List.length_drop] at *; omega) | (rw [wrap64_id (by omega) (by omega)]; omega) | (simp; done)))); (try simp only [hb, go_sem, List.nil_append])))
            refine hK18 _ ?_; clear hK18 K18
            refine AWP.ret ?_
            try simp only [go_sem]
            first
            | exact ⟨[(false, 1)], .tup [.sl none 1 _, .sl (some 0) 1 [], .v _, .v _], rfl, ⟨⟨rfl, rfl⟩, rfl, rfl, rfl, trivial⟩, by rw [inB_long (by omega)]; rfl, by rw [inB_long (by omega)]; rfl⟩
            | (have hd := hf.done hk
               exact ⟨[(true, 1)], .tup [.sl none 1 _, .sl (some 0) 1 _, .v _, .v _], rfl, ⟨⟨rfl, rfl⟩, ⟨rfl, rfl, rfl⟩, rfl, rfl, trivial⟩, by rw [inB_ok (by omega), hd], by rw [inB_ok (by omega), hd]; rfl⟩)
            | (rw [drop_end (by rw [hal]; assumption)] at hf
               have hd := hf.done0
               exact ⟨[(true, 1)], .tup [.sl none 1 [], .sl (some 0) 1 _, .v _, .v _], rfl, ⟨trivial, ⟨rfl, rfl, rfl⟩, rfl, rfl, trivial⟩, by rw [inB_ok (by omega), hd]; rfl, by rw [inB_ok (by omega), hd]; rfl⟩)
            | (exfalso; omega)
            | skip)))


theorem r4same_c (a b : List Bs) (hl : a.length ≤ 1000000) : ACalls E 41 [.sl none 1 (a.map bytesV), .sl none 1 (b.map bytesV)] (fun r t => r = bl (decide (a = b)) ∧ t = []) := by -- checkroll/checkrollref04.Same
  refine ACalls.of_awp (n := 28) (rs := [.tmp 4]) Tryd.func41 rfl Tryd.ntmps41 rfl ?_
  refine AWP.seqk fun K1 hK1 => ?_
  refine AWP.region ?_
  simp only [go_sem] -- region 0
  repeat' (first | (refine AGet.haveM (by assumption) ?_; (try simp only [go_sem])) | (refine AGet.have' (by assumption) ?_; (try simp only [go_sem])) | ((first | refine AGet.nth ?_ (fun b hb => ?_) | refine AGet.nth1 ?_ (fun b hb => ?_) | with_reducible refine And.intro ?_ ?_); (focus ((first | omega | exact List.length_pos_iff.2 (by assumption) | (simp only [List.length_append, List.length_cons, List.length_nil, List.length_map, List.length_take, List.length_drop] at *; omega) | (rw [wrap64_id (by omega) (by omega)]; omega) | (simp; done)))); (try simp only [hb, go_sem])))
  refine hK1 _ ?_; clear hK1 K1
  refine AWP.seqk fun K2 hK2 => ?_
  refine AWP.seqk fun K3 hK3 => ?_
  refine AWP.region ?_
  simp only [go_sem] -- region 1
  repeat' (first | (refine AGet.haveM (by assumption) ?_; (try simp only [go_sem])) | (refine AGet.have' (by assumption) ?_; (try simp only [go_sem])) | ((first | refine AGet.nth ?_ (fun b hb => ?_) | refine AGet.nth1 ?_ (fun b hb => ?_) | with_reducible refine And.intro ?_ ?_); (focus ((first | omega | exact List.length_pos_iff.2 (by assumption) | (simp only [List.length_append, List.length_cons, List.length_nil, List.length_map, List.length_take, List.length_drop] at *; omega) | (rw [wrap64_id (by omega) (by omega)]; omega) | (simp; done)))); (try simp only [hb, go_sem])))
  refine hK3 _ ?_; clear hK3 K3
  refine AWP.cond rfl (fun c10 => ?_) (fun c10 => ?_)
  · first | exact Bool.noConfusion c10 | (
      try simp only [dD] at c10
      refine AWP.seqk fun K4 hK4 => ?_
      refine AWP.region ?_
      simp only [go_sem] -- region 2
      repeat' (first | (refine AGet.haveM (by assumption) ?_; (try simp only [go_sem])) | (refine AGet.have' (by assumption) ?_; (try simp only [go_sem])) | ((first | refine AGet.nth ?_ (fun b hb => ?_) | refine AGet.nth1 ?_ (fun b hb => ?_) | with_reducible refine And.intro ?_ ?_); (focus ((first | omega | exact List.length_pos_iff.2 (by assumption) | (simp only [List.length_append, List.length_cons, List.length_nil, List.length_map, List.length_take, List.length_drop] at *; omega) | (rw [wrap64_id (by omega) (by omega)]; omega) | (simp; done)))); (try simp only [hb, go_sem])))
      refine hK4 _ ?_; clear hK4 K4
      refine AWP.ret ?_
      try simp only [go_sem]
      clear hK2 K2
      first
      | exact ⟨[], .v _, rfl, rfl, congrArg bl (sameB_no1 c10).symm, rfl⟩
      | exact ⟨[], .v _, rfl, rfl, congrArg bl (sameB_no2 (by assumption) hb c27).symm, rfl⟩
      | exact ⟨[], .v _, rfl, rfl, congrArg bl (sameB_yes c10 (by assumption) h2).symm, rfl⟩
      | skip)
  · first | exact Bool.noConfusion c10 | (
      try simp only [dD] at c10
      refine AWP.skip ?_
      refine hK2 _ ?_; clear hK2 K2
      refine AWP.seqk fun K5 hK5 => ?_
      refine AWP.seqk fun K6 hK6 => ?_
      refine AWP.region ?_
      simp only [go_sem] -- region 3
      repeat' (first | (refine AGet.haveM (by assumption) ?_; (try simp only [go_sem])) | (refine AGet.have' (by assumption) ?_; (try simp only [go_sem])) | ((first | refine AGet.nth ?_ (fun b hb => ?_) | refine AGet.nth1 ?_ (fun b hb => ?_) | with_reducible refine And.intro ?_ ?_); (focus ((first | omega | exact List.length_pos_iff.2 (by assumption) | (simp only [List.length_append, List.length_cons, List.length_nil, List.length_map, List.length_take, List.length_drop] at *; omega) | (rw [wrap64_id (by omega) (by omega)]; omega) | (simp; done)))); (try simp only [hb, go_sem])))
      refine hK6 _ ?_; clear hK6 K6
      refine AWP.block ?_ -- 0
      refine AWP.loopH (ι := Nat) [4, 11, 12, 13, 14, 15, 16, 17, 18, 19, 20, 21, 22, 23, 24, 25, 26, 27] (fun (i : Nat) => [(5, i64 i)]) (fun (i : Nat) => i ≤ a.length ∧ a.take i = b.take i) (fun (i : Nat) => a.length - i) (0) ?_ ?_ ?_
      · (try simp only [go_sem]); try (simp; done)
      · exact ⟨by omega, by simp⟩
      rintro i ⟨h1, h2⟩
      simp only [go_sem]
      refine AWP.seqk fun K7 hK7 => ?_
      refine AWP.seqk fun K8 hK8 => ?_
      refine AWP.region ?_
      simp only [go_sem] -- region 4
      repeat' (first | (refine AGet.haveM (by assumption) ?_; (try simp only [go_sem])) | (refine AGet.have' (by assumption) ?_; (try simp only [go_sem])) | ((first | refine AGet.nth ?_ (fun b hb => ?_) | refine AGet.nth1 ?_ (fun b hb => ?_) | with_reducible refine And.intro ?_ ?_); (focus ((first | omega | exact List.length_pos_iff.2 (by assumption) | (simp only [List.length_append, List.length_cons, List.length_nil, List.length_map, List.length_take, List.length_drop] at *; omega) | (rw [wrap64_id (by omega) (by omega)]; omega) | (simp; done)))); (try simp only [hb, go_sem])))
      refine hK8 _ ?_; clear hK8 K8
      refine AWP.cond rfl (fun c14 => ?_) (fun c14 => ?_)
      · first | exact Bool.noConfusion c14 | (
          try simp only [dD] at c14
          refine AWP.skip ?_
          refine hK7 _ ?_; clear hK7 K7
          refine AWP.seqk fun K9 hK9 => ?_
          refine AWP.block ?_ -- 1
          refine AWP.seqk fun K10 hK10 => ?_
          refine AWP.regionAs [0, 1, 2, 3, 4, 5, 6, 7, 8, 9, 10] [[], [], [0, 1], [0, 1, 2], [0, 1, 2, 3], [], [], [5, 6], [5, 6, 7], [5, 6, 7, 8], [0, 1, 2, 3, 4, 5, 6, 7, 8, 9]] [] (by kernel_rfl) (by kernel_rfl) (by decide) rfl ?_
          simp only [go_sem] -- region 6
          repeat' (first | (refine AGet.haveM (by assumption) ?_; (try simp only [go_sem])) | (refine AGet.have' (by assumption) ?_; (try simp only [go_sem])) | ((first | refine AGet.nth ?_ (fun b hb => ?_) | refine AGet.nth1 ?_ (fun b hb => ?_) | with_reducible refine And.intro ?_ ?_); (focus ((first | omega | exact List.length_pos_iff.2 (by assumption) | (simp only [List.length_append, List.length_cons, List.length_nil, List.length_map, List.length_take, List.length_drop] at *; omega) | (rw [wrap64_id (by omega) (by omega)]; omega) | (simp; done)))); (try simp only [hb, go_sem])))
          refine hK10 _ ?_; clear hK10 K10
          refine AWP.cond rfl (fun c27 => ?_) (fun c27 => ?_)
          · first | exact Bool.noConfusion c27 | (
              try simp only [dD] at c27
              refine AWP.seqk fun K11 hK11 => ?_
              refine AWP.region ?_
              simp only [go_sem] -- region 7
              repeat' (first | (refine AGet.haveM (by assumption) ?_; (try simp only [go_sem])) | (refine AGet.have' (by assumption) ?_; (try simp only [go_sem])) | ((first | refine AGet.nth ?_ (fun b hb => ?_) | refine AGet.nth1 ?_ (fun b hb => ?_) | with_reducible refine And.intro ?_ ?_); (focus ((first | omega | exact List.length_pos_iff.2 (by assumption) | (simp only [List.length_append, List.length_cons, List.length_nil, List.length_map, List.length_take, List.length_drop] at *; omega) | (rw [wrap64_id (by omega) (by omega)]; omega) | (simp; done)))); (try simp only [hb, go_sem])))
              refine hK11 _ ?_; clear hK11 K11
              refine AWP.ret ?_
              try simp only [go_sem]
              clear hK9 K9 hK5 K5
              first
              | exact ⟨[], .v _, rfl, rfl, congrArg bl (sameB_no1 c10).symm, rfl⟩
              | exact ⟨[], .v _, rfl, rfl, congrArg bl (sameB_no2 (by assumption) hb c27).symm, rfl⟩
              | exact ⟨[], .v _, rfl, rfl, congrArg bl (sameB_yes c10 (by assumption) h2).symm, rfl⟩
              | skip)
          · first | exact Bool.noConfusion c27 | (
              try simp only [dD] at c27
              refine AWP.skip ?_
              refine hK9 _ ?_; clear hK9 K9
              refine AWP.region ?_
              simp only [go_sem] -- region 5
              repeat' (first | (refine AGet.haveM (by assumption) ?_; (try simp only [go_sem])) | (refine AGet.have' (by assumption) ?_; (try simp only [go_sem])) | ((first | refine AGet.nth ?_ (fun b hb => ?_) | refine AGet.nth1 ?_ (fun b hb => ?_) | with_reducible refine And.intro ?_ ?_); (focus ((first | omega | exact List.length_pos_iff.2 (by assumption) | (simp only [List.length_append, List.length_cons, List.length_nil, List.length_map, List.length_take, List.length_drop] at *; omega) | (rw [wrap64_id (by omega) (by omega)]; omega) | (simp; done)))); (try simp only [hb, go_sem])))
              clear hK5 K5
              refine ⟨i + 1, ?_, ?_, ?_⟩
              · (try simp only [go_sem]); (try rw [wrap64_id (by omega) (by omega)]); simp
              · exact ⟨by omega, sameB_next (by assumption) hb c27 h2⟩
              · omega))
      · first | exact Bool.noConfusion c14 | (
          try simp only [dD] at c14
          refine AWP.exit ?_
          simp only [go_sem]
          clear hK7 K7
          refine hK5 _ ?_; clear hK5 K5
          refine AWP.seqk fun K12 hK12 => ?_
          refine AWP.region ?_
          simp only [go_sem] -- region 8
          repeat' (first | (refine AGet.haveM (by assumption) ?_; (try simp only [go_sem])) | (refine AGet.have' (by assumption) ?_; (try simp only [go_sem])) | ((first | refine AGet.nth ?_ (fun b hb => ?_) | refine AGet.nth1 ?_ (fun b hb => ?_) | with_reducible refine And.intro ?_ ?_); (focus ((first | omega | exact List.length_pos_iff.2 (by assumption) | (simp only [List.length_append, List.length_cons, List.length_nil, List.length_map, List.length_take, List.length_drop] at *; omega) | (rw [wrap64_id (by omega) (by omega)]; omega) | (simp; done)))); (try simp only [hb, go_sem])))
          refine hK12 _ ?_; clear hK12 K12
          refine AWP.ret ?_
          try simp only [go_sem]
          first
          | exact ⟨[], .v _, rfl, rfl, congrArg bl (sameB_no1 c10).symm, rfl⟩
          | exact ⟨[], .v _, rfl, rfl, congrArg bl (sameB_no2 (by assumption) hb c27).symm, rfl⟩
          | exact ⟨[], .v _, rfl, rfl, congrArg bl (sameB_yes c10 (by assumption) h2).symm, rfl⟩
          | skip))


end Go.Proofs.YtgiomlgkccjhfaaDoor
