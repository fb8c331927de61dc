/- The library's functions, as the walks meet them. -/
import Derived.Test.YtobaignbahnjbaaDoorN2
import Derived.Test.YtobaignbahnjbaaDoorShelf
namespace Go.Proofs.YtobaignbahnjbaaDoor
open Go Go.Abs Go.RowKit Go.Fld Go.Shelf
set_option linter.unusedVariables false
set_option linter.unusedSimpArgs false

theorem sIndex_c (s : Bs) (c : UInt8) : ACalls E 47 [str s, .v (.int .u8 c.toNat)] (fun r t => r = i64 (Lib.indexByte s c) ∧ t = []) :=
  ACalls.of_pure (E := E) (f := 47) (xs := [.string ⟨s.toArray⟩, .int .u8 c.toNat]) (S := fun v => v = .int .i64 (Lib.indexByte s c))
    (fun w _ => (Tryd.strings_IndexByte _ _ w).mono (by rintro e w' ⟨rfl, rfl⟩; exact ⟨⟨_, rfl, by simp⟩, rfl⟩))
    (by rintro v rfl; exact ⟨_, fun _ => .v _, rfl, rfl⟩)

theorem cutPrefix_c (s p : Bs) : ACalls E 61 [str s, str p] (fun r t => r = .tup [str (Lib.trimPrefix s p), bl (Lib.hasPrefix s p)] ∧ t = []) :=
  ACalls.of_pure (E := E) (f := 61) (xs := [.string ⟨s.toArray⟩, .string ⟨p.toArray⟩]) (S := fun v => v = .tuple #[.string ⟨(Lib.trimPrefix s p).toArray⟩, .bool (Lib.hasPrefix s p)])
    (fun w _ => (Tryd.strings_CutPrefix _ _ w).mono (by rintro e w' ⟨rfl, rfl⟩; exact ⟨⟨_, rfl, by simp⟩, rfl⟩))
    (by rintro v rfl; exact ⟨_, fun _ => .tup [_, _] [_, _] rfl (fun i c u h1 h2 => by
      match i with
      | 0 => simp at h1 h2; subst h1; subst h2; exact .v _
      | 1 => simp at h1 h2; subst h1; subst h2; exact .v _
      | i + 2 => simp at h1), rfl, rfl⟩)

theorem tup2 {im : Im} (a b : Value) : VR0 im (.tup [.v a, .v b]) (.tuple #[a, b]) := .tup [_, _] [_, _] rfl (fun i c u h1 h2 => by
      match i with
      | 0 => simp at h1 h2; subst h1; subst h2; exact .v _
      | 1 => simp at h1 h2; subst h1; subst h2; exact .v _
      | i + 2 => simp at h1)
theorem tup3 {im : Im} (a b d : Value) : VR0 im (.tup [.v a, .v b, .v d]) (.tuple #[a, b, d]) := .tup [_, _, _] [_, _, _] rfl (fun i c u h1 h2 => by
      match i with
      | 0 => simp at h1 h2; subst h1; subst h2; exact .v _
      | 1 => simp at h1 h2; subst h1; subst h2; exact .v _
      | 2 => simp at h1 h2; subst h1; subst h2; exact .v _
      | i + 3 => simp at h1)

theorem below_grow (w : World) (k : Nat) (os : Array Obj) : Below w.heap.size w (Sort.grow (w.drewN k) os) :=
  ⟨rfl, rfl, rfl, by simp [Sort.grow, World.drewN], fun i hi => by simp [Sort.grow, World.drewN, Array.getElem?_append_left hi]⟩
theorem below_drewN (w : World) (k : Nat) : Below w.heap.size w (w.drewN k) := ⟨rfl, rfl, rfl, Nat.le_refl _, fun _ _ => rfl⟩

theorem formatInt_c (n : Int) (h0 : -9223372036854775808 ≤ n) (h1 : n ≤ 9223372036854775807) : ACalls E 57 [i64 n, i64 10] (fun r t => r = str (Lib.itoa n) ∧ t = []) :=
  ACalls.of_below (E := E) (f := 57) (xs := [.int .i64 n, .int .i64 10]) (S := fun v => v = .string ⟨(Lib.itoa n).toArray⟩)
    (fun w hok => (Tryd.strconv_FormatInt_10 n h0 h1 w hok.1).mono (by rintro e w' ⟨rfl, k, os, rfl⟩; exact ⟨⟨_, rfl, rfl⟩, below_grow w k os⟩))
    (by rintro v rfl; exact ⟨_, fun _ => .v _, rfl, rfl⟩)

/-- strconv.ParseUint at digits: the number, where it is one of 64 bits; else an error. -/
theorem parseUint_c (s : Bs) (hs : s.length ≤ 281474976710656) (hd : s.all isDig = true) (hne : s ≠ []) :
    ACalls E 62 [str s, i64 10, i64 64] (fun r t => t = [] ∧ ((decVal 0 s < 18446744073709551616 ∧ r = .tup [.v (.int .u64 (decVal 0 s : Nat)), .v .nilIface]) ∨
      (18446744073709551616 ≤ decVal 0 s ∧ ∃ u p q, r = .tup [.v (.int .u64 u), .v (.iface p q)]))) := by
  have key : ∀ (l : Bs) (a : Nat), l.all isDig = true → a < 18446744073709551616 → (decVal a l < 18446744073709551616 ∧ Lib.parseUintM (2 ^ 64 - 1) a l = .ok (decVal a l)) ∨ (18446744073709551616 ≤ decVal a l ∧ Lib.parseUintM (2 ^ 64 - 1) a l = .range) := by
    intro l
    induction l with
    | nil => intro a _ ha; left; rw [decVal_nil]; exact ⟨ha, rfl⟩
    | cons c l ih =>
      intro a hl ha
      simp only [List.all_cons, Bool.and_eq_true, isDig, decide_eq_true_eq] at hl
      rw [decVal_cons, Lib.parseUintM, if_pos hl.1]
      have hle := decVal_le (a * 10 + (c.toNat - 48)) l
      by_cases h1 : 1844674407370955162 ≤ a
      · rw [if_pos h1]; right; exact ⟨by omega, rfl⟩
      · rw [if_neg h1]
        by_cases h2 : 2 ^ 64 - 1 < a * 10 + (c.toNat - 48)
        · rw [if_pos h2]; right; exact ⟨by omega, rfl⟩
        · rw [if_neg h2]; exact ih _ hl.2 (by omega)
  have hp : Lib.parseUintB 64 s = Lib.parseUintM (2 ^ 64 - 1) 0 s := by unfold Lib.parseUintB; rw [if_neg hne]
  have hsz : (⟨s.toArray⟩ : ByteArray).size = s.length := by simp [ByteArray.size]
  rcases key s 0 hd (by decide) with ⟨h1, h2⟩ | ⟨h1, h2⟩
  · exact ACalls.of_below (E := E) (f := 62) (xs := [.string ⟨s.toArray⟩, .int .i64 10, .int .i64 64]) (S := fun v => v = .tuple #[.int .u64 (decVal 0 s : Nat), .nilIface])
      (fun w hok => (Tryd.strconv_ParseUint_10_at64_ok ⟨s.toArray⟩ (by rw [hsz]; omega) (decVal 0 s) (by rw [← h2, ← hp]) w).mono (by
        rintro e w' ⟨rfl, rfl | rfl⟩
        · exact ⟨⟨_, rfl, rfl⟩, Below.refl _ _⟩
        · exact ⟨⟨_, rfl, rfl⟩, Lib.bytesWorld_below w _ _⟩))
      (by rintro v rfl; exact ⟨_, fun _ => tup2 _ _, rfl, .inl ⟨h1, rfl⟩⟩)
  · exact ACalls.of_below (E := E) (f := 62) (xs := [.string ⟨s.toArray⟩, .int .i64 10, .int .i64 64]) (S := fun v => ∃ p q, v = .tuple #[.int .u64 18446744073709551615, .iface p q])
      (fun w hok => by
        obtain ⟨tp, p, hv⟩ := hok.2.1
        exact (Tryd.strconv_ParseUint_10_at64_range_var ⟨s.toArray⟩ (by rw [hsz]; exact hs) (by rw [← h2, ← hp]) tp p w hv).mono (by
          rintro e w' ⟨N, rfl, _, _, hb⟩
          exact ⟨⟨_, rfl, _, _, rfl⟩, hb⟩))
      (by rintro v ⟨p, q, rfl⟩; exact ⟨_, fun _ => tup2 _ _, rfl, .inr ⟨h1, _, _, _, rfl⟩⟩)

theorem cut_at (l : Bs) (c : UInt8) : Lib.cut l [c] = match cutB c l with | none => (l, [], false) | some p => (p.1, p.2, true) := by
  have hi : Lib.index l [c] = Lib.indexByte l c := by
    induction l with
    | nil => rfl
    | cons b l ih =>
      unfold Lib.index Lib.indexByte
      rw [ih]
      have : [c].isPrefixOf (b :: l) = (b == c) := by
        simp only [List.isPrefixOf, Bool.and_true]
        rw [Bool.eq_iff_iff, beq_iff_eq, beq_iff_eq]; exact eq_comm
      rw [this]
  unfold Lib.cut
  rw [hi, index_cut]
  cases h : cutB c l with
  | none => rfl
  | some p =>
    obtain ⟨a, b⟩ := p
    obtain ⟨h1, _⟩ := cutB_some.1 h
    have e : l.drop (a.length + 1) = b := by rw [h1, ← List.drop_drop, List.drop_left]; rfl
    have e2 : l.take a.length = a := by rw [h1, List.take_left]
    show (if 0 ≤ (a.length : Int) then (l.take a.length, l.drop (a.length + 1), true) else (l, [], false)) = (a, b, true)
    rw [if_pos (by omega), e, e2]

theorem sCut_c (s : Bs) (c : UInt8) (hs : s.length < 4294967281) : ACalls E 54 [str s, str [c]] (fun r t => t = [] ∧ r = match cutB c s with | none => .tup [str s, str [], bl false] | some p => .tup [str p.1, str p.2, bl true]) := by
  have hsz : (⟨s.toArray⟩ : ByteArray).size = s.length := by simp [ByteArray.size]
  exact ACalls.of_below (E := E) (f := 54) (xs := [.string ⟨s.toArray⟩, .string ⟨[c].toArray⟩]) (S := fun v => v = .tuple #[.string ⟨(Lib.cut s [c]).1.toArray⟩, .string ⟨(Lib.cut s [c]).2.1.toArray⟩, .bool (Lib.cut s [c]).2.2])
      (fun w hok => by
        obtain ⟨m, hm⟩ := hok.2.2
        exact (Tryd.strings_Cut ⟨s.toArray⟩ ⟨[c].toArray⟩ m w (by rw [hsz]; exact hs) hm).mono (by
          rintro e w' ⟨rfl, n, rfl⟩
          exact ⟨⟨_, rfl, rfl⟩, below_drewN w n⟩))
      (by
        rintro v rfl
        refine ⟨_, fun _ => tup3 _ _ _, rfl, ?_⟩
        rw [cut_at]
        cases cutB c s <;> rfl)

set_option maxRecDepth 100000 in
theorem idxNil (cap : Nat) (cv : Int) (w : World) : Calls Tryd.prog 41 #[.slice none 0 cap, .int .u8 cv] w fun e w' => e = .returned (.int .i64 (-1)) ∧ w' = w := by
  have L := Tryd.lays187
  have t3 := L.t3; have t5 := L.t5; have t37 := L.t37
  have a3 := L.a3; have a5 := L.a5; have a37 := L.a37
  have mixed := L.mixed; have z3 := L.z3; have v3 := L.v3; have z5 := L.z5; have v5 := L.v5; have z37 := L.z37; have v37 := L.v37
  go_enter Tryd.func41, Tryd.ntmps41
  go_wp2
  rw [run_callFunc_extern Tryd.func53 (by kernel_rfl) (by kernel_rfl) (by kernel_rfl) (e := Extern.BytealgIndexByte.indexByte) (by kernel_rfl), Lib.run_indexByteNil w 0 cap cv]
  simp only [Result.andThen]
  rw [Oper.upon_value]
  go_wp2
  go_ret
  exact ⟨rfl, rfl⟩

theorem bIndex_c (l : Bs) (c : UInt8) : ACalls E 41 [bytesV l, .v (.int .u8 c.toNat)] (fun r t => r = i64 (Lib.indexByte l c) ∧ t = []) := by
  intro w im vs hok hg him hpw
  obtain ⟨hn, hp⟩ := hpw
  match vs, hn with
  | [v0, v1], _ =>
    have h0 := hp 0 _ v0 rfl rfl
    have h1 := hp 1 _ v1 rfl rfl
    cases h1
    have fin : ∀ (z : Int), z = Lib.indexByte l c → ∀ (e : Ending) (w' : World), (e = .returned (.int .i64 z) ∧ w' = w) → ∃ v r tks im', e = .returned v ∧ Below w.heap.size w w' ∧ im.le im' ∧ (∀ (b o : Nat), b < w.heap.size → im' b o = im b o) ∧
      (∀ (b o : Nat) (x : Value), im' b o = some x → w'.cell? ⟨b, o, none⟩ = some x) ∧ ToksOK im' w.heap.size w' tks ∧ VR ⟨[], tks, im'⟩ r v ∧ (r = i64 (Lib.indexByte l c) ∧ tks.map (·.tail) = []) := by
      rintro z rfl e w' ⟨rfl, rfl⟩
      exact ⟨_, _, [], im, rfl, Below.refl _ _, .refl _, fun _ _ _ => rfl, him, ⟨by simp, by simp⟩, .base (.v _), rfl, rfl⟩
    obtain ⟨a, cap, rfl, hcap, hes⟩ := h0.inv_sl
    cases a with
    | none =>
      have hl : l = [] := by
        rcases hes with h | ⟨b, o, h, _⟩
        · simpa using h
        · cases h
      subst hl
      exact (idxNil cap _ w).mono fun e w' h => fin _ rfl e w' h
    | some a =>
      refine (Tryd.bytes_IndexByte_at a (l.map u8).length cap (l.map fun b => (b.toNat : Int)) c.toNat w (by simp) ?_).mono fun e w' h => fin _ ?_ e w' h
      · intro i hi
        rcases hes with h | ⟨b, o, h, hk, cv, hm, h1, hv⟩
        · rw [h] at hi; simp at hi
        · cases h
          have hi' : i < l.length := by simpa using hi
          have hx : l[i]? = some l[i] := List.getElem?_eq_getElem hi'
          have he : (l.map u8)[i]? = some (u8 l[i]) := by rw [List.getElem?_map, hx]; rfl
          have h2 := hm i _ 0 _ he rfl
          have h3 := hv i _ 0 _ he rfl
          have h4 := him _ _ _ h2
          have h5 : cv i 0 = .int .u8 (l[i].toNat : Nat) := by
            generalize cv i 0 = z at h3
            cases h3; rfl
          rw [h5] at h4
          have h6 : (l.map fun b => (b.toNat : Int)).getD i 0 = (l[i].toNat : Int) := by
            rw [List.getD_eq_getElem?_getD, List.getElem?_map, hx]; rfl
          rw [h6]
          simp only [Nat.mul_one, Nat.add_zero] at h4
          simp only [Addr.add]
          split
          · rename_i h0; subst h0; simpa using h4
          · exact h4
      · have : Lib.bytesOf (l.map fun b => (b.toNat : Int)) = l := by
          unfold Lib.bytesOf
          rw [List.map_map]
          conv => rhs; rw [← List.map_id l]
          apply List.map_congr_left
          intro b _
          simp
        rw [this]; simp
theorem ifc89 : (∃ ms, Tryd.prog.underlying 89 = some (.interface ms)) = True := eq_true ⟨#[("Error", 125)], by kernel_rfl⟩
attribute [go_sem] ifc89
theorem tupP {s : Bs} {a b : Int} (h : parseF s = (a, b)) : AV.tup [.v (.int .i64 a), .v (.int .i64 b)] = AV.tup [i64 (parseF s).1, i64 (parseF s).2] := by rw [h]
theorem wrapn {n : Nat} (h : ¬ (4611686018427387904 : Int) < (n : Int)) : IntKind.i64.wrap (n : Int) = n ∧ IntKind.i64.wrap (0 - (n : Int)) = -(n : Int) := by
  constructor <;> (rw [IntKind.wrap_i64]; omega)
end Go.Proofs.YtobaignbahnjbaaDoor
