/- Messages: the laws. No program. -/
import Derived.Test.YtobaignbahnjbaaDoorMsgC
set_option linter.unusedVariables false
set_option linter.unusedSimpArgs false
namespace Go.Msg
open Go.Fld Go.Bk
/-- The document's fields. -/
def packR (m : Mg) : List Fld.Fd :=
  (35, letF m.kind) :: (34, showF m.seq) :: (52, showF m.time) :: (yesF 43 m.copy ++ (if m.kind = 1 then [(108, showF m.a)] else []) ++ someF 112 m.text ++ (if m.kind = 4 then [(7, showF m.a), (16, showF m.b)] else []) ++
    yesF 123 m.gap ++ (if m.kind = 5 then [(36, showF m.a)] else []) ++ (if m.kind = 7 then execL m.exec else []))
theorem pack_same {m : Mg} (h : rightM m = true) : packR m = packL m := by
  have hm := right_mok h
  have hb := hm.bare
  have hk := okM_range hm.ok
  obtain ⟨kind, seq, time, copy, a, b, gap, text, exec⟩ := m
  simp only [bareM, Mg.mk.injEq, true_and] at hb
  simp only at hk
  obtain ⟨ba, bb, bg, bt, bx⟩ := hb
  unfold packR packL bodyL
  rcases hk with rfl | rfl | rfl | rfl | rfl | rfl | rfl <;> simp at ba bb bg bt bx ⊢ <;> simp [*, someF, yesF]
def putR (m : Mg) : List UInt8 × Int := if rightR m = true then ((putF (packR m)).1, 0) else ([], 1)
theorem put_same (m : Mg) : putR m = putM m := by
  unfold putR
  rw [right_same]
  cases h : rightM m with
  | true => rw [if_pos rfl, putM_ok h, pack_same h, put_pack (right_mok h)]
  | false => rw [putM_no h]; simp
theorem put_err {m : Mg} (h : ¬ (putM m).2 = 0) : rightM m = false ∧ putM m = ([], 1) := by
  cases hr : rightM m with
  | true => rw [putM_ok hr] at h; simp at h
  | false => exact ⟨rfl, putM_no hr⟩
theorem readM_put {m : Mg} (h : rightM m = true) : readM (encL (packL m)) = (m, 0) := by
  have hm := right_mok h
  unfold readM
  rw [parse_pack hm]
  simp only [ne_eq, not_true_eq_false, if_false, find_pack hm, putM_ok h, and_self, if_true]
theorem back_put {m : Mg} (h : (putM m).2 = 0) : readM (putM m).1 = (m, 0) ∧ parseL (putM m).1 = (packL m, 0) ∧ 3 ≤ (packL m).length ∧ (packL m)[0]? = some (35, letF m.kind) ∧ rightB (putM m).1 = true ∧ rightM m = true := by
  have hr := put0_right h
  have hm := right_mok hr
  rw [putM_ok hr]
  refine ⟨readM_put hr, parse_pack hm, (pack_fine hm).2.1, rfl, ?_, hr⟩
  have hle := enc_short hm
  have hp := parse_pack hm
  unfold rightB
  rw [hp]
  have h1 : 1 ≤ (encL (packL m)).length := by
    unfold packL encL encF; simp; omega
  have htag : ∀ f ∈ packL m, ¬ (8 ≤ f.1 ∧ f.1 ≤ 10) := by
    intro f hf
    unfold packL at hf
    simp only [List.mem_cons, List.mem_append] at hf
    have hy : ∀ {t : Int} {b : Bool}, f ∈ yesF t b → f.1 = t := by intro t b h; unfold yesF at h; cases b <;> simp at h; rw [h]
    have hs : ∀ {t : Int} {s : List UInt8}, f ∈ someF t s → f.1 = t := by intro t s h; unfold someF at h; split at h <;> simp at h; rw [h]
    rcases hf with rfl | rfl | rfl | hf | hf
    · simp
    · simp
    · simp
    · rw [hy hf]; omega
    · unfold bodyL at hf
      split at hf; · simp at hf; subst hf; simp
      split at hf; · rw [hs hf]; omega
      split at hf; · simp at hf; rcases hf with rfl | rfl <;> simp
      split at hf
      · simp only [List.mem_append, List.mem_cons, List.not_mem_nil, or_false] at hf
        rcases hf with hf | rfl
        · rw [hy hf]; omega
        · simp
      split at hf
      · unfold execL at hf
        simp only [List.mem_append, List.mem_cons, List.not_mem_nil, or_false] at hf
        rcases hf with rfl | hf | rfl | rfl | rfl | rfl | rfl | rfl | rfl | rfl
        · simp
        · rw [hs hf]; omega
        all_goals simp
      · simp at hf
  simp only [Bool.and_eq_true, decide_eq_true_eq]
  refine ⟨⟨⟨h1, by omega⟩, trivial⟩, ?_⟩
  rw [List.all_eq_true]
  intro f hf
  have := htag f hf
  simp only [Bool.not_eq_true', Bool.and_eq_false_iff, decide_eq_false_iff_not]
  omega
theorem read_err {b : List UInt8} (h : ¬ (readM b).2 = 0) : (readM b).1 = zeroM := by
  unfold readM at h ⊢
  split
  · rfl
  · rename_i he
    rw [if_neg he] at h
    split
    · rename_i hp; rw [if_pos hp] at h; simp at h
    · rfl
theorem read_back {b : List UInt8} (h : (readM b).2 = 0) : putM (readM b).1 = (b, 0) ∧ rightM (readM b).1 = true := by
  unfold readM at h ⊢
  split at h
  · rename_i he; exact absurd h he
  · rename_i he
    rw [if_neg he]
    split at h
    · rename_i hp
      rw [if_pos hp]
      exact ⟨Prod.ext hp.2 hp.1, put0_right hp.1⟩
    · simp at h
theorem put_inj {a b : Mg} (ha : (putM a).2 = 0) (hb : (putM b).2 = 0) : ((putM a).1 = (putM b).1) ↔ a = b := by
  constructor
  · intro h
    have h1 := (back_put ha).1
    rw [h, (back_put hb).1] at h1
    exact (congrArg Prod.fst h1).symm
  · rintro rfl; rfl
def flipM (m : Mg) : Mg := { m with copy := !m.copy }
theorem flip_right (m : Mg) : rightM (flipM m) = rightM m := by
  obtain ⟨kind, seq, time, copy, a, b, gap, text, exec⟩ := m
  unfold rightM okM flipM bareM
  simp
theorem flip_len {m : Mg} (h : rightM m = true) : (m.copy = false → (putM (flipM m)).1.length = (putM m).1.length + 5) ∧ (m.copy = true → (putM m).1.length = (putM (flipM m)).1.length + 5) := by
  rw [putM_ok h, putM_ok ((flip_right m).trans h)]
  have hb : ∀ c, bodyL ⟨m.kind, m.seq, m.time, c, m.a, m.b, m.gap, m.text, m.exec⟩ = bodyL m := fun _ => rfl
  have h43 : (encF (43, [89])).length = 5 := by
    unfold encF; rw [show_big (by decide) (by decide), show_dig (by decide) (by decide)]; rfl
  constructor
  · intro hc
    simp only [packL, hb, flipM, hc, encL, encL_app, List.length_append, yesF, Bool.not_false, if_true, Bool.false_eq_true, if_false, List.length_nil, h43]
    omega
  · intro hc
    simp only [packL, hb, flipM, hc, encL, encL_app, List.length_append, yesF, Bool.not_true, if_true, Bool.false_eq_true, if_false, List.length_nil, h43]
    omega
theorem flip_err (m : Mg) : (putM (flipM m)).2 = (putM m).2 := by
  cases h : rightM m with
  | true => rw [putM_ok h, putM_ok ((flip_right m).trans h)]
  | false => rw [putM_no h, putM_no ((flip_right m).trans h)]
end Go.Msg
