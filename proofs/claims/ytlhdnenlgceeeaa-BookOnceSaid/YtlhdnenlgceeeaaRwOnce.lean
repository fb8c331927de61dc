/- BookOnce: whatever is told again changes nothing: the law answers true for every input, and what came in reads as it did. No conditions. -/
import Derived.Test.YtlhdnenlgceeeaaRows
import Derived.Test.YtlhdnenlgceeeaaN13
import Derived.Test.YtlhdnenlgceeeaaLc
import Derived.ProofKit
import Derived.LaidMore
import Derived.OpenShut
import Derived.Stop.Joined
import Derived.HandedShaped
import Derived.Lib.SmallJoins
namespace Go.Proofs.Ytlhdnenlgceeeaa
open Go.ChangeShapes Go.WideShapes Go.ChangeAt Go.RowKit Go.Joins Go.Abs Go.Bk
set_option linter.unusedVariables false
set_option linter.unusedSimpArgs false
section
variable {H : Type} {enc : TypeId × Value → H}
variable {w : World} {r : Reach} {b0 base : Nat} {spare : Nat → Bool} {held : Bool} {v : Value} {d : DataW H} {ps : List MemPlace}
theorem list_map {α : Type} {f : α → AV} {Q : α → Prop} : ∀ {es : List AV}, (∀ y ∈ es, ∃ b, Q b ∧ y = f b) → ∃ L : List α, es = L.map f ∧ ∀ b ∈ L, Q b
  | [], _ => ⟨[], rfl, by simp⟩
  | e :: es, h => by
    obtain ⟨b, hb, rfl⟩ := h e (List.mem_cons_self ..)
    obtain ⟨L, rfl, hL⟩ := list_map (es := es) fun y hy => h y (List.mem_cons_of_mem _ hy)
    exact ⟨b :: L, rfl, fun x hx => by rcases List.mem_cons.1 hx with rfl | hx; exact hb; exact hL x hx⟩
theorem c26 : Try.prog.cellsOf 26 = 10 := by kernel_rfl
theorem c5 : Try.prog.cellsOf 5 = 1 := by kernel_rfl
set_option maxRecDepth 100000 in
theorem arg_bytes (hv : Value.okWide Try.prog w r b0 23 v) (hd : DataW.Trod enc Try.prog w base spare held 23 v d ps) : ∃ l : List UInt8, l.length ≤ 9223372036854775807 ∧ VR0 (imOf w) (.sl none 1 (l.map u8)) v := by
  obtain ⟨x, hx, h⟩ := arg_slice false Try.underlying23 c5 (by decide) (fun _ => rfl) (reads_int Try.underlying5) hv hd
  rcases h with rfl | ⟨es, h1, h2, rfl⟩
  · cases hx; exact ⟨[], by simp, .sl0 1 none 0⟩
  · obtain ⟨L, rfl, _⟩ := list_map (f := u8) (Q := fun _ => True) (es := es) (fun y hy => by
      obtain ⟨l, ⟨n, hn, rfl⟩, rfl⟩ := h2 y hy
      have hn' : 0 ≤ n ∧ n < 256 := by
        simp only [Lit.wf, Bool.and_eq_true, decide_eq_true_eq] at hn
        simp only [IntKind.min, IntKind.max, IntKind.bits, IntKind.signed] at hn
        simp at hn
        omega
      refine ⟨UInt8.ofNat n.toNat, trivial, ?_⟩
      show AV.v (.int .u8 n) = u8 _
      have : ((UInt8.ofNat n.toNat).toNat : Int) = n := by simp; omega
      rw [u8_at, this])
    exact ⟨L, by unfold maxLen at h1; simpa using h1, hx⟩
set_option maxRecDepth 100000 in
theorem arg_execs (hv : Value.okWide Try.prog w r b0 22 v) (hd : DataW.Trod enc Try.prog w base spare held 22 v d ps) : ∃ l : List Ex, l.length ≤ 9223372036854775807 ∧ VR0 (imOf w) (exsV l) v := by
  obtain ⟨x, hx, h⟩ := arg_slice true Try.underlying22 c26 (by decide) (fun h => by cases h)
    (reads_struct Try.underlying26 rfl c26 (readsF_cons (reads_string Try.underlying9) (by kernel_rfl) rfl (readsF_cons (reads_string Try.underlying9) (by kernel_rfl) rfl (readsF_cons (reads_string Try.underlying9) (by kernel_rfl) rfl (readsF_cons (reads_string Try.underlying9) (by kernel_rfl) rfl (readsF_cons (reads_string Try.underlying9) (by kernel_rfl) rfl (readsF_cons (reads_int Try.underlying3) (by kernel_rfl) rfl (readsF_cons (reads_bool Try.underlying4) (by kernel_rfl) rfl (readsF_cons (reads_int Try.underlying2) (by kernel_rfl) rfl (readsF_cons (reads_int Try.underlying2) (by kernel_rfl) rfl (readsF_cons (reads_int Try.underlying2) (by kernel_rfl) rfl (readsF_nil 10)))))))))))) hv hd
  rcases h with rfl | ⟨es, h1, h2, rfl⟩
  · cases hx; exact ⟨[], by simp, .sl0 10 none 0⟩
  · obtain ⟨L, rfl, hL⟩ := list_map (f := exV) (Q := fun f => True) (es := es) (fun y hy => by
      obtain ⟨l, ⟨_, _, ⟨s1, _, rfl⟩, ⟨_, _, ⟨s2, _, rfl⟩, ⟨_, _, ⟨s3, _, rfl⟩, ⟨_, _, ⟨s4, _, rfl⟩, ⟨_, _, ⟨s5, _, rfl⟩, ⟨_, _, ⟨n6, _, rfl⟩, ⟨_, _, ⟨b7, rfl⟩, ⟨_, _, ⟨n8, _, rfl⟩, ⟨_, _, ⟨n9, _, rfl⟩, ⟨_, _, ⟨n10, _, rfl⟩, rfl, rfl⟩, rfl⟩, rfl⟩, rfl⟩, rfl⟩, rfl⟩, rfl⟩, rfl⟩, rfl⟩, rfl⟩, rfl⟩ := h2 y hy
      exact ⟨⟨s1, s2, s3, s4, s5, n6, b7, n8, n9, n10⟩, trivial, rfl⟩)
    exact ⟨L, by unfold maxLen at h1; simpa using h1, hx⟩
end
theorem own : ownKnob Try.prog.godebug = none := by kernel_rfl
theorem laidOut : laidOutB Try.prog = true := by kernel_rfl

set_option maxRecDepth 100000 in
theorem bookOnce_lifted (os : Os) (started : os.Started) (H : Type) (enc : TypeId × Value → H) :
    ReturnsInHanded {} Try.checked os 3 .any (Rows.bookOnceSpec.pre6 enc Try.prog Try.f3 Rows.bookOnceRow.domain false) (Rows.bookOnceSpec.post enc Try.prog Try.f3 false true false false) := by
  refine returnsInHanded_of_change (C := Try.checked) own started (by kernel_rfl) Try.func3
    (ChangeSpec.witness6 (enc := enc) (C := Try.checked) false ⟨#[], #[.slice none 0 0, .slice none 0 0], []⟩ 8 (by kernel_rfl) (by kernel_rfl) (by kernel_rfl) (by kernel_rfl)) ?_
  intro W base args ds gs before hval0 hW hcnd _
  have hval : ∀ (j : Nat) t v, Try.f3.params[j]? = some t → args[j]? = some v → Value.okWide Try.prog W .any base t v := hval0
  have hW' := hW
  obtain ⟨p, q, hA0, hV, rfl, hfz, hnd⟩ := hW
  have hA : DataW.TrodAll enc Try.prog W 0 (fun _ => true) true Try.f3.params.toList args.toList ds p := hA0
  rw [Try.params3] at hA hval
  obtain ⟨rfl, rfl⟩ := trodVars_none hV
  obtain ⟨v0, vs0, d0, ds0, p0, q0, e0, rfl, rfl, h0, hA⟩ := trodAll_cons hA
  obtain ⟨v1, vs1, d1, ds1, p1, q1, rfl, rfl, rfl, h1, hA⟩ := trodAll_cons hA
  obtain ⟨rfl, rfl, rfl⟩ := trodAll_nil hA
  have hargs : args = #[v0, v1] := by apply Array.ext'; simpa using e0
  subst hargs
  obtain ⟨l, hl, x0⟩ := arg_execs (hval 0 22 v0 rfl rfl) h0
  obtain ⟨ag, ha, x1⟩ := arg_bytes (hval 1 23 v1 rfl rfl) h1
  exact (calls_law (E := E) trivial (fun g cs e => by simp [E] at e) (once_c l ag hl ha) (pw0_cons x0 (pw0_cons x1 pw0_nil))).mono fun e W' ⟨he, hB⟩ => ⟨_, he, law_post laidOut (by kernel_rfl) rfl rfl Try.underlying4 hW' hB rfl⟩

set_option maxRecDepth 100000 in
theorem bookOnce_holds : Rows.BookOnceSaid :=
  OpenClaim.holds_of_wide 3 Try.f3 rfl rfl rfl rfl rfl rfl rfl ⟨rfl, rfl, rfl, rfl, rfl⟩ rfl rfl rfl rfl rfl (by kernel_rfl) Try.func3 (by kernel_rfl)
    (of_decide_eq_true (by kernel_rfl)) (by unfold Func.isWrapper; first | (rw [if_pos (by decide +kernel)]; kernel_rfl) | (rw [if_neg (by decide +kernel)]; exact ⟨rfl, rfl⟩))
    (fun os started H enc _ => bookOnce_lifted os started H enc)
end Go.Proofs.Ytlhdnenlgceeeaa
