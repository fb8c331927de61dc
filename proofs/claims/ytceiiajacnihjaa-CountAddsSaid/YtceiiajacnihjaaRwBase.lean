/- How a law's arguments are read: lists of strings, of numbers, of things to do. -/
import Derived.Test.YtceiiajacnihjaaRows
import Derived.Test.YtceiiajacnihjaaC9
import Derived.Test.YtceiiajacnihjaaLc
import Derived.ProofKit
import Derived.LaidMore
import Derived.OpenShut
import Derived.Stop.Joined
import Derived.HandedShaped
import Derived.Lib.SmallJoins
namespace Go.Proofs.Ytceiiajacnihjaa
open Go.ChangeShapes Go.WideShapes Go.ChangeAt Go.RowKit Go.Joins Go.Abs Go.Bk
set_option linter.unusedVariables false
set_option linter.unusedSimpArgs false
section
variable {H : Type} {enc : TypeId × Value → H}
variable {w : World} {r : Reach} {b0 base : Nat} {spare : Nat → Bool} {held : Bool} {v : Value} {d : DataW H} {ps : List MemPlace}
theorem list_map {α : Type} {f : α → AV} {Q : α → Prop} : ∀ {es : List AV}, (∀ y ∈ es, ∃ b, Q b ∧ y = f b) → ∃ L : List α, es = L.map f ∧ ∀ b ∈ L, Q b
  | [], _ => ⟨[], rfl, by simp⟩
  | e :: es, h => by
    obtain ⟨b, hb, rfl⟩ := h e (List.mem_cons_self ..)
    obtain ⟨L, rfl, hL⟩ := list_map (es := es) fun y hy => h y (List.mem_cons_of_mem _ hy)
    exact ⟨b :: L, rfl, fun x hx => by rcases List.mem_cons.1 hx with rfl | hx; exact hb; exact hL x hx⟩
theorem c41 : Try.prog.cellsOf 41 = 2 := by kernel_rfl
theorem c9 : Try.prog.cellsOf 9 = 1 := by kernel_rfl
theorem c2 : Try.prog.cellsOf 2 = 1 := by kernel_rfl
set_option maxRecDepth 100000 in
theorem arg_strs (hv : Value.okWide Try.prog w r b0 22 v) (hd : DataW.Trod enc Try.prog w base spare held 22 v d ps) : ∃ l : List (List UInt8), l.length ≤ 9223372036854775807 ∧ VR0 (imOf w) (.sl none 1 (l.map str)) v := by
  obtain ⟨x, hx, h⟩ := arg_slice false Try.underlying22 c9 (by decide) (fun _ => rfl) (reads_string Try.underlying9) hv hd
  rcases h with rfl | ⟨es, h1, h2, rfl⟩
  · cases hx; exact ⟨[], by simp, .sl0 1 none 0⟩
  · obtain ⟨L, rfl, _⟩ := list_map (f := str) (Q := fun _ => True) (es := es) (fun y hy => by
      obtain ⟨l, ⟨s, _, rfl⟩, rfl⟩ := h2 y hy
      exact ⟨s, trivial, rfl⟩)
    exact ⟨L, by unfold maxLen at h1; simpa using h1, hx⟩
set_option maxRecDepth 100000 in
theorem arg_ints (hv : Value.okWide Try.prog w r b0 35 v) (hd : DataW.Trod enc Try.prog w base spare held 35 v d ps) : ∃ l : List Int, l.length ≤ 9223372036854775807 ∧ VR0 (imOf w) (.sl none 1 (l.map i64)) v := by
  obtain ⟨x, hx, h⟩ := arg_slice false Try.underlying35 c2 (by decide) (fun _ => rfl) (reads_int Try.underlying2) hv hd
  rcases h with rfl | ⟨es, h1, h2, rfl⟩
  · cases hx; exact ⟨[], by simp, .sl0 1 none 0⟩
  · obtain ⟨L, rfl, _⟩ := list_map (f := i64) (Q := fun _ => True) (es := es) (fun y hy => by
      obtain ⟨l, ⟨n, _, rfl⟩, rfl⟩ := h2 y hy
      exact ⟨n, trivial, rfl⟩)
    exact ⟨L, by unfold maxLen at h1; simpa using h1, hx⟩
set_option maxRecDepth 100000 in
theorem arg_dos (hv : Value.okWide Try.prog w r b0 34 v) (hd : DataW.Trod enc Try.prog w base spare held 34 v d ps) : ∃ l : List (List UInt8 × Int), l.length ≤ 9223372036854775807 ∧ VR0 (imOf w) (.sl none 2 (l.map doV)) v := by
  obtain ⟨x, hx, h⟩ := arg_slice true Try.underlying34 c41 (by decide) (fun h => by cases h)
    (reads_struct Try.underlying41 rfl c41 (readsF_cons (reads_string Try.underlying9) (by kernel_rfl) rfl (readsF_cons (reads_int Try.underlying2) (by kernel_rfl) rfl (readsF_nil 2)))) hv hd
  rcases h with rfl | ⟨es, h1, h2, rfl⟩
  · cases hx; exact ⟨[], by simp, .sl0 2 none 0⟩
  · obtain ⟨L, rfl, hL⟩ := list_map (f := doV) (Q := fun _ => True) (es := es) (fun y hy => by
      obtain ⟨l, ⟨_, _, ⟨s1, k1, rfl⟩, ⟨_, _, ⟨n2, k2, rfl⟩, rfl, rfl⟩, rfl⟩, rfl⟩ := h2 y hy
      exact ⟨(s1, n2), trivial, rfl⟩)
    exact ⟨L, by unfold maxLen at h1; simpa using h1, hx⟩
set_option maxRecDepth 100000 in
theorem arg_str (hv : Value.okWide Try.prog w r b0 9 v) (hd : DataW.Trod enc Try.prog w base spare held 9 v d ps) : ∃ s : List UInt8, VR0 (imOf w) (str s) v := by
  obtain ⟨l, _, h⟩ := arg_string Try.underlying9 hv hd
  exact ⟨l, h⟩
end
theorem own : ownKnob Try.prog.godebug = none := by kernel_rfl
theorem laidOut : laidOutB Try.prog = true := by kernel_rfl
end Go.Proofs.Ytceiiajacnihjaa
