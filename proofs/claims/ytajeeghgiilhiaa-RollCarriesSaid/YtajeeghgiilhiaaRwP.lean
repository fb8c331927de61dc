/- How a law's arguments are read: lists of positions. -/
import Derived.Test.YtajeeghgiilhiaaRows
import Derived.Test.YtajeeghgiilhiaaLc
import Derived.Test.YtajeeghgiilhiaaU1
import Derived.ProofKit
import Derived.LaidMore
import Derived.OpenShut
import Derived.Stop.Joined
import Derived.HandedShaped
import Derived.Lib.SmallJoins
namespace Go.Proofs.Ytajeeghgiilhiaa
open Go.ChangeShapes Go.WideShapes Go.ChangeAt Go.RowKit Go.Joins Go.Abs Go.Bk
set_option linter.unusedVariables false
set_option linter.unusedSimpArgs false
section
variable {H : Type} {enc : TypeId × Value → H}
variable {w : World} {r : Reach} {b0 base : Nat} {spare : Nat → Bool} {held : Bool} {v : Value} {d : DataW H} {ps : List MemPlace}
theorem list_map {α : Type} {f : α → AV} {Q : α → Prop} : ∀ {es : List AV}, (∀ y ∈ es, ∃ b, Q b ∧ y = f b) → ∃ L : List α, es = L.map f ∧ ∀ b ∈ L, Q b
  | [], _ => ⟨[], rfl, by simp⟩
  | e :: es, h => by
    obtain ⟨b, hb, rfl⟩ := h e (List.mem_cons_self ..)
    obtain ⟨L, rfl, hL⟩ := list_map (es := es) fun y hy => h y (List.mem_cons_of_mem _ hy)
    exact ⟨b :: L, rfl, fun x hx => by rcases List.mem_cons.1 hx with rfl | hx; exact hb; exact hL x hx⟩
theorem sl_of {α : Type} {f : α → AV} {k : Nat} {S : List AV → Prop} {ag : Bool} (hf : ∀ l, S l → ∃ a : α, elOf ag l = f a) {ls : List AV} (h : ls = [.nilS] ∨ ∃ es : List AV, es.length ≤ maxLen ∧ (∀ x ∈ es, ∃ l, S l ∧ x = elOf ag l) ∧ ls = [.sl none k es]) :
    ∃ l : List α, l.length ≤ 9223372036854775807 ∧ ∃ y, ls = [y] ∧ ∀ im v, VR0 im y v → VR0 im (.sl none k (l.map f)) v := by
  rcases h with rfl | ⟨es, h1, h2, rfl⟩
  · exact ⟨[], by simp, _, rfl, fun im v hv => VR0.of_nil hv⟩
  · obtain ⟨L, rfl, _⟩ := list_map (f := f) (Q := fun _ => True) (es := es) (fun y hy => by
      obtain ⟨l, hl, rfl⟩ := h2 y hy
      obtain ⟨a, ha⟩ := hf l hl
      exact ⟨a, trivial, ha⟩)
    exact ⟨L, by unfold maxLen at h1; simpa using h1, _, rfl, fun im v hv => hv⟩
theorem cP : Try.prog.cellsOf 41 = 5 := by kernel_rfl
set_option maxRecDepth 100000 in
theorem reads_po : Reads enc Try.prog 41 5 fun l => ∃ a : Po, elOf true l = poV a := fun w base spare held fuel cs x hx => by
  obtain ⟨ls, ⟨_, _, ⟨s1, k1, rfl⟩, ⟨_, _, ⟨s2, k2, rfl⟩, ⟨_, _, ⟨n3, k3, rfl⟩, ⟨_, _, ⟨n4, k4, rfl⟩, ⟨_, _, ⟨b5, rfl⟩, rfl, rfl⟩, rfl⟩, rfl⟩, rfl⟩, rfl⟩, h2, h3⟩ := reads_struct Try.underlying41 rfl cP (readsF_cons (reads_string Try.underlying9) (by kernel_rfl) rfl (readsF_cons (reads_string Try.underlying9) (by kernel_rfl) rfl (readsF_cons (reads_int Try.underlying2) (by kernel_rfl) rfl (readsF_cons (reads_int Try.underlying2) (by kernel_rfl) rfl (readsF_cons (reads_bool Try.underlying4) (by kernel_rfl) rfl (readsF_nil 5)))))) w base spare held fuel cs x hx
  exact ⟨_, ⟨⟨s1, s2, n3, n4, b5⟩, rfl⟩, h2, h3⟩
set_option maxRecDepth 100000 in
theorem arg_poss (hv : Value.okWide Try.prog w r b0 22 v) (hd : DataW.Trod enc Try.prog w base spare held 22 v d ps) : ∃ l : List Po, l.length ≤ 9223372036854775807 ∧ VR0 (imOf w) (posV l) v := by
  obtain ⟨x, hx, h⟩ := arg_slice true Try.underlying22 cP (by decide) (fun h => by cases h) reads_po hv hd
  obtain ⟨l, hl, y, hy, h2⟩ := sl_of (f := poV) (ls := [x]) (k := 5) (ag := true) (fun l h => h) (by
    rcases h with rfl | ⟨es, h1, h2, rfl⟩
    · exact .inl rfl
    · exact .inr ⟨es, h1, h2, rfl⟩)
  cases hy
  exact ⟨l, hl, h2 _ _ hx⟩
end
theorem own : ownKnob Try.prog.godebug = none := by kernel_rfl
theorem laidOut : laidOutB Try.prog = true := by kernel_rfl
end Go.Proofs.Ytajeeghgiilhiaa
