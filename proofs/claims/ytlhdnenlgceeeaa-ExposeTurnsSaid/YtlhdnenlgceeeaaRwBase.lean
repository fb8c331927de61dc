/- How a law's arguments are read: lists of executions, of bytes. -/
import Derived.Test.YtlhdnenlgceeeaaRows
import Derived.Test.YtlhdnenlgceeeaaN13
import Derived.Test.YtlhdnenlgceeeaaLc
import Derived.ProofKit
import Derived.LaidMore
import Derived.OpenShut
import Derived.Stop.Joined
import Derived.HandedShaped
import Derived.Lib.SmallJoins
namespace Go.Proofs.Ytlhdnenlgceeeaa
open Go.ChangeShapes Go.WideShapes Go.ChangeAt Go.RowKit Go.Joins Go.Abs Go.Bk
set_option linter.unusedVariables false
set_option linter.unusedSimpArgs false
/-- What the reading of an execution tells. -/
def exIn (x : Ex) : Prop := (x.id.length ≤ 9223372036854775807 ∧ x.ref.length ≤ 9223372036854775807 ∧ x.ord.length ≤ 9223372036854775807 ∧ x.acc.length ≤ 9223372036854775807 ∧ x.sym.length ≤ 9223372036854775807) ∧
  (-9223372036854775808 ≤ x.kind ∧ x.kind ≤ 9223372036854775807) ∧ (-9223372036854775808 ≤ x.qty ∧ x.qty ≤ 9223372036854775807) ∧ (-9223372036854775808 ≤ x.price ∧ x.price ≤ 9223372036854775807) ∧ (-9223372036854775808 ≤ x.time ∧ x.time ≤ 9223372036854775807)
theorem i64_wf {n : Int} (h : (Lit.int .i64 n).wf = true) : -9223372036854775808 ≤ n ∧ n ≤ 9223372036854775807 := by
  simp only [Lit.wf, Bool.and_eq_true, decide_eq_true_eq, IntKind.min, IntKind.max, IntKind.bits, IntKind.signed] at h
  simp at h; omega
section
variable {H : Type} {enc : TypeId × Value → H}
variable {w : World} {r : Reach} {b0 base : Nat} {spare : Nat → Bool} {held : Bool} {v : Value} {d : DataW H} {ps : List MemPlace}
theorem list_map {α : Type} {f : α → AV} {Q : α → Prop} : ∀ {es : List AV}, (∀ y ∈ es, ∃ b, Q b ∧ y = f b) → ∃ L : List α, es = L.map f ∧ ∀ b ∈ L, Q b
  | [], _ => ⟨[], rfl, by simp⟩
  | e :: es, h => by
    obtain ⟨b, hb, rfl⟩ := h e (List.mem_cons_self ..)
    obtain ⟨L, rfl, hL⟩ := list_map (es := es) fun y hy => h y (List.mem_cons_of_mem _ hy)
    exact ⟨b :: L, rfl, fun x hx => by rcases List.mem_cons.1 hx with rfl | hx; exact hb; exact hL x hx⟩
theorem c26 : Try.prog.cellsOf 26 = 10 := by kernel_rfl
theorem c5 : Try.prog.cellsOf 5 = 1 := by kernel_rfl
set_option maxRecDepth 100000 in
theorem arg_bytes (hv : Value.okWide Try.prog w r b0 23 v) (hd : DataW.Trod enc Try.prog w base spare held 23 v d ps) : ∃ l : List UInt8, l.length ≤ 9223372036854775807 ∧ VR0 (imOf w) (.sl none 1 (l.map u8)) v := by
  obtain ⟨x, hx, h⟩ := arg_slice false Try.underlying23 c5 (by decide) (fun _ => rfl) (reads_int Try.underlying5) hv hd
  rcases h with rfl | ⟨es, h1, h2, rfl⟩
  · cases hx; exact ⟨[], by simp, .sl0 1 none 0⟩
  · obtain ⟨L, rfl, _⟩ := list_map (f := u8) (Q := fun _ => True) (es := es) (fun y hy => by
      obtain ⟨l, ⟨n, hn, rfl⟩, rfl⟩ := h2 y hy
      have hn' : 0 ≤ n ∧ n < 256 := by
        simp only [Lit.wf, Bool.and_eq_true, decide_eq_true_eq] at hn
        simp only [IntKind.min, IntKind.max, IntKind.bits, IntKind.signed] at hn
        simp at hn
        omega
      refine ⟨UInt8.ofNat n.toNat, trivial, ?_⟩
      show AV.v (.int .u8 n) = u8 _
      have : ((UInt8.ofNat n.toNat).toNat : Int) = n := by simp; omega
      rw [u8_at, this])
    exact ⟨L, by unfold maxLen at h1; simpa using h1, hx⟩
set_option maxRecDepth 100000 in
theorem arg_execs (hv : Value.okWide Try.prog w r b0 22 v) (hd : DataW.Trod enc Try.prog w base spare held 22 v d ps) : ∃ l : List Ex, l.length ≤ 9223372036854775807 ∧ (∀ x ∈ l, exIn x) ∧ VR0 (imOf w) (exsV l) v := by
  obtain ⟨x, hx, h⟩ := arg_slice true Try.underlying22 c26 (by decide) (fun h => by cases h)
    (reads_struct Try.underlying26 rfl c26 (readsF_cons (reads_string Try.underlying9) (by kernel_rfl) rfl (readsF_cons (reads_string Try.underlying9) (by kernel_rfl) rfl (readsF_cons (reads_string Try.underlying9) (by kernel_rfl) rfl (readsF_cons (reads_string Try.underlying9) (by kernel_rfl) rfl (readsF_cons (reads_string Try.underlying9) (by kernel_rfl) rfl (readsF_cons (reads_int Try.underlying3) (by kernel_rfl) rfl (readsF_cons (reads_bool Try.underlying4) (by kernel_rfl) rfl (readsF_cons (reads_int Try.underlying2) (by kernel_rfl) rfl (readsF_cons (reads_int Try.underlying2) (by kernel_rfl) rfl (readsF_cons (reads_int Try.underlying2) (by kernel_rfl) rfl (readsF_nil 10)))))))))))) hv hd
  rcases h with rfl | ⟨es, h1, h2, rfl⟩
  · cases hx; exact ⟨[], by simp, by simp, .sl0 10 none 0⟩
  · obtain ⟨L, rfl, hL⟩ := list_map (f := exV) (Q := exIn) (es := es) (fun y hy => by
      obtain ⟨l, ⟨_, _, ⟨s1, k1, rfl⟩, ⟨_, _, ⟨s2, k2, rfl⟩, ⟨_, _, ⟨s3, k3, rfl⟩, ⟨_, _, ⟨s4, k4, rfl⟩, ⟨_, _, ⟨s5, k5, rfl⟩, ⟨_, _, ⟨n6, k6, rfl⟩, ⟨_, _, ⟨b7, rfl⟩, ⟨_, _, ⟨n8, k8, rfl⟩, ⟨_, _, ⟨n9, k9, rfl⟩, ⟨_, _, ⟨n10, k10, rfl⟩, rfl, rfl⟩, rfl⟩, rfl⟩, rfl⟩, rfl⟩, rfl⟩, rfl⟩, rfl⟩, rfl⟩, rfl⟩, rfl⟩ := h2 y hy
      unfold maxLen at k1 k2 k3 k4 k5
      exact ⟨⟨s1, s2, s3, s4, s5, n6, b7, n8, n9, n10⟩, ⟨⟨k1, k2, k3, k4, k5⟩, i64_wf k6, i64_wf k8, i64_wf k9, i64_wf k10⟩, rfl⟩)
    exact ⟨L, by unfold maxLen at h1; simpa using h1, hL, hx⟩
end

theorem own : ownKnob Try.prog.godebug = none := by kernel_rfl
theorem laidOut : laidOutB Try.prog = true := by kernel_rfl
end Go.Proofs.Ytlhdnenlgceeeaa
