/- From a law's contract to its row: what is read at the start, and what the listed variables hold. -/
import Derived.Test.YtobaignbahnjbaaDoorRows
import Derived.Test.YtobaignbahnjbaaDoorN3
import Derived.Test.YtobaignbahnjbaaDoorM2
import Derived.ProofKit
import Derived.LaidMore
import Derived.OpenShut
import Derived.Stop.Joined
import Derived.HandedShaped
import Derived.Lib.SmallJoins
namespace Go.Proofs.YtobaignbahnjbaaDoor
open Go.ChangeShapes Go.WideShapes Go.ChangeAt Go.RowKit Go.Joins Go.Abs Go.Fld Go.Msg
set_option linter.unusedVariables false
set_option linter.unusedSimpArgs false

theorem own : ownKnob Tryd.prog.godebug = none := by kernel_rfl
theorem laidOut : laidOutB Tryd.prog = true := by kernel_rfl
abbrev laidL : List (String × DataW Unit) := [("math/bits.deBruijn32tab", Rows.laid_math_bits_deBruijn32tab), ("math/bits.deBruijn64tab", Rows.laid_math_bits_deBruijn64tab), ("internal/strconv.uint64pow10", Rows.laid_internal_strconv_uint64pow10), ("strconv.ErrRange", Rows.laid_strconv_ErrRange), ("strconv.ErrSyntax", Rows.laid_strconv_ErrSyntax)]
theorem gPow : Tryd.prog.globalNamed "internal/strconv.uint64pow10" = some 1 := by kernel_rfl

set_option maxRecDepth 100000 in
theorem door_met (os : Os) (args : Array Value) : laidMetH Tryd.prog laidL ((World.doorLaid Tryd.prog 400 os).forCall (fun _ _ => 0) ⟨#[], args, []⟩).memory :=
  laidMetH_of_parts3 (fuel := 8) (laidMet_of_run' 8 (by kernel_rfl) (by kernel_rfl)) (by kernel_rfl) (by kernel_rfl)

theorem tPow : (Tryd.prog.globals[1]?).map (·.type) = some 108 := by kernel_rfl
theorem uPow : Tryd.prog.underlying 108 = some (.array 20 86) := by kernel_rfl
theorem u68 : Tryd.prog.underlying 86 = some (.int .u64) := by kernel_rfl
theorem c68 : Tryd.prog.cellsOf 86 = 1 := by kernel_rfl
theorem cPow : Tryd.prog.cellsOf 108 = 20 := by kernel_rfl
theorem gErr : ∃ g, Tryd.prog.globalNamed "strconv.ErrRange" = some g ∧ (Tryd.prog.globals[g]?).map (·.type) = some 89 := ⟨3, by kernel_rfl, by kernel_rfl⟩
theorem u84 : Tryd.prog.underlying 89 = some (.interface #[("Error", 125)]) := by kernel_rfl
theorem pow_eq : Rows.laid_internal_strconv_uint64pow10 (H := Unit) = Lib.tabData .u64 Lib.pow10Tab := by kernel_rfl

set_option maxRecDepth 100000 in
/-- What the listed variables hold, as the walks want it. -/
theorem okW_of {W : World} (h : laidMetH Tryd.prog laidL W) (hsh : W.ShapedOpen Tryd.prog) : okW W := by
  rw [MakeChecks.laidMetH_plain _ _ _ (by kernel_rfl)] at h
  obtain ⟨ps, ⟨g0, t0, cs0, f0, p0, q0, hg0, ht0, hv0, hd0, ⟨g1, t1, cs1, f1, p1, q1, hg1, ht1, hv1, hd1, ⟨g2, t2, cs2, f2, p2, q2, hg2, ht2, hv2, hd2, ⟨g3, t3, cs3, f3, p3, q3, hg3, ht3, hv3, hd3, _, _⟩, _⟩, _⟩, _⟩, _, _⟩ := h
  refine ⟨?_, ?_, Tryd.laysM145.s1_3 W hsh⟩
  · obtain rfl := Option.some.inj (gPow.symm.trans hg2)
    obtain rfl := Option.some.inj (tPow.symm.trans ht2)
    rw [pow_eq] at hd2
    unfold Lib.TabIs
    rw [hv2, ← Lib.cells_of_tab uPow u68 c68 cPow hd2]
  · obtain ⟨g, hg, ht⟩ := gErr
    obtain rfl := Option.some.inj (hg.symm.trans hg3)
    obtain rfl := Option.some.inj (ht.symm.trans ht3)
    obtain ⟨f', u, v, e, _, _⟩ := iface_of_trod u84 hd3
    refine ⟨u, v, ?_⟩
    rw [hv3]
    congr 1
    apply Array.ext'
    simpa using e

section
variable {H : Type} {enc : TypeId × Value → H}

/-- A row with listed variables, its contract in a world of the right shape. -/
theorem returns_laid {a : Assume} {C : Checked} {os : Os} {f : FuncId} {fn : Func} {s : ChangeSpec} {conds : List PathCond} {apart fresh handsOn again : Bool} {X : World → Array Value → Prop}
    (hX : ∀ (w w' : World) (args : Array Value), w.heap = w'.heap → X w args → X w' args)
    (own : ownKnob C.prog.godebug = none) (started : os.Started) (noInit : C.prog.inits.idxOf? f = none) (hfn : C.prog.funcs[f]? = some fn)
    (witness : ∃ (w : World) (tape : Tape) (i : Input), w.os = os ∧ (w.forCall tape i).Shaped C.prog ∧ i.vars = [] ∧ Input.okWide C.prog (w.forCall tape i) .any w.heap.size f i ∧
      ((s.pre enc C.prog fn conds apart (w.forCall tape i).memory i.args ∧ X (w.forCall tape i).memory i.args) ∧ sizedMet enc C.prog fn (OpenSpec.ofChange s) apart (w.forCall tape i).memory i.args) ∧ a.holds C.prog (lone (Frame.enter C.prog f i.args .normal) [] (w.forCall tape i)))
    (contract : ∀ (W : World) (base : Nat) (args : Array Value) (ds gs : List (DataW H)) (before : List MemPlace),
      (∀ (j : Nat) t v, fn.params[j]? = some t → args[j]? = some v → Value.okWide C.prog W .any base t v) →
      DataW.Whole enc C.prog fn.params.toList s.vars apart W args.toList ds gs before → W.ShapedOpen C.prog → X W args →
      Calls C.prog f args W fun e W' => ∃ v, e = .returned v ∧ s.post enc C.prog fn apart fresh handsOn again W args v W') :
    ReturnsInHanded a C os f .any (fun w args => (s.pre enc C.prog fn conds apart w args ∧ X w args) ∧ sizedMet enc C.prog fn (OpenSpec.ofChange s) apart w args) (s.post enc C.prog fn apart fresh handsOn again) := by
  refine returnsInHanded_of_calls own started noInit witness ?_
  intro w tape i _ hsh _ hok hpre hholds
  obtain ⟨_, _, _, fn', hfn', _, _, _, _, hval⟩ := hok
  have e : fn' = fn := Option.some.inj (hfn'.symm.trans hfn)
  subst e
  obtain ⟨⟨⟨ds, gs, before, hw, hc⟩, hx⟩, hz⟩ := hpre
  have hw' := DataW.Whole.of_heap (w' := w.forCall tape i) (by rfl) hw
  refine (contract (w.forCall tape i) w.heap.size i.args ds gs before hval hw' hsh (hX _ _ _ (by rfl) hx)).mono fun e W' ⟨v, he, hp⟩ => ?_
  subst he
  exact ChangeSpec.post_blind hp

variable {w : World} {r : Reach} {b0 base : Nat} {spare : Nat → Bool} {held : Bool} {v : Value} {d : DataW H} {ps : List MemPlace}
theorem list_map {α : Type} {f : α → AV} {Q : α → Prop} : ∀ {es : List AV}, (∀ y ∈ es, ∃ b, Q b ∧ y = f b) → ∃ L : List α, es = L.map f ∧ ∀ b ∈ L, Q b
  | [], _ => ⟨[], rfl, by simp⟩
  | e :: es, h => by
    obtain ⟨b, hb, rfl⟩ := h e (List.mem_cons_self ..)
    obtain ⟨L, rfl, hL⟩ := list_map (es := es) fun y hy => h y (List.mem_cons_of_mem _ hy)
    exact ⟨b :: L, rfl, fun x hx => by rcases List.mem_cons.1 hx with rfl | hx; exact hb; exact hL x hx⟩
theorem c5 : Tryd.prog.cellsOf 5 = 1 := by kernel_rfl
set_option maxRecDepth 100000 in
theorem arg_bytes (hv : Value.okWide Tryd.prog w r b0 28 v) (hd : DataW.Trod enc Tryd.prog w base spare held 28 v d ps) : ∃ l : Bs, l.length ≤ 9223372036854775807 ∧ VR0 (imOf w) (bytesV l) v := by
  obtain ⟨x, hx, h⟩ := arg_slice false Tryd.underlying28 c5 (by decide) (fun _ => rfl) (reads_int Tryd.underlying5) hv hd
  rcases h with rfl | ⟨es, h1, h2, rfl⟩
  · cases hx; exact ⟨[], by simp, .sl0 1 none 0⟩
  · obtain ⟨L, rfl, _⟩ := list_map (f := u8) (Q := fun _ => True) (es := es) (fun y hy => by
      obtain ⟨l, ⟨n, hn, rfl⟩, rfl⟩ := h2 y hy
      have hn' : 0 ≤ n ∧ n < 256 := by
        simp only [Lit.wf, Bool.and_eq_true, decide_eq_true_eq] at hn
        simp only [IntKind.min, IntKind.max, IntKind.bits, IntKind.signed] at hn
        simp at hn
        omega
      refine ⟨UInt8.ofNat n.toNat, trivial, ?_⟩
      show AV.v (.int .u8 n) = u8 _
      have : ((UInt8.ofNat n.toNat).toNat : Int) = n := by simp; omega
      rw [u8_at, this])
    exact ⟨L, by unfold maxLen at h1; simpa using h1, hx⟩
theorem c23 : Tryd.prog.cellsOf 23 = 10 := by kernel_rfl
theorem c25 : Tryd.prog.cellsOf 25 = 18 := by kernel_rfl
set_option maxRecDepth 100000 in
theorem arg_msg (hv : Value.okWide Tryd.prog w r b0 25 v) (hd : DataW.Trod enc Tryd.prog w base spare held 25 v d ps) : ∃ m : Mg, mgOk m ∧ VR0 (imOf w) (mgV m) v := by
  obtain ⟨ls, h, hx⟩ := arg_struct Tryd.underlying25
    (reads_struct Tryd.underlying25 rfl c25 (readsF_cons (reads_int Tryd.underlying3) (by kernel_rfl) rfl (readsF_cons (reads_int Tryd.underlying2) (by kernel_rfl) rfl (readsF_cons (reads_int Tryd.underlying2) (by kernel_rfl) rfl (readsF_cons (reads_bool Tryd.underlying4) (by kernel_rfl) rfl
      (readsF_cons (reads_int Tryd.underlying2) (by kernel_rfl) rfl (readsF_cons (reads_int Tryd.underlying2) (by kernel_rfl) rfl (readsF_cons (reads_bool Tryd.underlying4) (by kernel_rfl) rfl (readsF_cons (reads_string Tryd.underlying9) (by kernel_rfl) rfl
      (readsF_cons (reads_struct Tryd.underlying23 rfl c23 (readsF_cons (reads_string Tryd.underlying9) (by kernel_rfl) rfl (readsF_cons (reads_string Tryd.underlying9) (by kernel_rfl) rfl (readsF_cons (reads_string Tryd.underlying9) (by kernel_rfl) rfl (readsF_cons (reads_string Tryd.underlying9) (by kernel_rfl) rfl (readsF_cons (reads_string Tryd.underlying9) (by kernel_rfl) rfl (readsF_cons (reads_int Tryd.underlying3) (by kernel_rfl) rfl (readsF_cons (reads_bool Tryd.underlying4) (by kernel_rfl) rfl (readsF_cons (reads_int Tryd.underlying2) (by kernel_rfl) rfl (readsF_cons (reads_int Tryd.underlying2) (by kernel_rfl) rfl (readsF_cons (reads_int Tryd.underlying2) (by kernel_rfl) rfl (readsF_nil 10)))))))))))) (by kernel_rfl) rfl (readsF_nil 18))))))))))) hv hd
  obtain ⟨_, _, ⟨n1, _, rfl⟩, ⟨_, _, ⟨n2, _, rfl⟩, ⟨_, _, ⟨n3, _, rfl⟩, ⟨_, _, ⟨b4, rfl⟩, ⟨_, _, ⟨n5, _, rfl⟩, ⟨_, _, ⟨n6, _, rfl⟩, ⟨_, _, ⟨b7, rfl⟩, ⟨_, _, ⟨s8, k8, rfl⟩, ⟨_, _, ⟨_, _, ⟨s1, k1, rfl⟩, ⟨_, _, ⟨s2, k2, rfl⟩, ⟨_, _, ⟨s3, k3, rfl⟩, ⟨_, _, ⟨s4, k4, rfl⟩, ⟨_, _, ⟨s5, k5, rfl⟩, ⟨_, _, ⟨x6, _, rfl⟩, ⟨_, _, ⟨x7, rfl⟩, ⟨_, _, ⟨x8, _, rfl⟩, ⟨_, _, ⟨x9, _, rfl⟩, ⟨_, _, ⟨x10, _, rfl⟩, rfl, rfl⟩, rfl⟩, rfl⟩, rfl⟩, rfl⟩, rfl⟩, rfl⟩, rfl⟩, rfl⟩, rfl⟩, rfl, rfl⟩, rfl⟩, rfl⟩, rfl⟩, rfl⟩, rfl⟩, rfl⟩, rfl⟩, rfl⟩ := h
  unfold maxLen at k8 k1 k2 k3 k4 k5
  exact ⟨⟨n1, n2, n3, b4, n5, n6, b7, s8, ⟨s1, s2, s3, s4, s5, x6, x7, x8, x9, x10⟩⟩, ⟨k8, k1, k2, k3, k4, k5⟩, hx⟩
end
end Go.Proofs.YtobaignbahnjbaaDoor
