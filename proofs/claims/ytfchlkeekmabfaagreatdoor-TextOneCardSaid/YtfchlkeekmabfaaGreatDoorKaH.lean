/- Texts of one chain, put together (N13, RwOne). -/
import Derived.Test.YtfchlkeekmabfaaGreatDoorRows
import Derived.Test.YtfchlkeekmabfaaGreatDoorKaE
import Derived.Test.YtfchlkeekmabfaaGreatDoorKaG
import Derived.ProofKit
import Derived.LaidMore
import Derived.OpenShut
import Derived.Stop.Joined
import Derived.HandedShaped
import Derived.Lib.SmallJoins
import Derived.Lay
import Derived.Test.YtfchlkeekmabfaaGreatDoorCards
import Derived.Test.YtfchlkeekmabfaaGreatDoorTie
import Derived.SevenTiedAt
section
/- From a law's contract to its row: what is read at the start, and what the listed variables hold. -/
namespace Go.Proofs.YtfchlkeekmabfaaGreatDoor
open Go.ChangeShapes Go.WideShapes Go.ChangeAt Go.RowKit Go.Joins Go.Abs Go.Fld Go.Msg Go.Txt
set_option linter.unusedVariables false
set_option linter.unusedSimpArgs false

theorem own : ownKnob Tryz.prog.godebug = none := by kernel_rfl
theorem laidOut : laidOutB Tryz.prog = true := by kernel_rfl
abbrev laidL : List (String × DataW Unit) := [("math/bits.deBruijn32tab", Rows.laid_math_bits_deBruijn32tab), ("math/bits.deBruijn64tab", Rows.laid_math_bits_deBruijn64tab), ("internal/strconv.uint64pow10", Rows.laid_internal_strconv_uint64pow10), ("unicode/utf8.acceptRanges", Rows.laid_unicode_utf8_acceptRanges), ("strconv.ErrRange", Rows.laid_strconv_ErrRange), ("strconv.ErrSyntax", Rows.laid_strconv_ErrSyntax), ("checkroll/text.asks", Rows.laid_checkroll_text_asks), ("checkroll/text.execs", Rows.laid_checkroll_text_execs), ("unicode/utf8.first", Rows.laid_unicode_utf8_first)]
theorem gPow : Tryz.prog.globalNamed "internal/strconv.uint64pow10" = some 5 := by kernel_rfl

set_option maxRecDepth 100000 in
theorem door_met (os : Os) (args : Array Value) : laidMetH Tryz.prog laidL ((World.laidAll Tryz.prog os laidL).forCall (fun _ _ => 0) ⟨#[], args, []⟩).memory := by
  rw [MakeChecks.laidMetH_plain _ _ _ (by kernel_rfl)]; exact laidMet_laidAll _ (by kernel_rfl) (by kernel_rfl)

theorem tPow : (Tryz.prog.globals[5]?).map (·.type) = some 152 := by kernel_rfl
theorem uPow : Tryz.prog.underlying 152 = some (.array 20 116) := by kernel_rfl
theorem u68 : Tryz.prog.underlying 116 = some (.int .u64) := by kernel_rfl
theorem c68 : Tryz.prog.cellsOf 116 = 1 := by kernel_rfl
theorem cPow : Tryz.prog.cellsOf 152 = 20 := by kernel_rfl
theorem gErr : ∃ g, Tryz.prog.globalNamed "strconv.ErrRange" = some g ∧ (Tryz.prog.globals[g]?).map (·.type) = some 87 := ⟨7, by kernel_rfl, by kernel_rfl⟩
theorem u84 : Tryz.prog.underlying 87 = some (.interface #[("Error", 72)]) := by kernel_rfl
theorem pow_eq : Rows.laid_internal_strconv_uint64pow10 (H := Unit) = Lib.tabData .u64 Lib.pow10Tab := by kernel_rfl

theorem gAsks : Tryz.prog.globalNamed "checkroll/text.asks" = some 0 := by kernel_rfl
theorem gExecs : Tryz.prog.globalNamed "checkroll/text.execs" = some 1 := by kernel_rfl
theorem tAsks : (Tryz.prog.globals[0]?).map (·.type) = some 63 := by kernel_rfl
theorem tExecs : (Tryz.prog.globals[1]?).map (·.type) = some 63 := by kernel_rfl
theorem uTab : Tryz.prog.underlying 63 = some (.array 9 9) := by kernel_rfl
theorem uStr : Tryz.prog.underlying 9 = some .string := by kernel_rfl
theorem cStr : Tryz.prog.cellsOf 9 = 1 := by kernel_rfl
theorem cTab : Tryz.prog.cellsOf 63 = 9 := by kernel_rfl
def wordData {H : Type} (zs : List (List UInt8)) : DataW H := .agg (zs.map fun z => .lit (.string z))
theorem cells_of_words {H : Type} {enc : TypeId × Value → H} {P : Program} {w : World} {base : Nat} {sp : Nat → Bool} {held : Bool} {fuel : Nat} {t e : TypeId} {n : Nat} {cs : List Value} {zs : List (List UInt8)} {p : List MemPlace}
    (ht : P.underlying t = some (.array n e)) (he : P.underlying e = some .string) (hce : P.cellsOf e = 1) (hct : P.cellsOf t = n)
    (h : DataW.trod enc P w base sp held fuel t cs = some (wordData zs, p)) : cs = zs.map fun z => Value.string ⟨z.toArray⟩ := by
  cases fuel with
  | zero => simp [DataW.trod] at h
  | succ fuel =>
    simp only [DataW.trod, ht, hce, hct, Nat.mul_one] at h
    split at h
    · rename_i hl
      obtain ⟨xs, hm, hx⟩ := Option.map_eq_some_iff.1 h
      have hxs : xs.map (·.1) = zs.map fun z => (DataW.lit (.string z) : DataW H) := by
        have := congrArg Prod.fst hx
        simpa [wordData] using this
      have hxl : xs.length = n := by simpa using Lib.mapM_length hm
      have hzl : zs.length = n := by
        have := congrArg List.length hxs
        simp at this
        omega
      apply List.ext_getElem?
      intro i
      by_cases hi : i < n
      · obtain ⟨b, hb, hf⟩ := Lib.mapM_at hm i i (by simp [hi])
        obtain ⟨z, hc, rfl, _⟩ := DataW.trod_string he hf
        have h1 : cs[i]? = some (.string z) := by
          have := congrArg (·[0]?) hc
          simpa [List.getElem?_take, List.getElem?_drop] using this
        have h2 : (xs.map (·.1))[i]? = some (DataW.lit (.string z.data.toList) : DataW H) := by simp [hb]
        rw [hxs] at h2
        simp only [List.getElem?_map, Option.map_eq_some_iff, DataW.lit.injEq, Lit.string.injEq] at h2
        obtain ⟨z', hz', he'⟩ := h2
        rw [h1, List.getElem?_map, hz', he']; simp
      · rw [List.getElem?_eq_none (by omega), List.getElem?_eq_none (by simp; omega)]
    · cases h
theorem asks_eq : Rows.laid_checkroll_text_asks (H := Unit) = wordData Txt.askN := by kernel_rfl
theorem execs_eq : Rows.laid_checkroll_text_execs (H := Unit) = wordData Txt.exN := by kernel_rfl
theorem holds_of {w : World} {g : Nat} {n : String} {zs : List (List UInt8)} (hg : Tryz.prog.globalNamed n = some g) (h : w.var? Tryz.prog n = some (zs.map fun z => Value.string ⟨z.toArray⟩).toArray) : holdsW w g zs := by
  intro j s hs
  unfold World.var? at h
  simp only [hg, Option.bind_some] at h
  split at h
  · rename_i cells ty fr hh
    simp only [Option.some.injEq] at h
    subst h
    simp only [World.cell?, hh, Option.isSome_none, Bool.false_eq_true, if_false]
    simp [hs]
  · cases h
set_option maxRecDepth 100000 in
/-- What the listed variables hold, as the walks want it. -/
theorem okW_of {W : World} (h : laidMetH Tryz.prog laidL W) (hsh : W.ShapedOpen Tryz.prog) : okW W := by
  rw [MakeChecks.laidMetH_plain _ _ _ (by kernel_rfl)] at h
  obtain ⟨ps, ⟨g0, t0, cs0, f0, p0, q0, hg0, ht0, hv0, hd0, ⟨g1, t1, cs1, f1, p1, q1, hg1, ht1, hv1, hd1, ⟨g2, t2, cs2, f2, p2, q2, hg2, ht2, hv2, hd2, ⟨g3, t3, cs3, f3, p3, q3, hg3, ht3, hv3, hd3, ⟨g4, t4, cs4, f4, p4, q4, hg4, ht4, hv4, hd4, ⟨g5, t5, cs5, f5, p5, q5, hg5, ht5, hv5, hd5, ⟨g6, t6, cs6, f6, p6, q6, hg6, ht6, hv6, hd6, ⟨g7, t7, cs7, f7, p7, q7, hg7, ht7, hv7, hd7, _, _⟩, _⟩, _⟩, _⟩, _⟩, _⟩, _⟩, _⟩, _, _⟩ := h
  refine ⟨⟨?_, ?_, Tryz.laysM146.s1_3 W hsh⟩, ?_, ?_⟩
  · obtain rfl := Option.some.inj (gPow.symm.trans hg2)
    obtain rfl := Option.some.inj (tPow.symm.trans ht2)
    rw [pow_eq] at hd2
    unfold Lib.TabIs
    rw [hv2, ← Lib.cells_of_tab uPow u68 c68 cPow hd2]
  · obtain ⟨g, hg, ht⟩ := gErr
    obtain rfl := Option.some.inj (hg.symm.trans hg4)
    obtain rfl := Option.some.inj (ht.symm.trans ht4)
    obtain ⟨f', u, v, e, _, _⟩ := iface_of_trod u84 hd4
    refine ⟨u, v, ?_⟩
    rw [hv4]
    congr 1
    apply Array.ext'
    simpa using e
  · obtain rfl := Option.some.inj (gAsks.symm.trans hg6)
    obtain rfl := Option.some.inj (tAsks.symm.trans ht6)
    rw [asks_eq] at hd6
    exact holds_of gAsks (by rw [hv6, ← cells_of_words uTab uStr cStr cTab hd6])
  · obtain rfl := Option.some.inj (gExecs.symm.trans hg7)
    obtain rfl := Option.some.inj (tExecs.symm.trans ht7)
    rw [execs_eq] at hd7
    exact holds_of gExecs (by rw [hv7, ← cells_of_words uTab uStr cStr cTab hd7])

section
variable {H : Type} {enc : TypeId × Value → H}

/-- A row with listed variables, its contract in a world of the right shape. -/
theorem returns_laid {a : Assume} {C : Checked} {os : Os} {f : FuncId} {fn : Func} {s : ChangeSpec} {conds : List PathCond} {apart fresh handsOn again : Bool} {X : World → Array Value → Prop}
    (hX : ∀ (w w' : World) (args : Array Value), w.heap = w'.heap → X w args → X w' args)
    (own : ownKnob C.prog.godebug = none) (started : os.Started) (noInit : C.prog.inits.idxOf? f = none) (hfn : C.prog.funcs[f]? = some fn)
    (witness : ∃ (w : World) (tape : Tape) (i : Input), w.os = os ∧ (w.forCall tape i).Shaped C.prog ∧ i.vars = [] ∧ Input.okWide C.prog (w.forCall tape i) .any w.heap.size f i ∧
      ((s.pre enc C.prog fn conds apart (w.forCall tape i).memory i.args ∧ X (w.forCall tape i).memory i.args) ∧ sizedMet enc C.prog fn (OpenSpec.ofChange s) apart (w.forCall tape i).memory i.args) ∧ a.holds C.prog (lone (Frame.enter C.prog f i.args .normal) [] (w.forCall tape i)))
    (contract : ∀ (W : World) (base : Nat) (args : Array Value) (ds gs : List (DataW H)) (before : List MemPlace),
      (∀ (j : Nat) t v, fn.params[j]? = some t → args[j]? = some v → Value.okWide C.prog W .any base t v) →
      DataW.Whole enc C.prog fn.params.toList s.vars apart W args.toList ds gs before → W.ShapedOpen C.prog → X W args →
      Calls C.prog f args W fun e W' => ∃ v, e = .returned v ∧ s.post enc C.prog fn apart fresh handsOn again W args v W') :
    ReturnsInHanded a C os f .any (fun w args => (s.pre enc C.prog fn conds apart w args ∧ X w args) ∧ sizedMet enc C.prog fn (OpenSpec.ofChange s) apart w args) (s.post enc C.prog fn apart fresh handsOn again) := by
  refine returnsInHanded_of_calls own started noInit witness ?_
  intro w tape i _ hsh _ hok hpre hholds
  obtain ⟨_, _, _, fn', hfn', _, _, _, _, hval⟩ := hok
  have e : fn' = fn := Option.some.inj (hfn'.symm.trans hfn)
  subst e
  obtain ⟨⟨⟨ds, gs, before, hw, hc⟩, hx⟩, hz⟩ := hpre
  have hw' := DataW.Whole.of_heap (w' := w.forCall tape i) (by rfl) hw
  refine (contract (w.forCall tape i) w.heap.size i.args ds gs before hval hw' hsh (hX _ _ _ (by rfl) hx)).mono fun e W' ⟨v, he, hp⟩ => ?_
  subst he
  exact ChangeSpec.post_blind hp

variable {w : World} {r : Reach} {b0 base : Nat} {spare : Nat → Bool} {held : Bool} {v : Value} {d : DataW H} {ps : List MemPlace}
theorem c23 : Tryz.prog.cellsOf 23 = 8 := by kernel_rfl
theorem c25 : Tryz.prog.cellsOf 25 = 10 := by kernel_rfl
theorem c27 : Tryz.prog.cellsOf 27 = 6 := by kernel_rfl
theorem c29 : Tryz.prog.cellsOf 29 = 29 := by kernel_rfl
set_option maxRecDepth 100000 in
theorem arg_ask (hv : Value.okWide Tryz.prog w r b0 29 v) (hd : DataW.Trod enc Tryz.prog w base spare held 29 v d ps) : ∃ a : Ak, akOk a ∧ VR0 (imOf w) (akV a) v := by
  obtain ⟨ls, h, hx⟩ := arg_struct Tryz.underlying29
    (reads_struct Tryz.underlying29 rfl c29 (readsF_cons (reads_int Tryz.underlying3) (by kernel_rfl) rfl (readsF_cons (reads_int Tryz.underlying3) (by kernel_rfl) rfl (readsF_cons (reads_struct Tryz.underlying23 rfl c23 (readsF_cons (reads_string Tryz.underlying9) (by kernel_rfl) rfl (readsF_cons (reads_string Tryz.underlying9) (by kernel_rfl) rfl (readsF_cons (reads_string Tryz.underlying9) (by kernel_rfl) rfl (readsF_cons (reads_bool Tryz.underlying4) (by kernel_rfl) rfl (readsF_cons (reads_int Tryz.underlying2) (by kernel_rfl) rfl (readsF_cons (reads_int Tryz.underlying2) (by kernel_rfl) rfl (readsF_cons (reads_int Tryz.underlying2) (by kernel_rfl) rfl (readsF_cons (reads_bool Tryz.underlying4) (by kernel_rfl) rfl (readsF_nil 8)))))))))) (by kernel_rfl) rfl (readsF_cons (reads_string Tryz.underlying9) (by kernel_rfl) rfl (readsF_cons (reads_struct Tryz.underlying25 rfl c25 (readsF_cons (reads_string Tryz.underlying9) (by kernel_rfl) rfl (readsF_cons (reads_string Tryz.underlying9) (by kernel_rfl) rfl (readsF_cons (reads_string Tryz.underlying9) (by kernel_rfl) rfl (readsF_cons (reads_string Tryz.underlying9) (by kernel_rfl) rfl (readsF_cons (reads_string Tryz.underlying9) (by kernel_rfl) rfl (readsF_cons (reads_int Tryz.underlying3) (by kernel_rfl) rfl (readsF_cons (reads_bool Tryz.underlying4) (by kernel_rfl) rfl (readsF_cons (reads_int Tryz.underlying2) (by kernel_rfl) rfl (readsF_cons (reads_int Tryz.underlying2) (by kernel_rfl) rfl (readsF_cons (reads_int Tryz.underlying2) (by kernel_rfl) rfl (readsF_nil 10)))))))))))) (by kernel_rfl) rfl (readsF_cons (reads_int Tryz.underlying2) (by kernel_rfl) rfl (readsF_cons (reads_bool Tryz.underlying4) (by kernel_rfl) rfl (readsF_cons (reads_struct Tryz.underlying27 rfl c27 (readsF_cons (reads_string Tryz.underlying9) (by kernel_rfl) rfl (readsF_cons (reads_string Tryz.underlying9) (by kernel_rfl) rfl (readsF_cons (reads_int Tryz.underlying2) (by kernel_rfl) rfl (readsF_cons (reads_int Tryz.underlying2) (by kernel_rfl) rfl (readsF_cons (reads_int Tryz.underlying2) (by kernel_rfl) rfl (readsF_cons (reads_int Tryz.underlying2) (by kernel_rfl) rfl (readsF_nil 6)))))))) (by kernel_rfl) rfl (readsF_nil 29)))))))))) hv hd
  obtain ⟨_, _, ⟨k, _, rfl⟩, ⟨_, _, ⟨vn, _, rfl⟩, ⟨_, _, ⟨_, _, ⟨s1, hs1, rfl⟩, ⟨_, _, ⟨s2, hs2, rfl⟩, ⟨_, _, ⟨s3, hs3, rfl⟩, ⟨_, _, ⟨b4, rfl⟩, ⟨_, _, ⟨n5, _, rfl⟩, ⟨_, _, ⟨n6, _, rfl⟩, ⟨_, _, ⟨n7, _, rfl⟩, ⟨_, _, ⟨b8, rfl⟩, rfl, rfl⟩, rfl⟩, rfl⟩, rfl⟩, rfl⟩, rfl⟩, rfl⟩, rfl⟩, ⟨_, _, ⟨d1, hd1, rfl⟩, ⟨_, _, ⟨_, _, ⟨x1, hx1, rfl⟩, ⟨_, _, ⟨x2, hx2, rfl⟩, ⟨_, _, ⟨x3, hx3, rfl⟩, ⟨_, _, ⟨x4, hx4, rfl⟩, ⟨_, _, ⟨x5, hx5, rfl⟩, ⟨_, _, ⟨x6, _, rfl⟩, ⟨_, _, ⟨x7, rfl⟩, ⟨_, _, ⟨x8, _, rfl⟩, ⟨_, _, ⟨x9, _, rfl⟩, ⟨_, _, ⟨x10, _, rfl⟩, rfl, rfl⟩, rfl⟩, rfl⟩, rfl⟩, rfl⟩, rfl⟩, rfl⟩, rfl⟩, rfl⟩, rfl⟩, ⟨_, _, ⟨w0, _, rfl⟩, ⟨_, _, ⟨o, rfl⟩, ⟨_, _, ⟨_, _, ⟨l1, hl1, rfl⟩, ⟨_, _, ⟨l2, hl2, rfl⟩, ⟨_, _, ⟨l3, _, rfl⟩, ⟨_, _, ⟨l4, _, rfl⟩, ⟨_, _, ⟨l5, _, rfl⟩, ⟨_, _, ⟨l6, _, rfl⟩, rfl, rfl⟩, rfl⟩, rfl⟩, rfl⟩, rfl⟩, rfl⟩, rfl, rfl⟩, rfl⟩, rfl⟩, rfl⟩, rfl⟩, rfl⟩, rfl⟩, rfl⟩ := h
  unfold maxLen at hs1 hs2 hs3 hd1 hx1 hx2 hx3 hx4 hx5 hl1 hl2
  exact ⟨⟨k, vn, ⟨s1, s2, s3, b4, n5, n6, n7, b8⟩, d1, ⟨x1, x2, x3, x4, x5, x6, x7, x8, x9, x10⟩, w0, o, ⟨l1, l2, l3, l4, l5, l6⟩⟩, ⟨hs1, hs2, hs3, hd1, hl1, hl2, hx1, hx2, hx3, hx4, hx5⟩, hx⟩
end
end Go.Proofs.YtfchlkeekmabfaaGreatDoor
end
section
/- TextOne: a line with a blank more, ahead, behind, or between, is none: the law answers true for every input, and what came in reads as it did. The listed variables hold what the program and the library lay; no other condition. -/
namespace Go.Proofs.YtfchlkeekmabfaaGreatDoor
open Go.ChangeShapes Go.WideShapes Go.ChangeAt Go.RowKit Go.Joins Go.Abs Go.Fld Go.Msg Go.Txt
set_option linter.unusedVariables false
set_option linter.unusedSimpArgs false

theorem gok {W : World} (h : okW W) : GOK E (imOf W) := by
  have key : ∀ (g : Nat) (l : List (List UInt8)), holdsW W g l → VR0 (imOf W) (.rptr (tabV l)) (.pointer (some ⟨g, 0, none⟩)) := fun g l hl => by
    have hat : ∀ (j : Nat) (c : AV), (tabV l)[j]? = some c → ∃ s, l[j]? = some s ∧ c = str s := fun j c hc => by
      unfold tabV at hc
      rw [List.getElem?_map] at hc
      cases hs : l[j]? with
      | none => simp [hs] at hc
      | some s => simp only [hs, Option.map_some, Option.some.injEq] at hc; exact ⟨s, rfl, hc.symm⟩
    refine .rptr (tabV l) g 0 (fun j => .string ⟨(l.getD j []).toArray⟩) (fun j c hc => ?_) (fun j c hc => rfl) (fun j c hc => ?_)
    · obtain ⟨s, hs, rfl⟩ := hat j c hc
      show W.cell? ⟨g, 0 + j, none⟩ = _
      rw [Nat.zero_add, hl j s hs, List.getD_eq_getElem?_getD, hs]; rfl
    · obtain ⟨s, hs, rfl⟩ := hat j c hc
      rw [List.getD_eq_getElem?_getD, hs]; exact .v _
  intro g cs e
  match g, e with
  | 0, e => cases e; exact key 0 _ h.2.1
  | 1, e => cases e; exact key 1 _ h.2.2

set_option maxRecDepth 100000 in
theorem textOne_lifted (os : Os) (started : os.Started) (H : Type) (enc : TypeId × Value → H) :
    ReturnsInHanded {} Tryz.checked os 3 .any (fun w args => (Rows.textOneSpec.pre enc Tryz.prog Tryz.f3 [] false w args ∧ laidMetH Tryz.prog laidL w) ∧ sizedMet enc Tryz.prog Tryz.f3 (OpenSpec.ofChange Rows.textOneSpec) false w args) (Rows.textOneSpec.post enc Tryz.prog Tryz.f3 false true false false) := by
  refine returns_laid (C := Tryz.checked) (X := fun w _ => laidMetH Tryz.prog laidL w) (fun _ _ _ hh h => h.of_heap hh) own started (by kernel_rfl) Tryz.func3
    (ChangeSpec.witness_shaped (enc := enc) (C := Tryz.checked) (os := os) (X := fun w _ => laidMetH Tryz.prog laidL w) false (World.laidAll Tryz.prog os laidL) #[.agg #[.int .i64 0, .int .i64 0, .string ⟨#[]⟩, .string ⟨#[]⟩, .string ⟨#[]⟩, .bool false, .int .i64 0, .int .i64 0, .int .i64 0, .bool false, .string ⟨#[]⟩, .string ⟨#[]⟩, .string ⟨#[]⟩, .string ⟨#[]⟩, .string ⟨#[]⟩, .string ⟨#[]⟩, .int .i64 0, .bool false, .int .i64 0, .int .i64 0, .int .i64 0, .int .i64 0, .bool false, .string ⟨#[]⟩, .string ⟨#[]⟩, .int .i64 0, .int .i64 0, .int .i64 0, .int .i64 0], .int .u16 0] 8 (World.laidAll_os _ _ _) (World.shaped_of_ZipB (by kernel_rfl) (by kernel_rfl)) (by kernel_rfl) (by kernel_rfl) (by kernel_rfl) (door_met os _)) ?_
  intro W base args ds gs before hval0 hW hsh hL
  have hval : ∀ (j : Nat) t v, Tryz.f3.params[j]? = some t → args[j]? = some v → Value.okWide Tryz.prog W .any base t v := hval0
  have hW' := hW
  obtain ⟨p, q, hA0, hV, rfl, hfz, hnd⟩ := hW
  have hA : DataW.TrodAll enc Tryz.prog W 0 (fun _ => true) true Tryz.f3.params.toList args.toList ds p := hA0
  rw [Tryz.params3] at hA hval
  obtain ⟨rfl, rfl⟩ := trodVars_none hV
  obtain ⟨v0, vs0, d0, ds0, p0, q0, e0, rfl, rfl, h0, hA⟩ := trodAll_cons hA
  obtain ⟨v1, vs1, d1, ds1, p1, q1, rfl, rfl, rfl, h1, hA⟩ := trodAll_cons hA
  obtain ⟨rfl, rfl, rfl⟩ := trodAll_nil hA
  have hargs : args = #[v0, v1] := by apply Array.ext'; simpa using e0
  subst hargs
  obtain ⟨a, ha, x0⟩ := arg_ask (hval 0 29 v0 rfl rfl) h0
  obtain ⟨z, hz, x1⟩ := arg_int Tryz.underlying30 (hval 1 30 v1 rfl rfl) h1
  simp only [Lit.wf, Bool.and_eq_true, decide_eq_true_eq, IntKind.min, IntKind.max, IntKind.bits, IntKind.signed] at hz; simp at hz
  exact (calls_law (E := E) (okW_of hL hsh) (gok (okW_of hL hsh)) (textOne_c a z (by omega) (by omega)) (pw0_cons x0 (pw0_cons x1 pw0_nil))).mono fun e W' ⟨he, hB⟩ => ⟨_, he, law_post laidOut (by kernel_rfl) rfl rfl Tryz.underlying4 hW' hB rfl⟩

theorem textOne_holds : Rows.TextOneSaid :=
  OpenClaim.holds_of_wide 3 Tryz.f3 rfl rfl rfl rfl rfl rfl rfl ⟨rfl, rfl, rfl, rfl, rfl⟩ rfl rfl rfl rfl rfl (by kernel_rfl) Tryz.func3 (by kernel_rfl)
    (of_decide_eq_true (by kernel_rfl)) (by unfold Func.isWrapper; first | (rw [if_pos (by decide +kernel)]; kernel_rfl) | (rw [if_neg (by decide +kernel)]; exact ⟨rfl, rfl⟩))
    (fun os started H enc _ => textOne_lifted os started H enc)

set_option maxRecDepth 100000 in
theorem textOne_card : Rows.TextOneCardSaid :=
  Claim7.holds_tied_plain_at .later [] [.data, .data, .data, .data, .sentinel, .sentinel, .data, .data, .pinned] true (true, "e9e77cef7782c8c4fe2c423f056a3a65f95ba1be73d2faea356b27390c8f042a") true
    textOne_holds (fun _ h => by cases h) (by kernel_rfl) (fun _ h => by cases h) textOne_row_tie rfl ⟨rfl, rfl⟩ (by kernel_rfl) rfl
    (fun f fn hf hfn => by
      obtain rfl : f = 3 := Option.some.inj ((show Tryz.prog.funcNamed "checkroll/checkrolllaw23.TextOne" = some 3 by kernel_rfl).symm.trans hf) |>.symm
      obtain rfl : fn = Tryz.f3 := (Option.some.inj (Tryz.func3.symm.trans hfn)).symm
      exact ⟨by kernel_rfl, fun j t ht => by
        rw [Tryz.params3] at ht
        have hm : t ∈ [29, 30] := by simpa using Array.mem_of_getElem? ht
        have hall : ([29, 30].all fun u => !Tryz.prog.wantsStandIn u) = true := by kernel_rfl
        exact (show Tryz.prog.wantsStandIn t = false by simpa using List.all_eq_true.1 hall t hm)⟩)
    (by kernel_rfl)
end Go.Proofs.YtfchlkeekmabfaaGreatDoor
end
