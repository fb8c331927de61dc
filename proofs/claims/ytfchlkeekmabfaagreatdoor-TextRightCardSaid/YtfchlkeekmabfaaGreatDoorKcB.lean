/- Texts of one chain, put together (RwRight). -/
import Derived.Test.YtfchlkeekmabfaaGreatDoorKbA
import Derived.Test.YtfchlkeekmabfaaGreatDoorKcA
import Derived.Test.YtfchlkeekmabfaaGreatDoorCards
import Derived.Test.YtfchlkeekmabfaaGreatDoorTie
import Derived.SevenTiedAt
section
/- TextRight: anything that is asked is shown as the document's line, or refused as it says; any line, and any text line by line, is read as the document says, or has its error at its row: the law answers true for every input, and what came in reads as it did. The listed variables (asks, execs, the tables and errors of the library) lie as the row lists them. -/
namespace Go.Proofs.YtfchlkeekmabfaaGreatDoor
open Go.ChangeShapes Go.WideShapes Go.ChangeAt Go.RowKit Go.Joins Go.Abs Go.Fld Go.Msg Go.Txt
set_option linter.unusedVariables false
set_option linter.unusedSimpArgs false

theorem gok {W : World} (h : okW W) : GOK E (imOf W) := by
  have key : ∀ (g : Nat) (l : List (List UInt8)), holdsW W g l → VR0 (imOf W) (.rptr (tabV l)) (.pointer (some ⟨g, 0, none⟩)) := fun g l hl => by
    have hat : ∀ (j : Nat) (c : AV), (tabV l)[j]? = some c → ∃ s, l[j]? = some s ∧ c = str s := fun j c hc => by
      unfold tabV at hc
      rw [List.getElem?_map] at hc
      cases hs : l[j]? with
      | none => simp [hs] at hc
      | some s => simp only [hs, Option.map_some, Option.some.injEq] at hc; exact ⟨s, rfl, hc.symm⟩
    refine .rptr (tabV l) g 0 (fun j => .string ⟨(l.getD j []).toArray⟩) (fun j c hc => ?_) (fun j c hc => rfl) (fun j c hc => ?_)
    · obtain ⟨s, hs, rfl⟩ := hat j c hc
      show W.cell? ⟨g, 0 + j, none⟩ = _
      rw [Nat.zero_add, hl j s hs, List.getD_eq_getElem?_getD, hs]; rfl
    · obtain ⟨s, hs, rfl⟩ := hat j c hc
      rw [List.getD_eq_getElem?_getD, hs]; exact .v _
  intro g cs e
  match g, e with
  | 0, e => cases e; exact key 0 _ h.2.1
  | 1, e => cases e; exact key 1 _ h.2.2

set_option maxRecDepth 100000 in
theorem textRight_lifted (os : Os) (started : os.Started) (H : Type) (enc : TypeId × Value → H) :
    ReturnsInHanded {} Tryz.checked os 4 .any (fun w args => (Rows.textRightSpec.pre enc Tryz.prog Tryz.f4 [] false w args ∧ laidMetH Tryz.prog laidL w) ∧ sizedMet enc Tryz.prog Tryz.f4 (OpenSpec.ofChange Rows.textRightSpec) false w args) (Rows.textRightSpec.post enc Tryz.prog Tryz.f4 false true false false) := by
  refine returns_laid (C := Tryz.checked) (X := fun w _ => laidMetH Tryz.prog laidL w) (fun _ _ _ hh h => h.of_heap hh) own started (by kernel_rfl) Tryz.func4
    (ChangeSpec.witness_shaped (enc := enc) (C := Tryz.checked) (os := os) (X := fun w _ => laidMetH Tryz.prog laidL w) false (World.laidAll Tryz.prog os laidL) #[.agg #[.int .i64 0, .int .i64 0, .string ⟨#[]⟩, .string ⟨#[]⟩, .string ⟨#[]⟩, .bool false, .int .i64 0, .int .i64 0, .int .i64 0, .bool false, .string ⟨#[]⟩, .string ⟨#[]⟩, .string ⟨#[]⟩, .string ⟨#[]⟩, .string ⟨#[]⟩, .string ⟨#[]⟩, .int .i64 0, .bool false, .int .i64 0, .int .i64 0, .int .i64 0, .int .i64 0, .bool false, .string ⟨#[]⟩, .string ⟨#[]⟩, .int .i64 0, .int .i64 0, .int .i64 0, .int .i64 0], .string ⟨#[]⟩, .string ⟨#[]⟩] 8 (World.laidAll_os _ _ _) (World.shaped_of_ZipB (by kernel_rfl) (by kernel_rfl)) (by kernel_rfl) (by kernel_rfl) (by kernel_rfl) (door_met os _)) ?_
  intro W base args ds gs before hval0 hW hsh hL
  have hval : ∀ (j : Nat) t v, Tryz.f4.params[j]? = some t → args[j]? = some v → Value.okWide Tryz.prog W .any base t v := hval0
  have hW' := hW
  obtain ⟨p, q, hA0, hV, rfl, hfz, hnd⟩ := hW
  have hA : DataW.TrodAll enc Tryz.prog W 0 (fun _ => true) true Tryz.f4.params.toList args.toList ds p := hA0
  rw [Tryz.params4] at hA hval
  obtain ⟨rfl, rfl⟩ := trodVars_none hV
  obtain ⟨v0, vs0, d0, ds0, p0, q0, e0, rfl, rfl, h0, hA⟩ := trodAll_cons hA
  obtain ⟨v1, vs1, d1, ds1, p1, q1, rfl, rfl, rfl, h1, hA⟩ := trodAll_cons hA
  obtain ⟨v2, vs2, d2, ds2, p2, q2, rfl, rfl, rfl, h2, hA⟩ := trodAll_cons hA
  obtain ⟨rfl, rfl, rfl⟩ := trodAll_nil hA
  have hargs : args = #[v0, v1, v2] := by apply Array.ext'; simpa using e0
  subst hargs
  obtain ⟨a, ha, x0⟩ := arg_ask (hval 0 29 v0 rfl rfl) h0
  obtain ⟨l, hl, x1⟩ := arg_string Tryz.underlying9 (hval 1 9 v1 rfl rfl) h1
  unfold maxLen at hl
  obtain ⟨k, hk, x2⟩ := arg_string Tryz.underlying9 (hval 2 9 v2 rfl rfl) h2
  unfold maxLen at hk
  exact (calls_law (E := E) (okW_of hL hsh) (gok (okW_of hL hsh)) (textRight_c a l k ha) (pw0_cons x0 (pw0_cons x1 (pw0_cons x2 pw0_nil)))).mono fun e W' ⟨he, hB⟩ => ⟨_, he, law_post laidOut (by kernel_rfl) rfl rfl Tryz.underlying4 hW' hB rfl⟩

theorem textRight_holds : Rows.TextRightSaid :=
  OpenClaim.holds_of_wide 4 Tryz.f4 rfl rfl rfl rfl rfl rfl rfl ⟨rfl, rfl, rfl, rfl, rfl⟩ rfl rfl rfl rfl rfl (by kernel_rfl) Tryz.func4 (by kernel_rfl)
    (of_decide_eq_true (by kernel_rfl)) (by unfold Func.isWrapper; first | (rw [if_pos (by decide +kernel)]; kernel_rfl) | (rw [if_neg (by decide +kernel)]; exact ⟨rfl, rfl⟩))
    (fun os started H enc _ => textRight_lifted os started H enc)

set_option maxRecDepth 100000 in
theorem textRight_card : Rows.TextRightCardSaid :=
  Claim7.holds_tied_plain_at .later [] [.data, .data, .data, .data, .sentinel, .sentinel, .data, .data, .pinned] true (true, "e9e77cef7782c8c4fe2c423f056a3a65f95ba1be73d2faea356b27390c8f042a") true
    textRight_holds (fun _ h => by cases h) (by kernel_rfl) (fun _ h => by cases h) textRight_row_tie rfl ⟨rfl, rfl⟩ (by kernel_rfl) rfl
    (fun f fn hf hfn => by
      obtain rfl : f = 4 := Option.some.inj ((show Tryz.prog.funcNamed "checkroll/checkrolllaw23.TextRight" = some 4 by kernel_rfl).symm.trans hf) |>.symm
      obtain rfl : fn = Tryz.f4 := (Option.some.inj (Tryz.func4.symm.trans hfn)).symm
      exact ⟨by kernel_rfl, fun j t ht => by
        rw [Tryz.params4] at ht
        have hm : t ∈ [29, 9, 9] := by simpa using Array.mem_of_getElem? ht
        have hall : ([29, 9, 9].all fun u => !Tryz.prog.wantsStandIn u) = true := by kernel_rfl
        exact (show Tryz.prog.wantsStandIn t = false by simpa using List.all_eq_true.1 hall t hm)⟩)
    (by kernel_rfl)
end Go.Proofs.YtfchlkeekmabfaaGreatDoor
end
