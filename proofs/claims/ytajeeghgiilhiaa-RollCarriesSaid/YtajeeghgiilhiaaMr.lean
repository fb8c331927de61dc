/- Several texts of one chain, put together (MrA, MrB, MrC, MrD, MrE). -/
import Derived.Test.YtajeeghgiilhiaaGtA
import Derived.Test.YtajeeghgiilhiaaStA
/- All positions together: names in order, and of each name what all come to. No program. -/
set_option linter.unusedVariables false
set_option linter.unusedSimpArgs false
namespace Go.Bk
open Go Go.Abs
abbrev Nm := Bs × Bs
def nmP (p : Po) : Nm := (p.acc, p.sym)
def ltN (a b : Nm) : Bool := decide (cmpN a b < 0)
def ltP (a b : Po) : Bool := ltN (nmP a) (nmP b)
instance : Inhabited Po := ⟨⟨[], [], 0, 0, false⟩⟩
theorem cmpS_lt {a b : Bs} : cmpS a b < 0 ↔ a < b := by
  unfold cmpS; split
  · simp [*]
  · split <;> simp_all
theorem cmpS_eq {a b : Bs} : cmpS a b = 0 ↔ a = b := by
  unfold cmpS; split
  · rename_i h
    constructor
    · intro e; exact absurd e (by decide)
    · rintro rfl; exact absurd h (List.lt_irrefl a)
  · split <;> simp_all
theorem ltN_iff {a b : Nm} : ltN a b = true ↔ a.1 < b.1 ∨ a.1 = b.1 ∧ a.2 < b.2 := by
  unfold ltN cmpN
  rw [decide_eq_true_eq]
  split
  · rename_i h
    rw [cmpS_lt]
    constructor
    · exact .inl
    · rintro (h2 | ⟨h2, _⟩)
      · exact h2
      · exact absurd (cmpS_eq.2 h2) h
  · rename_i h
    have h : a.1 = b.1 := cmpS_eq.1 (by simpa using h)
    rw [cmpS_lt, h]
    constructor
    · intro h2; exact .inr ⟨rfl, h2⟩
    · rintro (h2 | ⟨_, h2⟩)
      · exact absurd h2 (List.lt_irrefl _)
      · exact h2
theorem ltN_irrefl (a : Nm) : ltN a a = false := by
  cases h : ltN a a with
  | false => rfl
  | true => rcases ltN_iff.1 h with h | ⟨_, h⟩ <;> exact absurd h (List.lt_irrefl _)
theorem ltN_trans {a b c : Nm} (h1 : ltN a b = true) (h2 : ltN b c = true) : ltN a c = true := by
  rw [ltN_iff] at *
  rcases h1 with h1 | ⟨e1, h1⟩ <;> rcases h2 with h2 | ⟨e2, h2⟩
  · exact .inl (List.lt_trans h1 h2)
  · exact .inl (e2 ▸ h1)
  · exact .inl (e1 ▸ h2)
  · exact .inr ⟨e1.trans e2, List.lt_trans h1 h2⟩
theorem bs_tri (a b : Bs) : a < b ∨ a = b ∨ b < a := by
  rcases Classical.em (a < b) with h | h
  · exact .inl h
  · rcases Classical.em (b < a) with h2 | h2
    · exact .inr (.inr h2)
    · exact .inr (.inl (List.le_antisymm (List.not_lt.1 h2) (List.not_lt.1 h)))
theorem ltN_tri (a b : Nm) : ltN a b = true ∨ a = b ∨ ltN b a = true := by
  rw [ltN_iff, ltN_iff]
  rcases bs_tri a.1 b.1 with h | h | h
  · exact .inl (.inl h)
  · rcases bs_tri a.2 b.2 with h2 | h2 | h2
    · exact .inl (.inr ⟨h, h2⟩)
    · exact .inr (.inl (Prod.ext h h2))
    · exact .inr (.inr (.inr ⟨h.symm, h2⟩))
  · exact .inr (.inr (.inl h))
theorem ltN_asym {a b : Nm} (h : ltN a b = true) : ltN b a = false := by
  cases h2 : ltN b a with
  | false => rfl
  | true => exact absurd (ltN_trans h h2) (by rw [ltN_irrefl]; simp)
theorem ltN_ff {a b : Nm} (h1 : ltN a b = false) (h2 : ltN b a = false) : a = b := by
  rcases ltN_tri a b with h | h | h
  · rw [h] at h1; exact absurd h1 (by simp)
  · exact h
  · rw [h] at h2; exact absurd h2 (by simp)
theorem ltN_nt {a b c : Nm} (h1 : ltN a b = false) (h2 : ltN b c = false) : ltN a c = false := by
  cases h : ltN a c with
  | false => rfl
  | true =>
    rcases ltN_tri b c with h3 | rfl | h3
    · rw [h3] at h2; exact absurd h2 (by simp)
    · rw [h] at h1; exact absurd h1 (by simp)
    · rw [ltN_trans h h3] at h1; exact absurd h1 (by simp)
theorem swo_P : Go.Sort.SWO ltP := ⟨fun _ => ltN_irrefl _, fun _ _ _ => ltN_trans, fun _ _ _ => ltN_nt⟩
theorem cmpN_eq {a b : Nm} : cmpN a b = 0 ↔ a = b := by
  unfold cmpN
  split
  · rename_i h
    constructor
    · intro e; exact absurd e h
    · rintro rfl; exact absurd (cmpS_eq.2 rfl) h
  · rename_i h
    have h : a.1 = b.1 := cmpS_eq.1 (by simpa using h)
    rw [cmpS_eq]
    exact ⟨fun e => Prod.ext h e, fun e => by rw [e]⟩
/-- A list of positions that is right. -/
def okP (p : Po) : Bool := numB p.qty && numB p.value && !(p.over && (decide (p.qty ≠ 0) || decide (p.value ≠ 0)))
def riseP : List Po → Bool
  | [] => true
  | p :: l => okP p && (match l with | [] => true | q :: _ => ltP p q) && riseP l
/-- Positions of one name, told together. -/
def sameF (n : Nm) (l : List Po) : List Po := l.filter fun p => decide (nmP p = n)
def togF (n : Nm) (l : List Po) : Po :=
  if l.any (·.over) then ⟨n.1, n.2, 0, 0, true⟩
  else if (sumF (l.map (·.qty))).2 && (sumF (l.map (·.value))).2 then ⟨n.1, n.2, (sumF (l.map (·.qty))).1, (sumF (l.map (·.value))).1, false⟩ else ⟨n.1, n.2, 0, 0, true⟩
def oneF (l : List Po) (n : Nm) : Po := togF n (sameF n l)
def getP (l : List Po) (n : Nm) : Po := match l.find? (fun p => decide (nmP p = n)) with
  | some p => p
  | none => ⟨n.1, n.2, 0, 0, false⟩
/-- Groups of one name, one behind the other. -/
def grpF : Nat → List Po → List Po
  | 0, _ => []
  | _, [] => []
  | k + 1, p :: l => togF (nmP p) (p :: l.takeWhile fun q => decide (nmP q = nmP p)) :: grpF k (l.dropWhile fun q => decide (nmP q = nmP p))
def stbP (l : List Po) : List Po := (Go.Stb.stable ltP l.toArray).toList
def mergeF (ls : List (List Po)) : List Po × Int := if ls.all riseP then (grpF ls.flatten.length (stbP ls.flatten), 0) else ([], 1)
/-- Strictly rising names. -/
def Rising (l : List Po) : Prop := l.Pairwise fun p q => ltP p q = true
/-- What all positions together come to: each name once, in order. -/
structure Merged (l all : List Po) : Prop where
  rise : Rising l
  mem : ∀ p, p ∈ l ↔ (∃ q ∈ all, nmP q = nmP p) ∧ p = oneF all (nmP p)
theorem togF_nm {n : Nm} {l : List Po} : nmP (togF n l) = n := by unfold togF; split <;> first | rfl | (split <;> rfl)
theorem oneF_nm {n : Nm} {l : List Po} : nmP (oneF l n) = n := togF_nm
theorem rising_ext : ∀ {l m : List Po}, Rising l → Rising m → (∀ p, p ∈ l ↔ p ∈ m) → l = m
  | [], [], _, _, _ => rfl
  | [], q :: m, _, _, h => absurd ((h q).2 (by simp)) (by simp)
  | p :: l, [], _, _, h => absurd ((h p).1 (by simp)) (by simp)
  | p :: l, q :: m, h1, h2, h => by
    have a1 := List.pairwise_cons.1 h1
    have a2 := List.pairwise_cons.1 h2
    have irr : ∀ x : Po, ltP x x = true → False := fun x hx => by have := ltN_irrefl (nmP x); unfold ltP at hx; rw [hx] at this; exact absurd this (by simp)
    have e : p = q := by
      rcases List.mem_cons.1 ((h p).1 (by simp)) with e | e
      · exact e
      · rcases List.mem_cons.1 ((h q).2 (by simp)) with e2 | e2
        · exact e2.symm
        · exact absurd (ltN_trans (a1.1 q e2) (a2.1 p e)) (by rw [ltN_irrefl]; simp)
    subst e
    congr 1
    refine rising_ext a1.2 a2.2 fun x => ?_
    constructor
    · intro hx
      rcases List.mem_cons.1 ((h x).1 (List.mem_cons_of_mem _ hx)) with e | e
      · subst e; exact (irr x (a1.1 x hx)).elim
      · exact e
    · intro hx
      rcases List.mem_cons.1 ((h x).2 (List.mem_cons_of_mem _ hx)) with e | e
      · subst e; exact (irr x (a2.1 x hx)).elim
      · exact e
theorem Merged.uniq {l m all : List Po} (h1 : Merged l all) (h2 : Merged m all) : l = m := rising_ext h1.rise h2.rise fun p => (h1.mem p).trans (h2.mem p).symm
/-- Sums don't hang on the order. -/
theorem sumL_perm {a b : List Int} (h : a.Perm b) : sumL a = sumL b := by
  induction h with
  | nil => rfl
  | cons x _ ih => simp [sumL, ih]
  | swap x y l => simp only [sumL]; omega
  | trans _ _ h1 h2 => exact h1.trans h2
theorem sumF_perm {a b : List Int} (h : a.Perm b) : sumF a = sumF b := by
  unfold sumF; rw [sumL_perm h, h.all_eq]
theorem togF_perm {n : Nm} {a b : List Po} (h : a.Perm b) : togF n a = togF n b := by
  unfold togF; rw [h.any_eq, sumF_perm (h.map _), sumF_perm (h.map _)]
theorem oneF_perm {n : Nm} {a b : List Po} (h : a.Perm b) : oneF a n = oneF b n := togF_perm (h.filter _)
theorem Merged.perm {l a b : List Po} (h : a.Perm b) (hm : Merged l a) : Merged l b := ⟨hm.rise, fun p => by
  rw [hm.mem, oneF_perm h]
  constructor
  · rintro ⟨⟨q, hq, e⟩, h2⟩; exact ⟨⟨q, h.mem_iff.1 hq, e⟩, h2⟩
  · rintro ⟨⟨q, hq, e⟩, h2⟩; exact ⟨⟨q, h.mem_iff.2 hq, e⟩, h2⟩⟩
/-- Groups of a sorted list are what all come to. -/
theorem grp_spec : ∀ (k : Nat) (l : List Po), l.length ≤ k → l.Pairwise (fun p q => ltP q p = false) → Merged (grpF k l) l
  | 0, l, hk, _ => by
    have : l = [] := List.eq_nil_of_length_eq_zero (by omega)
    subst this
    exact ⟨List.Pairwise.nil, fun p => by simp [grpF]⟩
  | k + 1, [], _, _ => ⟨List.Pairwise.nil, fun p => by simp [grpF]⟩
  | k + 1, p :: l, hk, hs => by
    obtain ⟨hs1, hs2⟩ := List.pairwise_cons.1 hs
    have hsplit := List.takeWhile_append_dropWhile (p := fun q => decide (nmP q = nmP p)) (l := l)
    have hd : ∀ q ∈ l.dropWhile (fun q => decide (nmP q = nmP p)), ltP p q = true := by
      intro q hq
      cases hdw : l.dropWhile (fun q => decide (nmP q = nmP p)) with
      | nil => rw [hdw] at hq; exact absurd hq (by simp)
      | cons x xs =>
        have hx : ¬ nmP x = nmP p := by
          have := List.head?_dropWhile_not (fun q => decide (nmP q = nmP p)) l
          rw [hdw] at this
          simpa using this
        have hxl : x ∈ l := by rw [← hsplit, hdw]; simp
        have hpx : ltP p x = true := by
          rcases ltN_tri (nmP p) (nmP x) with h | h | h
          · exact h
          · exact absurd h.symm hx
          · exact absurd (hs1 x hxl) (by unfold ltP; rw [h]; simp)
        rw [hdw] at hq
        rcases List.mem_cons.1 hq with e | hq
        · rw [e]; exact hpx
        · have hp2 : (x :: xs).Pairwise (fun p q => ltP q p = false) := by rw [← hdw]; exact hs2.sublist (List.dropWhile_sublist _)
          have hxq := (List.pairwise_cons.1 hp2).1 q hq
          cases h : ltP p q with
          | true => rfl
          | false => exact absurd hpx (by unfold ltP at *; rw [ltN_nt h hxq]; simp)
    have ht : ∀ q ∈ l.takeWhile (fun q => decide (nmP q = nmP p)), nmP q = nmP p := fun q hq => by
      simpa using List.all_takeWhile (p := fun q => decide (nmP q = nmP p)) (l := l) |> fun h => List.all_eq_true.1 h q hq
    have hlen : (l.dropWhile fun q => decide (nmP q = nmP p)).length ≤ k := by
      have := (List.dropWhile_sublist (fun q => decide (nmP q = nmP p)) (l := l)).length_le
      simp only [List.length_cons] at hk; omega
    have ih := grp_spec k (l.dropWhile fun q => decide (nmP q = nmP p)) hlen (hs2.sublist (List.dropWhile_sublist _))
    have hself : sameF (nmP p) (p :: l) = p :: l.takeWhile (fun q => decide (nmP q = nmP p)) := by
      unfold sameF
      rw [List.filter_cons_of_pos (by simp)]
      congr 1
      conv => lhs; rw [← hsplit, List.filter_append]
      rw [List.filter_eq_self.2 (fun q hq => by simpa using ht q hq), List.filter_eq_nil_iff.2 (fun q hq => by
        have := hd q hq
        simp only [decide_eq_true_eq]
        intro e
        unfold ltP at this; rw [e, ltN_irrefl] at this; exact absurd this (by simp)), List.append_nil]
    have hrest : ∀ n, n ≠ nmP p → sameF n (p :: l) = sameF n (l.dropWhile fun q => decide (nmP q = nmP p)) := by
      intro n hn
      unfold sameF
      rw [List.filter_cons_of_neg (by simpa using Ne.symm hn)]
      conv => lhs; rw [← hsplit, List.filter_append]
      rw [List.filter_eq_nil_iff.2 (fun q hq => by
        simp only [decide_eq_true_eq]; intro e; exact hn (e.symm.trans (ht q hq))), List.nil_append]
    refine ⟨?_, ?_⟩
    · refine List.pairwise_cons.2 ⟨fun x hx => ?_, ih.rise⟩
      obtain ⟨⟨q, hq, e⟩, _⟩ := (ih.mem x).1 hx
      have := hd q hq
      unfold ltP at *
      rw [togF_nm, ← e]; exact this
    · intro x
      show x ∈ _ :: _ ↔ _
      rw [List.mem_cons, ih.mem]
      constructor
      · rintro (e | ⟨⟨q, hq, e⟩, h⟩)
        · have en : nmP x = nmP p := by rw [e]; exact togF_nm
          refine ⟨⟨p, by simp, en.symm⟩, ?_⟩
          rw [en]; unfold oneF; rw [hself]; exact e
        · have hne : nmP x ≠ nmP p := by
            intro e2
            have := hd q hq
            unfold ltP at this; rw [e, e2, ltN_irrefl] at this; exact absurd this (by simp)
          refine ⟨⟨q, List.mem_cons_of_mem _ ((List.dropWhile_sublist _).subset hq), e⟩, ?_⟩
          rw [h]; unfold oneF; rw [togF_nm, hrest _ hne]
      · rintro ⟨⟨q, hq, e⟩, h⟩
        by_cases hn : nmP x = nmP p
        · left
          rw [h, hn]; unfold oneF; rw [hself]
        · right
          refine ⟨⟨q, ?_, e⟩, ?_⟩
          · rcases List.mem_cons.1 hq with e2 | hq
            · exact absurd (e.symm.trans (by rw [e2])) hn
            · rw [← hsplit] at hq
              rcases List.mem_append.1 hq with hq | hq
              · exact absurd (e.symm.trans (ht q hq)) hn
              · exact hq
          · have h2 := h
            unfold oneF at h2 ⊢; rw [hrest _ hn] at h2; exact h2
end Go.Bk

/- Positions that are carried: in any order of days the same; with nothing more they stay. No program. -/
set_option linter.unusedVariables false
set_option linter.unusedSimpArgs false
namespace Go.Bk
open Go Go.Abs
theorem stbP_perm (l : List Po) : (stbP l).Perm l := by
  obtain ⟨hp, _⟩ := Go.Stb.stable_spec swo_P l.toArray
  have := hp.2.2
  rw [show (Go.Stb.stable ltP l.toArray).extract 0 l.toArray.size = Go.Stb.stable ltP l.toArray by rw [← hp.1]; simp, show l.toArray.extract 0 l.toArray.size = l.toArray by simp] at this
  exact this
theorem stbP_len (l : List Po) : (stbP l).length = l.length := (stbP_perm l).length_eq
theorem stbP_sorted (l : List Po) : (stbP l).Pairwise (fun p q => ltP q p = false) := by
  obtain ⟨hp, hs⟩ := Go.Stb.stable_spec swo_P l.toArray
  rw [List.pairwise_iff_getElem]
  intro i j hi hj hij
  unfold stbP at *
  rw [Array.length_toList] at hi hj
  have := hs i j (by omega) hij (by rw [← hp.1]; exact hj)
  rwa [getElem!_pos _ i hi, getElem!_pos _ j hj] at this
theorem merge_spec {ls : List (List Po)} (h : ls.all riseP = true) : Merged (mergeF ls).1 ls.flatten := by
  unfold mergeF; rw [if_pos h]
  exact (grp_spec _ _ (by rw [stbP_len]; exact Nat.le_refl _) (stbP_sorted _)).perm (stbP_perm _)
theorem merge_bad {ls : List (List Po)} (h : ¬ ls.all riseP = true) : mergeF ls = ([], 1) := by unfold mergeF; rw [if_neg h]
theorem merge_ok {ls : List (List Po)} (h : ls.all riseP = true) : (mergeF ls).2 = 0 := by unfold mergeF; rw [if_pos h]
def carryF (a b : List Po) : List Po × Int := if (mergeF [a, b]).2 ≠ 0 then ([], (mergeF [a, b]).2) else if (mergeF [a, b]).1.any (·.over) then ([], 9) else ((mergeF [a, b]).1, 0)
theorem merge_comm (a b : List Po) : mergeF [a, b] = mergeF [b, a] := by
  by_cases h : [a, b].all riseP = true
  · have h2 : [b, a].all riseP = true := by simpa [and_comm] using h
    refine Prod.ext ?_ ((merge_ok h).trans (merge_ok h2).symm)
    refine Merged.uniq (merge_spec h) ((merge_spec h2).perm ?_)
    simp only [List.flatten_cons, List.flatten_nil, List.append_nil]
    exact List.perm_append_comm
  · have h2 : ¬ [b, a].all riseP = true := by simpa [and_comm] using h
    rw [merge_bad h, merge_bad h2]
theorem carry_comm (a b : List Po) : carryF a b = carryF b a := by unfold carryF; rw [merge_comm]
theorem rise_ok : ∀ {l : List Po}, riseP l = true → ∀ p ∈ l, okP p = true
  | p :: l, h, q, hq => by
    simp only [riseP, Bool.and_eq_true] at h
    rcases List.mem_cons.1 hq with rfl | hq
    · exact h.1.1
    · exact rise_ok h.2 q hq
theorem rise_rising : ∀ {l : List Po}, riseP l = true → Rising l
  | [], _ => List.Pairwise.nil
  | [p], _ => List.pairwise_singleton ..
  | p :: q :: l, h => by
    simp only [riseP, Bool.and_eq_true] at h
    have ih : Rising (q :: l) := rise_rising (by simp only [riseP, Bool.and_eq_true]; exact h.2)
    refine List.pairwise_cons.2 ⟨fun x hx => ?_, ih⟩
    rcases List.mem_cons.1 hx with rfl | hx
    · exact h.1.2
    · exact ltN_trans h.1.2 ((List.pairwise_cons.1 ih).1 x hx)
theorem same_one {l : List Po} (h : Rising l) {p : Po} (hp : p ∈ l) : sameF (nmP p) l = [p] := by
  induction l with
  | nil => exact absurd hp (by simp)
  | cons q l ih =>
    obtain ⟨h1, h2⟩ := List.pairwise_cons.1 h
    rcases List.mem_cons.1 hp with rfl | hp
    · unfold sameF
      rw [List.filter_cons_of_pos (by simp), List.filter_eq_nil_iff.2]
      intro x hx
      have := h1 x hx
      simp only [decide_eq_true_eq]
      intro e
      unfold ltP at this; rw [e, ltN_irrefl] at this; exact absurd this (by simp)
    · unfold sameF
      rw [List.filter_cons_of_neg]
      · exact ih h2 hp
      · have := h1 p hp
        simp only [decide_eq_true_eq]
        intro e
        unfold ltP at this; rw [e, ltN_irrefl] at this; exact absurd this (by simp)
theorem sumF_one {x : Int} (h : numB x = true) : sumF [x] = (x, true) := by
  unfold sumF; simp [sumL, h]
theorem tog_one {p : Po} (h : okP p = true) : togF (nmP p) [p] = p := by
  obtain ⟨a, s, q, v, o⟩ := p
  simp only [okP, Bool.and_eq_true] at h
  obtain ⟨⟨h1, h2⟩, h3⟩ := h
  unfold togF
  cases o with
  | true =>
    simp only [Bool.true_and, Bool.not_eq_true', Bool.or_eq_false_iff, decide_eq_false_iff_not, ne_eq, Decidable.not_not] at h3
    rw [if_pos (by simp)]; obtain ⟨rfl, rfl⟩ := h3; rfl
  | false =>
    rw [if_neg (by simp)]
    simp only [List.map_cons, List.map_nil, sumF_one h1, sumF_one h2]; rfl
theorem merged_self {l : List Po} (h : riseP l = true) : Merged l l := ⟨rise_rising h, fun p => by
  constructor
  · intro hp
    refine ⟨⟨p, hp, rfl⟩, ?_⟩
    unfold oneF; rw [same_one (rise_rising h) hp, tog_one (rise_ok h p hp)]
  · rintro ⟨⟨q, hq, e⟩, hp⟩
    rw [← e] at hp
    unfold oneF at hp; rw [same_one (rise_rising h) hq, tog_one (rise_ok h q hq)] at hp
    rw [hp]; exact hq⟩
theorem carry_nil {a : List Po} (h : (carryF a []).2 = 0) : (carryF a []).1 = a := by
  unfold carryF at *
  by_cases hr : [a, []].all riseP = true
  · rw [if_neg (by rw [merge_ok hr]; simp)] at *
    by_cases ho : (mergeF [a, []]).1.any (·.over) = true
    · rw [if_pos ho] at h; exact absurd h (by simp)
    · rw [if_neg ho]
      refine Merged.uniq (merge_spec hr) ?_
      simp only [List.flatten_cons, List.flatten_nil, List.append_nil]
      exact merged_self (by simpa [riseP] using hr)
  · rw [if_pos (by rw [merge_bad hr]; simp), merge_bad hr] at h
    exact absurd h (by simp)
theorem carry_err {a b : List Po} (h : (carryF a b).2 ≠ 0) : (carryF a b).1 = [] := by
  unfold carryF at *
  split at h
  · rename_i h2; rw [if_pos h2]
  · rename_i h2; rw [if_neg h2] at *
    split at h
    · rename_i h3; rw [if_pos h3]
    · exact absurd rfl h
def sumQ (l : List Po) (n : Nm) : Int := sumL ((sameF n l).map (·.qty))
def sumV (l : List Po) (n : Nm) : Int := sumL ((sameF n l).map (·.value))
theorem sumQ_app (a b : List Po) (n : Nm) : sumQ (a ++ b) n = sumQ a n + sumQ b n := by simp [sumQ, sameF, sumL_app]
theorem sumV_app (a b : List Po) (n : Nm) : sumV (a ++ b) n = sumV a n + sumV b n := by simp [sumV, sameF, sumL_app]
theorem sumF_val {l : List Int} (h : (sumF l).2 = true) : (sumF l).1 = sumL l := by
  unfold sumF at *
  split
  · rfl
  · rename_i h2; rw [if_neg h2] at h; exact absurd h (by simp)
theorem one_is {l : List Po} {n : Nm} (h : (oneF l n).over = false) : oneF l n = ⟨n.1, n.2, sumQ l n, sumV l n, false⟩ := by
  unfold oneF togF at *
  split at h
  · exact absurd h (by simp)
  · rename_i h1
    rw [if_neg h1]
    split at h
    · rename_i h2
      rw [if_pos h2]
      simp only [Bool.and_eq_true] at h2
      rw [sumF_val h2.1, sumF_val h2.2]; rfl
    · exact absurd h (by simp)
/-- What is merged, and is nowhere over, has the sums of all. -/
theorem merged_sum {l all : List Po} (hm : Merged l all) (ho : ∀ p ∈ l, p.over = false) (n : Nm) : sumQ l n = sumQ all n ∧ sumV l n = sumV all n ∧ ((∃ q ∈ l, nmP q = n) ↔ ∃ q ∈ all, nmP q = n) := by
  by_cases h : ∃ q ∈ all, nmP q = n
  · have hin : oneF all n ∈ l := (hm.mem _).2 ⟨by rw [oneF_nm]; exact h, by rw [oneF_nm]⟩
    have e := one_is (ho _ hin)
    have hs := same_one hm.rise hin
    rw [oneF_nm] at hs
    refine ⟨?_, ?_, ?_⟩
    · unfold sumQ at *; rw [hs, e]; simp [sumL, sumQ]
    · unfold sumV at *; rw [hs, e]; simp [sumL, sumV]
    · exact ⟨fun _ => h, fun _ => ⟨_, hin, oneF_nm⟩⟩
  · have h2 : ∀ q ∈ l, nmP q ≠ n := fun q hq e => by
      obtain ⟨⟨r, hr, e2⟩, _⟩ := (hm.mem q).1 hq
      exact h ⟨r, hr, e2.trans e⟩
    have s1 : sameF n l = [] := List.filter_eq_nil_iff.2 fun q hq => by simpa using h2 q hq
    have s2 : sameF n all = [] := List.filter_eq_nil_iff.2 fun q hq => by
      simp only [decide_eq_true_eq]; intro e; exact h ⟨q, hq, e⟩
    refine ⟨by unfold sumQ; rw [s1, s2], by unfold sumV; rw [s1, s2], ?_⟩
    exact ⟨fun ⟨q, hq, e⟩ => absurd e (h2 q hq), fun h3 => absurd h3 h⟩
theorem carry_ok {a b : List Po} (h : (carryF a b).2 = 0) : Merged (carryF a b).1 (a ++ b) ∧ ∀ p ∈ (carryF a b).1, p.over = false := by
  unfold carryF at *
  by_cases hr : [a, b].all riseP = true
  · rw [if_neg (by rw [merge_ok hr]; simp)] at *
    by_cases ho : (mergeF [a, b]).1.any (·.over) = true
    · rw [if_pos ho] at h; exact absurd h (by simp)
    · rw [if_neg ho]
      have := merge_spec hr
      simp only [List.flatten_cons, List.flatten_nil, List.append_nil] at this
      refine ⟨this, fun p hp => ?_⟩
      simp only [List.any_eq_true, not_exists, not_and, Bool.not_eq_true] at ho
      exact ho p hp
  · rw [if_pos (by rw [merge_bad hr]; simp), merge_bad hr] at h
    exact absurd h (by simp)
theorem carry_assoc {a b c : List Po} (h1 : (carryF a b).2 = 0) (h2 : (carryF (carryF a b).1 c).2 = 0) (h3 : (carryF b c).2 = 0) (h4 : (carryF a (carryF b c).1).2 = 0) : (carryF (carryF a b).1 c).1 = (carryF a (carryF b c).1).1 := by
  obtain ⟨m1, o1⟩ := carry_ok h1
  obtain ⟨m2, o2⟩ := carry_ok h2
  obtain ⟨m3, o3⟩ := carry_ok h3
  obtain ⟨m4, o4⟩ := carry_ok h4
  have key : ∀ p, p ∈ (carryF (carryF a b).1 c).1 ↔ ((∃ q ∈ a ++ b ++ c, nmP q = nmP p) ∧ p = ⟨p.acc, p.sym, sumQ (a ++ b ++ c) (nmP p), sumV (a ++ b ++ c) (nmP p), false⟩ ∧ (oneF ((carryF a b).1 ++ c) (nmP p)).over = false) := by
    intro p
    obtain ⟨s1, s2, s3⟩ := merged_sum m1 o1 (nmP p)
    have eq : sumQ ((carryF a b).1 ++ c) (nmP p) = sumQ (a ++ b ++ c) (nmP p) := by rw [sumQ_app, s1, ← sumQ_app]
    have ev : sumV ((carryF a b).1 ++ c) (nmP p) = sumV (a ++ b ++ c) (nmP p) := by rw [sumV_app, s2, ← sumV_app]
    have en : (∃ q ∈ (carryF a b).1 ++ c, nmP q = nmP p) ↔ ∃ q ∈ a ++ b ++ c, nmP q = nmP p := by
      simp only [List.mem_append, or_and_right, exists_or] at *
      rw [s3]
    constructor
    · intro hp
      have ho := o2 p hp
      obtain ⟨h5, h6⟩ := (m2.mem p).1 hp
      rw [h6] at ho
      refine ⟨en.1 h5, ?_, ho⟩
      have := one_is ho
      rw [eq, ev] at this
      exact h6.trans this
    · rintro ⟨h5, h6, h7⟩
      refine (m2.mem p).2 ⟨en.2 h5, ?_⟩
      rw [one_is h7, eq, ev]; exact h6
  have key2 : ∀ p, p ∈ (carryF a (carryF b c).1).1 ↔ ((∃ q ∈ a ++ b ++ c, nmP q = nmP p) ∧ p = ⟨p.acc, p.sym, sumQ (a ++ b ++ c) (nmP p), sumV (a ++ b ++ c) (nmP p), false⟩ ∧ (oneF (a ++ (carryF b c).1) (nmP p)).over = false) := by
    intro p
    obtain ⟨s1, s2, s3⟩ := merged_sum m3 o3 (nmP p)
    have eq : sumQ (a ++ (carryF b c).1) (nmP p) = sumQ (a ++ b ++ c) (nmP p) := by rw [sumQ_app, s1, ← sumQ_app, List.append_assoc]
    have ev : sumV (a ++ (carryF b c).1) (nmP p) = sumV (a ++ b ++ c) (nmP p) := by rw [sumV_app, s2, ← sumV_app, List.append_assoc]
    have en : (∃ q ∈ a ++ (carryF b c).1, nmP q = nmP p) ↔ ∃ q ∈ a ++ b ++ c, nmP q = nmP p := by
      rw [List.append_assoc]
      simp only [List.mem_append, or_and_right, exists_or] at *
      rw [s3]
    constructor
    · intro hp
      have ho := o4 p hp
      obtain ⟨h5, h6⟩ := (m4.mem p).1 hp
      rw [h6] at ho
      refine ⟨en.1 h5, ?_, ho⟩
      have := one_is ho
      rw [eq, ev] at this
      exact h6.trans this
    · rintro ⟨h5, h6, h7⟩
      refine (m4.mem p).2 ⟨en.2 h5, ?_⟩
      rw [one_is h7, eq, ev]; exact h6
  refine rising_ext m2.rise m4.rise fun p => ?_
  constructor
  · intro hp
    obtain ⟨h5, h6, h7⟩ := (key p).1 hp
    refine (key2 p).2 ⟨h5, h6, ?_⟩
    obtain ⟨_, _, s3⟩ := merged_sum m3 o3 (nmP p)
    have en : ∃ q ∈ a ++ (carryF b c).1, nmP q = nmP p := by
      rw [List.append_assoc] at h5
      simp only [List.mem_append, or_and_right, exists_or] at *
      rw [s3]; exact h5
    exact o4 _ ((m4.mem _).2 ⟨by rw [oneF_nm]; exact en, by rw [oneF_nm]⟩)
  · intro hp
    obtain ⟨h5, h6, h7⟩ := (key2 p).1 hp
    refine (key p).2 ⟨h5, h6, ?_⟩
    obtain ⟨_, _, s3⟩ := merged_sum m1 o1 (nmP p)
    have en : ∃ q ∈ (carryF a b).1 ++ c, nmP q = nmP p := by
      simp only [List.mem_append, or_and_right, exists_or] at *
      rw [s3]; exact h5
    exact o2 _ ((m2.mem _).2 ⟨by rw [oneF_nm]; exact en, by rw [oneF_nm]⟩)
end Go.Bk

/- How a list of positions is looked at, place by place; groups. No program. -/
set_option linter.unusedVariables false
set_option linter.unusedSimpArgs false
namespace Go.Bk
open Go Go.Abs
def okR (l : List Po) (k : Nat) : Bool := match l[k]? with
  | some x => okP x && (k == 0 || match l[k - 1]? with
    | some y => ltP y x
    | none => true)
  | none => true
theorem okR_at {l : List Po} {k : Nat} {x : Po} (h : l[k]? = some x) : okR l k = (okP x && (k == 0 || match l[k - 1]? with
    | some y => ltP y x
    | none => true)) := by unfold okR; rw [h]
theorem rise_iff : ∀ {l : List Po}, riseP l = true ↔ ∀ k, k < l.length → okR l k = true
  | [] => by simp [riseP]
  | p :: l => by
    show (okP p && (match l with | [] => true | q :: _ => ltP p q) && riseP l) = true ↔ _
    rw [Bool.and_eq_true, Bool.and_eq_true, rise_iff (l := l)]
    constructor
    · rintro ⟨⟨h1, h2⟩, h3⟩ k hk
      cases k with
      | zero => rw [okR_at (x := p) rfl, h1]; rfl
      | succ k =>
        have hk' : k < l.length := by simpa using hk
        obtain ⟨x, hx⟩ : ∃ x, l[k]? = some x := ⟨_, List.getElem?_eq_getElem hk'⟩
        have h4 := h3 k hk'
        rw [okR_at hx] at h4
        rw [okR_at (l := p :: l) (k := k + 1) (x := x) (by simpa using hx)]
        rw [Bool.and_eq_true] at h4 ⊢
        refine ⟨h4.1, ?_⟩
        cases k with
        | zero =>
          cases l with
          | nil => exact absurd hk' (by simp)
          | cons q l =>
            simp only [List.getElem?_cons_zero, Option.some.injEq] at hx
            subst hx
            simpa using h2
        | succ k => simpa using h4.2
    · intro h
      have h0 := h 0 (by simp)
      rw [okR_at (x := p) rfl, Bool.and_eq_true] at h0
      refine ⟨⟨h0.1, ?_⟩, fun k hk => ?_⟩
      · cases l with
        | nil => rfl
        | cons q l =>
          have h1 := h 1 (by simp)
          rw [okR_at (x := q) rfl, Bool.and_eq_true] at h1
          simpa using h1.2
      · obtain ⟨x, hx⟩ : ∃ x, l[k]? = some x := ⟨_, List.getElem?_eq_getElem hk⟩
        have h1 := h (k + 1) (by simpa using hk)
        rw [okR_at (l := p :: l) (k := k + 1) (x := x) (by simpa using hx), Bool.and_eq_true] at h1
        rw [okR_at hx, Bool.and_eq_true]
        refine ⟨h1.1, ?_⟩
        cases k with
        | zero => rfl
        | succ k => simpa using h1.2
theorem riseP_no {l : List Po} {k : Nat} {x : Po} (hx : l[k]? = some x) (h : okR l k = false) : riseP l = false := by
  cases e : riseP l with
  | false => rfl
  | true => exact absurd (rise_iff.1 e k (get_lt hx)) (by rw [h]; simp)
theorem riseP_yes {l : List Po} {i : Nat} (hi : l.length ≤ i) (h : ∀ k, k < i → okR l k = true) : riseP l = true := rise_iff.2 fun k hk => h k (by omega)
theorem okR_bad1 {l : List Po} {k : Nat} {x : Po} (hx : l[k]? = some x) (h : okP x = false) : okR l k = false := by rw [okR_at hx, h]; rfl
theorem okR_bad2 {l : List Po} {k : Nat} {x y : Po} (hx : l[k]? = some x) (hk : 0 < k) (hy : l[k - 1]? = some y) (h : 0 ≤ cmpN (nmP y) (nmP x)) : okR l k = false := by
  rw [okR_at hx, hy]
  have e1 : (k == 0) = false := by simp; omega
  have e2 : ltP y x = false := by unfold ltP ltN; exact decide_eq_false (by omega)
  dsimp only
  rw [e1, e2]; simp
theorem okR_ok0 {l : List Po} {k : Nat} {x : Po} (hx : l[k]? = some x) (hk : k = 0) (h : okP x = true) : okR l k = true := by rw [okR_at hx, h, hk]; rfl
theorem okR_ok {l : List Po} {k : Nat} {x y : Po} (hx : l[k]? = some x) (hy : l[k - 1]? = some y) (h : okP x = true) (h2 : cmpN (nmP y) (nmP x) < 0) : okR l k = true := by
  have e2 : ltP y x = true := by unfold ltP ltN; exact decide_eq_true h2
  rw [okR_at hx, h, hy]
  dsimp only
  rw [e2]; simp
theorem okP_q {x : Po} (h : numB x.qty = false) : okP x = false := by simp [okP, h]
theorem okP_v {x : Po} (h : numB x.value = false) : okP x = false := by simp [okP, h]
theorem okP_o {x : Po} (h : x.over = true) (h2 : ¬ x.qty = 0 ∨ ¬ x.value = 0) : okP x = false := by
  rcases h2 with h2 | h2 <;> simp [okP, h, h2]
theorem okP_n {x : Po} (h1 : numB x.qty = true) (h2 : numB x.value = true) (h : x.over = false) : okP x = true := by simp [okP, h, h1, h2]
theorem okP_z {x : Po} (h1 : numB x.qty = true) (h2 : numB x.value = true) (h3 : x.qty = 0) (h4 : x.value = 0) : okP x = true := by
  obtain ⟨a, s, q, v, o⟩ := x
  simp only [okP] at *
  subst h3; subst h4; simp [h1]
theorem getP_yes {l : List Po} {i : Nat} {x : Po} {n : Nm} (hx : l[i]? = some x) (hn : ∀ k y, k < i → l[k]? = some y → ¬ (y.acc = n.1 ∧ y.sym = n.2)) (h : x.acc = n.1 ∧ x.sym = n.2) : getP l n = x := by
  have : l.find? (fun p => decide (nmP p = n)) = some x := by
    rw [List.find?_eq_some_iff_getElem]
    obtain ⟨hi, rfl⟩ := List.getElem?_eq_some_iff.1 hx
    refine ⟨by simp only [decide_eq_true_eq]; exact Prod.ext h.1 h.2, i, hi, rfl, fun j hj => ?_⟩
    have := hn j l[j] hj (List.getElem?_eq_getElem _)
    simp only [Bool.not_eq_true', decide_eq_false_iff_not]
    intro e
    exact this ⟨congrArg Prod.fst e, congrArg Prod.snd e⟩
  unfold getP; rw [this]
theorem getP_no {l : List Po} {i : Nat} {n : Nm} (hi : l.length ≤ i) (hn : ∀ k y, k < i → l[k]? = some y → ¬ (y.acc = n.1 ∧ y.sym = n.2)) : getP l n = ⟨n.1, n.2, 0, 0, false⟩ := by
  have : l.find? (fun p => decide (nmP p = n)) = none := by
    rw [List.find?_eq_none]
    intro x hx
    obtain ⟨k, hk⟩ := List.mem_iff_getElem?.1 hx
    have := hn k x (by have := get_lt hk; omega) hk
    simp only [decide_eq_true_eq]
    intro e
    exact this ⟨congrArg Prod.fst e, congrArg Prod.snd e⟩
  unfold getP; rw [this]
theorem noneP_next {l : List Po} {a s : Bs} {i : Nat} {x : Po} (hn : ∀ k y, k < i → l[k]? = some y → ¬ (y.acc = a ∧ y.sym = s)) (hx : l[i]? = some x) (h : ¬ (x.acc = a ∧ x.sym = s)) : ∀ k y, k < i + 1 → l[k]? = some y → ¬ (y.acc = a ∧ y.sym = s) := fun k y hk hy => by
  rcases Nat.lt_or_ge k i with h' | h'
  · exact hn k y h' hy
  · have : k = i := by omega
    subst this; rw [hx] at hy; cases hy; exact h
theorem togF_over {n : Nm} {l : List Po} {i : Nat} {x : Po} (hx : l[i]? = some x) (h : x.over = true) : togF n l = ⟨n.1, n.2, 0, 0, true⟩ := by
  unfold togF; rw [if_pos (List.any_eq_true.2 ⟨x, List.mem_of_getElem? hx, h⟩)]
theorem togF_end {n : Nm} {l : List Po} {i : Nat} {qs vs : List Int} (hi : l.length ≤ i) (hq : qs = (l.take i).map (·.qty)) (hv : vs = (l.take i).map (·.value)) (ho : (l.take i).any (·.over) = false) : togF n l = if (sumF qs).2 && (sumF vs).2 then ⟨n.1, n.2, (sumF qs).1, (sumF vs).1, false⟩ else ⟨n.1, n.2, 0, 0, true⟩ := by
  rw [List.take_of_length_le hi] at *
  unfold togF; rw [if_neg (by rw [ho]; simp), ← hq, ← hv]
theorem any_next {l : List Po} {i : Nat} {x : Po} (hx : l[i]? = some x) (h : (l.take i).any (·.over) = false) (h2 : x.over = false) : (l.take (i + 1)).any (·.over) = false := by
  rw [take_next hx, List.any_append, h]; simp [h2]
theorem grpF_fuel : ∀ (k k' : Nat) (l : List Po), l.length ≤ k → l.length ≤ k' → grpF k l = grpF k' l
  | 0, 0, _, _, _ => rfl
  | 0, k' + 1, [], _, _ => rfl
  | k + 1, 0, [], _, _ => rfl
  | 0, _ + 1, _ :: _, h, _ => absurd h (by simp)
  | _ + 1, 0, _ :: _, _, h => absurd h (by simp)
  | k + 1, k' + 1, [], _, _ => rfl
  | k + 1, k' + 1, p :: l, h, h' => by
    rw [grpF, grpF, grpF_fuel k k']
    · have := (List.dropWhile_sublist (fun q => decide (nmP q = nmP p)) (l := l)).length_le
      simp only [List.length_cons] at h; omega
    · have := (List.dropWhile_sublist (fun q => decide (nmP q = nmP p)) (l := l)).length_le
      simp only [List.length_cons] at h'; omega
def grpA (l : List Po) : List Po := grpF l.length l
abbrev smB (p : Po) : Po → Bool := fun q => decide (nmP q = nmP p)
theorem grpA_cons {p : Po} {l : List Po} : grpA (p :: l) = togF (nmP p) (p :: l.takeWhile (smB p)) :: grpA (l.dropWhile (smB p)) := by
  unfold grpA
  show grpF (l.length + 1) (p :: l) = _
  rw [grpF]
  congr 1
  refine grpF_fuel _ _ _ ?_ (Nat.le_refl _)
  exact (List.dropWhile_sublist _).length_le
theorem mergeF_eq {ls : List (List Po)} (h : ls.all riseP = true) : mergeF ls = (grpA (stbP ls.flatten), 0) := by
  unfold mergeF grpA; rw [if_pos h, stbP_len]
theorem tw_get {p : Po} {r : List Po} (k : Nat) : r[k]? = (r.takeWhile (smB p) ++ r.dropWhile (smB p))[k]? := by rw [List.takeWhile_append_dropWhile]
theorem tw_sp {p : Po} {r : List Po} : ∃ s t, r = s ++ t ∧ s = r.takeWhile (smB p) ∧ t = r.dropWhile (smB p) := ⟨_, _, List.takeWhile_append_dropWhile.symm, rfl, rfl⟩
theorem tw_next {p y : Po} {r : List Po} {n : Nat} (h1 : 1 ≤ n) (hn : n ≤ 1 + (r.takeWhile (smB p)).length) (hy : (p :: r)[n]? = some y) (h : cmpN (nmP p) (nmP y) = 0) : n + 1 ≤ 1 + (r.takeWhile (smB p)).length := by
  obtain ⟨k, rfl⟩ : ∃ k, n = k + 1 := ⟨n - 1, by omega⟩
  rw [List.getElem?_cons_succ] at hy
  rcases Nat.lt_or_ge k (r.takeWhile (smB p)).length with h2 | h2
  · omega
  · exfalso
    have hk : k = (r.takeWhile (smB p)).length := by omega
    have hd : (r.dropWhile (smB p))[0]? = some y := by
      rw [← hy, hk]
      have e := tw_get (p := p) (r := r) (r.takeWhile (smB p)).length
      rw [e, List.getElem?_append_right (Nat.le_refl _), Nat.sub_self]
    have := List.head?_dropWhile_not (smB p) r
    rw [List.head?_eq_getElem?, hd] at this
    simp only [smB, decide_eq_false_iff_not] at this
    exact this (cmpN_eq.1 h).symm
theorem tw_stop {p y : Po} {r : List Po} {n : Nat} (h1 : 1 ≤ n) (hn : n ≤ 1 + (r.takeWhile (smB p)).length) (hy : (p :: r)[n]? = some y) (h : ¬ cmpN (nmP p) (nmP y) = 0) : n = 1 + (r.takeWhile (smB p)).length := by
  obtain ⟨k, rfl⟩ : ∃ k, n = k + 1 := ⟨n - 1, by omega⟩
  rw [List.getElem?_cons_succ] at hy
  rcases Nat.lt_or_ge k (r.takeWhile (smB p)).length with h2 | h2
  · exfalso
    have ht : (r.takeWhile (smB p))[k]? = some y := by
      rw [← hy, tw_get (p := p) (r := r) k, List.getElem?_append_left h2]
    have := List.all_eq_true.1 (List.all_takeWhile (p := smB p) (l := r)) y (List.mem_of_getElem? ht)
    simp only [smB, decide_eq_true_eq] at this
    exact h (cmpN_eq.2 this.symm)
  · omega
theorem tw_end {p : Po} {r : List Po} {n : Nat} (hn : n ≤ 1 + (r.takeWhile (smB p)).length) (h : (p :: r).length ≤ n) : n = 1 + (r.takeWhile (smB p)).length := by
  have := (List.takeWhile_sublist (smB p) (l := r)).length_le
  simp only [List.length_cons] at h; omega
theorem tw_take {p : Po} {r : List Po} : (p :: r).take (1 + (r.takeWhile (smB p)).length) = p :: r.takeWhile (smB p) := by
  rw [Nat.add_comm, List.take_succ_cons]
  congr 1
  obtain ⟨s, t, h, hs, ht⟩ := tw_sp (p := p) (r := r)
  rw [← hs]; rw [h]; simp
theorem tw_drop {p : Po} {r : List Po} : (p :: r).drop (1 + (r.takeWhile (smB p)).length) = r.dropWhile (smB p) := by
  rw [Nat.add_comm, List.drop_succ_cons]
  obtain ⟨s, t, h, hs, ht⟩ := tw_sp (p := p) (r := r)
  rw [← hs, ← ht]; rw [h]; simp
theorem tw_le {p : Po} {r : List Po} : 1 + (r.takeWhile (smB p)).length ≤ (p :: r).length := by
  have := (List.takeWhile_sublist (smB p) (l := r)).length_le
  simp only [List.length_cons]; omega
theorem flat_next {ls : List (List Po)} {i : Nat} {l : List Po} (h : ls[i]? = some l) : (ls.take (i + 1)).flatten = (ls.take i).flatten ++ l := by rw [take_next h]; simp
theorem flat_len {ls : List (List Po)} {i : Nat} : (ls.take i).flatten.length ≤ ls.flatten.length := by
  have h : ls.flatten = (ls.take i).flatten ++ (ls.drop i).flatten := by rw [← List.flatten_append, List.take_append_drop]
  rw [h, List.length_append]; omega
theorem mem_len {ls : List (List Po)} {i : Nat} {l : List Po} (h : ls[i]? = some l) : l.length ≤ ls.flatten.length := by
  have h1 := flat_next h
  have h2 := flat_len (ls := ls) (i := i + 1)
  rw [h1, List.length_append] at h2; omega
theorem all_riseNext {ls : List (List Po)} {i : Nat} {l : List Po} (h : ls[i]? = some l) (h1 : (ls.take i).all riseP = true) (h2 : riseP l = true) : (ls.take (i + 1)).all riseP = true := by
  rw [take_next h, List.all_append, h1]; simp [h2]
theorem all_riseNo {ls : List (List Po)} {i : Nat} {l : List Po} (h : ls[i]? = some l) (h2 : riseP l = false) : mergeF ls = ([], 1) := merge_bad fun e => by
  have := List.all_eq_true.1 e l (List.mem_of_getElem? h)
  rw [h2] at this; exact absurd this (by simp)
theorem all_riseEnd {ls : List (List Po)} {i : Nat} (hi : ls.length ≤ i) (h : (ls.take i).all riseP = true) : ls.all riseP = true := by rwa [List.take_of_length_le hi] at h
end Go.Bk

/- Names sorted, each once. No program. -/
set_option linter.unusedVariables false
set_option linter.unusedSimpArgs false
namespace Go.Bk
open Go Go.Abs
def srtN (l : List Nm) : List Nm := l.mergeSort fun x y => !ltN y x
theorem srtN_len (l : List Nm) : (srtN l).length = l.length := List.length_mergeSort l
/-- Of the first i, each that isn't the one ahead of it. -/
def cG (l : List Nm) : Nat → List Nm
  | 0 => []
  | i + 1 => if 0 < i ∧ l[i]? = l[i - 1]? then cG l i else cG l i ++ (l[i]?).toList
def cmpct (l : List Nm) : List Nm := cG l l.length
theorem cG_one (l : List Nm) : cG l 1 = l.take 1 := by
  rw [cG, if_neg (by omega)]
  cases l <;> rfl
theorem cG_no {l : List Nm} {i : Nat} {x y : Nm} (hi : 0 < i) (hx : l[i]? = some x) (hy : l[i - 1]? = some y) (h : ¬ x = y) : cG l (i + 1) = cG l i ++ [x] := by
  rw [cG, if_neg (by rw [hx, hy]; simpa using fun _ => h), hx]; rfl
theorem cG_yes {l : List Nm} {i : Nat} {x y : Nm} (hi : 0 < i) (hx : l[i]? = some x) (hy : l[i - 1]? = some y) (h : x = y) : cG l (i + 1) = cG l i := by
  rw [cG, if_pos ⟨hi, by rw [hx, hy, h]⟩]
theorem cmpct_short {l : List Nm} (h : l.length < 2) : cmpct l = l := by
  match l, h with
  | [], _ => rfl
  | [x], _ => exact cG_one [x]
theorem cG_mem {l : List Nm} : ∀ (i : Nat) (x : Nm), x ∈ cG l i ↔ x ∈ l.take i
  | 0, x => by simp [cG]
  | i + 1, x => by
    rw [cG]
    split
    · rename_i h
      rw [cG_mem i x]
      cases hx : l[i]? with
      | none => rw [List.take_add_one, hx]; simp
      | some y =>
        rw [take_next hx, List.mem_append, List.mem_singleton]
        constructor
        · exact .inl
        · rintro (h2 | rfl)
          · exact h2
          · refine List.mem_iff_getElem?.2 ⟨i - 1, ?_⟩
            rw [List.getElem?_take, if_pos (by omega), ← h.2, hx]
    · rw [List.mem_append, cG_mem i x, List.take_add_one, List.mem_append]
theorem cG_rise {l : List Nm} (hs : l.Pairwise fun x y => ltN y x = false) : ∀ (i : Nat), (cG l i).Pairwise (fun x y => ltN x y = true)
  | 0 => List.Pairwise.nil
  | i + 1 => by
    rw [cG]
    split
    · exact cG_rise hs i
    · rename_i h
      cases hx : l[i]? with
      | none => simpa using cG_rise hs i
      | some x =>
        refine List.pairwise_append.2 ⟨cG_rise hs i, by simp, fun y hy z hz => ?_⟩
        simp only [Option.toList_some, List.mem_singleton] at hz
        subst hz
        obtain ⟨k, hk⟩ := List.mem_iff_getElem?.1 ((cG_mem i y).1 hy)
        rw [List.getElem?_take] at hk
        split at hk
        · rename_i hki
          have hle : ∀ {a b : Nat} {u v : Nm}, a < b → l[a]? = some u → l[b]? = some v → ltN v u = false := fun {a b} {u v} hab hu hv => by
            obtain ⟨ha, rfl⟩ := List.getElem?_eq_some_iff.1 hu
            obtain ⟨hb, rfl⟩ := List.getElem?_eq_some_iff.1 hv
            exact List.pairwise_iff_getElem.1 hs a b ha hb hab
          obtain ⟨w, hw⟩ : ∃ w, l[i - 1]? = some w := ⟨_, List.getElem?_eq_getElem (by have := get_lt hx; omega)⟩
          have h1 : ltN z w = false := hle (by omega) hw hx
          have hzw : z ≠ w := fun e => h ⟨by omega, by rw [hx, hw, e]⟩
          have h2 : ltN w z = true := by
            rcases ltN_tri w z with h3 | h3 | h3
            · exact h3
            · exact absurd h3.symm hzw
            · rw [h3] at h1; exact absurd h1 (by simp)
          rcases Nat.lt_or_ge k (i - 1) with h3 | h3
          · have h4 : ltN w y = false := hle h3 hk hw
            rcases ltN_tri y w with h5 | h5 | h5
            · exact ltN_trans h5 h2
            · rw [h5]; exact h2
            · rw [h5] at h4; exact absurd h4 (by simp)
          · have : k = i - 1 := by omega
            subst this; rw [hk] at hw; cases hw; exact h2
        · exact absurd hk (by simp)
theorem srtN_sorted (l : List Nm) : (srtN l).Pairwise fun x y => ltN y x = false := by
  have h := List.pairwise_mergeSort (le := fun x y : Nm => !ltN y x) (fun a b c h1 h2 => by
    simp only [Bool.not_eq_true'] at *
    exact ltN_nt h2 h1) (fun a b => by
    rcases ltN_tri a b with h | h | h
    · simp [ltN_asym h]
    · subst h; simp [ltN_irrefl]
    · simp [ltN_asym h]) l
  exact h.imp fun {a b} h => by simpa using h
theorem srtN_mem {l : List Nm} {x : Nm} : x ∈ srtN l ↔ x ∈ l := (List.mergeSort_perm l _).mem_iff
/-- A book's names, rising, each once. -/
def nmsB (b : Bk) : List Nm := b.fills.map fun f => (f.acc, f.sym)
def allP (b : Bk) : List Po := if rightBk b then (cmpct (srtN (nmsB b))).map (fun n => posF b n.1 n.2) else []
theorem cmpct_mem {l : List Nm} {x : Nm} : x ∈ cmpct l ↔ x ∈ l := by
  unfold cmpct; rw [cG_mem, List.take_length]
theorem nms_rise (l : List Nm) : (cmpct (srtN l)).Pairwise (fun x y => ltN x y = true) := cG_rise (srtN_sorted l) _
theorem cmpct_len (l : List Nm) : (cmpct l).length ≤ l.length := by
  unfold cmpct
  generalize l.length = n
  induction n with
  | zero => simp [cG]
  | succ i ih =>
    rw [cG]; split
    · omega
    · rw [List.length_append]; cases l[i]? <;> simp <;> omega
end Go.Bk

/- A day is closed; what an account has then; the worst. No program. -/
set_option linter.unusedVariables false
set_option linter.unusedSimpArgs false
namespace Go.Bk
open Go Go.Abs
def finsB (b : Bk) : List Dn := b.fills.filter fun f => finalF b f
def restB (b : Bk) : List Dn := b.fills.filter fun f => !finalF b f
def doneB (b : Bk) : Bk := ⟨[], finsB b, b.ids, b.clock, 0⟩
def closeF (b : Bk) : Bk × List Po × Int :=
  if rightBk b then (if (allP (doneB b)).any (·.over) then (b, [], 9) else (⟨b.orders, restB b, b.ids, b.clock, b.bad⟩, allP (doneB b), 0)) else (b, [], 1)
theorem dayc_no {b : Bk} (h : rightBk b = false) : closeF b = (b, [], 1) := by unfold closeF; rw [if_neg (by rw [h]; simp)]
theorem dayc_over {b : Bk} (h : rightBk b = true) (h2 : (allP (doneB b)).any (·.over) = true) : closeF b = (b, [], 9) := by unfold closeF; rw [if_pos h, if_pos h2]
theorem dayc_ok {b : Bk} (h : rightBk b = true) (h2 : (allP (doneB b)).any (·.over) = false) : closeF b = (⟨b.orders, restB b, b.ids, b.clock, b.bad⟩, allP (doneB b), 0) := by unfold closeF; rw [if_pos h, if_neg (by rw [h2]; simp)]
def hasR (b : Bk) (car : List Po) (a s : Bs) : Po :=
  if (mergeF [[posF b a s], [getP car (a, s)]]).2 ≠ 0 then ⟨a, s, 0, 0, true⟩ else getP (mergeF [[posF b a s], [getP car (a, s)]]).1 (a, s)
def worstR (b : Bk) (car : List Po) (a s : Bs) : Ws :=
  if (getP car (a, s)).over then ofF b a s else plusW (ofF b a s) ((getP car (a, s)).qty, IntKind.i64.wrap (0 - (getP car (a, s)).qty))
theorem fil_no {l : List Dn} {p : Dn → Bool} {i : Nat} {f : Dn} (hf : l[i]? = some f) (h : p f = false) : (l.take (i + 1)).filter p = (l.take i).filter p := by
  rw [take_next hf, List.filter_append]; simp [h]
theorem fil_yes {l : List Dn} {p : Dn → Bool} {i : Nat} {f : Dn} (hf : l[i]? = some f) (h : p f = true) : (l.take (i + 1)).filter p = (l.take i).filter p ++ [f] := by
  rw [take_next hf, List.filter_append]; simp [h]
theorem allP_len (b : Bk) : (allP b).length ≤ b.fills.length := by
  unfold allP; split
  · rw [List.length_map]
    have := cmpct_len (srtN (nmsB b))
    rw [srtN_len] at this
    simpa [nmsB] using this
  · simp
/-- The fixed answer. -/
def awB : Bk := ⟨[], [⟨[97], [], [99], [115], true, 4, 5, 0, true⟩, ⟨[98], [], [99], [115], true, 2, 6, 15, true⟩], [[97], [98]], 20, 0⟩
def awN : Bk := ⟨[], [⟨[98], [], [99], [115], true, 2, 6, 15, true⟩], [[97], [98]], 20, 0⟩
theorem srtN_one (x : Nm) : srtN [x] = [x] := List.mergeSort_singleton x
theorem aw_right : rightBk awB = true := by decide
theorem aw_fins : finsB awB = [⟨[97], [], [99], [115], true, 4, 5, 0, true⟩] := by decide
theorem aw_rest : restB awB = [⟨[98], [], [99], [115], true, 2, 6, 15, true⟩] := by decide
theorem aw_all : allP (doneB awB) = [⟨[99], [115], 4, 20, false⟩] := by
  have e1 : doneB awB = ⟨[], [⟨[97], [], [99], [115], true, 4, 5, 0, true⟩], [[97], [98]], 20, 0⟩ := by unfold doneB; rw [aw_fins]; rfl
  rw [e1]
  unfold allP
  rw [if_pos (by decide)]
  have e2 : nmsB ⟨[], [⟨[97], [], [99], [115], true, 4, 5, 0, true⟩], [[97], [98]], 20, 0⟩ = [([99], [115])] := rfl
  rw [e2, srtN_one, cmpct_short (by simp)]
  rfl
theorem aw_close : closeF awB = (awN, [⟨[99], [115], 4, 20, false⟩], 0) := by
  rw [dayc_ok aw_right (by rw [aw_all]; rfl), aw_all, aw_rest]; rfl
theorem aw_pos : posF awN [99] [115] = ⟨[99], [115], 2, 12, false⟩ := by rfl
theorem aw_get : getP [⟨[99], [115], 4, 20, false⟩] ([99], [115]) = ⟨[99], [115], 4, 20, false⟩ := by rfl
theorem aw_merge : mergeF [[⟨[99], [115], 2, 12, false⟩], [⟨[99], [115], 4, 20, false⟩]] = ([⟨[99], [115], 6, 32, false⟩], 0) := by
  have h : ([[⟨[99], [115], 2, 12, false⟩], [⟨[99], [115], 4, 20, false⟩]] : List (List Po)).all riseP = true := by decide
  refine Prod.ext ?_ (merge_ok h)
  refine Merged.uniq (merge_spec h) ⟨List.pairwise_singleton .., fun p => ?_⟩
  simp only [List.flatten_cons, List.flatten_nil, List.append_nil, List.cons_append, List.nil_append, List.mem_cons, List.not_mem_nil, or_false]
  constructor
  · rintro rfl
    exact ⟨⟨_, .inl rfl, rfl⟩, by rfl⟩
  · rintro ⟨⟨q, hq, e⟩, hp⟩
    have hn : nmP p = ([99], [115]) := by rcases hq with rfl | rfl <;> exact e.symm
    rw [hp, hn]; rfl
theorem aw_has : hasR awN [⟨[99], [115], 4, 20, false⟩] [99] [115] = ⟨[99], [115], 6, 32, false⟩ := by
  unfold hasR; rw [aw_pos, aw_get, aw_merge]; rfl
theorem aw_worst : worstR awN [⟨[99], [115], 4, 20, false⟩] [99] [115] = (6, -4) := by decide
end Go.Bk
