/- Texts of one chain, put together (StA, MrA, MrB, MrC, MrD, MrE, MrF, MrG, MrH, MrI, MrJ, Ld). -/
import Derived.Sort.LotA
import Derived.Test.YtajeeghgiilhiaaGreatKrD
section
/- A stable sort in place, as plain functions over an array, row for row after the library's Go text; what it comes to is a permutation, and sorted. No program. -/
set_option linter.unusedVariables false
set_option linter.unusedSimpArgs false
set_option linter.unusedSectionVars false
namespace Go.Stb
set_option linter.unusedSectionVars false
open Go.Sort
variable {α : Type} [Inhabited α]
def swpR (a b n i : Nat) (d : Array α) : Array α := if i < n then swpR a b n (i + 1) (swp d (a + i) (b + i)) else d
termination_by n - i
def rotL (m i j : Nat) (d : Array α) : Array α :=
  if h : i = 0 ∨ j = 0 then d
  else if i = j then swpR (m - i) m i 0 d
  else if j < i then rotL m (i - j) j (swpR (m - i) m j 0 d)
  else rotL m i (j - i) (swpR (m - i) (m + j - i) i 0 d)
termination_by i + j
decreasing_by all_goals omega
def bsG (q : Nat → Bool) (i j : Nat) : Nat := if i < j then (if q ((i + j) / 2) = true then bsG q ((i + j) / 2 + 1) j else bsG q i ((i + j) / 2)) else i
termination_by j - i
decreasing_by all_goals omega
def upS (k e : Nat) (d : Array α) : Array α := if k + 1 < e then upS (k + 1) e (swp d k (k + 1)) else d
termination_by e - k
def dnS (i : Nat) : Nat → Array α → Array α
  | 0, d => d
  | k + 1, d => if i < k + 1 then dnS i k (swp d (k + 1) k) else d
section
variable (lt : α → α → Bool)
def sCut (a m b : Nat) (d : Array α) : Nat := bsG (fun c => !lt d[(a + b) / 2 + m - 1 - c]! d[c]!) (if (a + b) / 2 < m then (a + b) / 2 + m - b else a) (if (a + b) / 2 < m then (a + b) / 2 else m)
def rotIf (a m b : Nat) (d : Array α) : Array α := if sCut lt a m b d < m ∧ m < (a + b) / 2 + m - sCut lt a m b d then rotL m (m - sCut lt a m b d) ((a + b) / 2 + m - sCut lt a m b d - m) d else d
def symM (a m b : Nat) (d : Array α) : Array α :=
  if m - a = 1 then upS a (bsG (fun h => lt d[h]! d[a]!) m b) d
  else if b - m = 1 then dnS (bsG (fun h => !lt d[m]! d[h]!) a m) m d
  else
    if h2 : (a + b) / 2 < (a + b) / 2 + m - sCut lt a m b d ∧ (a + b) / 2 + m - sCut lt a m b d < b then
      symM ((a + b) / 2) ((a + b) / 2 + m - sCut lt a m b d) b (if h1 : a < sCut lt a m b d ∧ sCut lt a m b d < (a + b) / 2 then symM a (sCut lt a m b d) ((a + b) / 2) (rotIf lt a m b d) else rotIf lt a m b d)
    else if h1 : a < sCut lt a m b d ∧ sCut lt a m b d < (a + b) / 2 then symM a (sCut lt a m b d) ((a + b) / 2) (rotIf lt a m b d) else rotIf lt a m b d
termination_by b - a
decreasing_by all_goals omega
def insB (n a b : Nat) (d : Array α) : Array α := if b ≤ n then insB n b (b + 20) (insertionSort lt d a b) else insertionSort lt d a n
termination_by n + 1 - b
def mrgP (n s a b : Nat) (d : Array α) : Array α :=
  if s = 0 then d else if b ≤ n then mrgP n s b (b + 2 * s) (symM lt a (a + s) b d) else if a + s < n then symM lt a (a + s) n d else d
termination_by n + 1 - b
def mrgL (n s : Nat) (d : Array α) : Array α := if h : 0 < s ∧ s < n then mrgL n (s * 2) (mrgP lt n s 0 (2 * s) d) else d
termination_by n - s
def stable (d : Array α) : Array α := mrgL lt d.size 20 (insB lt d.size 0 20 d)
end
theorem sg (d : Array α) {i j : Nat} (hi : i < d.size) (hj : j < d.size) (k : Nat) : (swp d i j)[k]! = if k = i then d[j]! else if k = j then d[i]! else d[k]! := by
  by_cases h1 : k = i
  · subst h1; rw [if_pos rfl]
    by_cases h2 : k = j
    · subst h2; exact swp_right d k k hj
    · exact swp_left d k j hi h2
  · rw [if_neg h1]
    by_cases h2 : k = j
    · subst h2; rw [if_pos rfl]; exact swp_right d i k hj
    · rw [if_neg h2]; exact swp_other d i j k h1 h2
theorem swpR_perm {a b n x y : Nat} : ∀ (r i : Nat) (d : Array α), n - i = r → x ≤ a → a + n ≤ y → x ≤ b → b + n ≤ y → y ≤ d.size → PermIn x y d (swpR a b n i d)
  | 0, i, d, hr, _, _, _, _, _ => by rw [swpR, if_neg (by omega)]; exact permIn_refl d x y
  | r + 1, i, d, hr, h1, h2, h3, h4, h5 => by
    rw [swpR, if_pos (by omega)]
    have h := swp_permIn d x y (a + i) (b + i) (by omega) (by omega) (by omega) (by omega) h5
    exact permIn_trans _ _ _ x y h (swpR_perm r (i + 1) _ (by omega) h1 h2 h3 h4 (by rw [size_swp]; exact h5))
theorem swpR_size (a b n : Nat) : ∀ (r i : Nat) (d : Array α), n - i = r → (swpR a b n i d).size = d.size
  | 0, i, d, hr => by rw [swpR, if_neg (by omega)]
  | r + 1, i, d, hr => by rw [swpR, if_pos (by omega), swpR_size a b n r (i + 1) _ (by omega), size_swp]
/-- Two ranges of n that don't meet are exchanged. -/
theorem swpR_get {a b n : Nat} (hab : a + n ≤ b) : ∀ (r i : Nat) (d : Array α), n - i = r → b + n ≤ d.size → ∀ k,
    (swpR a b n i d)[k]! = if a + i ≤ k ∧ k < a + n then d[k - a + b]! else if b + i ≤ k ∧ k < b + n then d[k - b + a]! else d[k]!
  | 0, i, d, hr, hb, k => by rw [swpR, if_neg (by omega), if_neg (by omega), if_neg (by omega)]
  | r + 1, i, d, hr, hb, k => by
    rw [swpR, if_pos (by omega), swpR_get hab r (i + 1) _ (by omega) (by rw [size_swp]; exact hb)]
    have g := sg d (i := a + i) (j := b + i) (by omega) (by omega)
    rw [g, g, g]
    by_cases h1 : a + (i + 1) ≤ k ∧ k < a + n
    · rw [if_pos h1, if_neg (by omega), if_neg (by omega), if_pos (by omega)]
    · rw [if_neg h1]
      by_cases h2 : b + (i + 1) ≤ k ∧ k < b + n
      · rw [if_pos h2, if_neg (by omega), if_neg (by omega), if_neg (by omega), if_pos (by omega)]
      · rw [if_neg h2]
        by_cases h3 : k = a + i
        · subst h3; rw [if_pos rfl, if_pos (by omega)]; congr 1; omega
        · rw [if_neg h3]
          by_cases h4 : k = b + i
          · subst h4; rw [if_pos rfl, if_neg (by omega), if_pos (by omega)]; congr 1; omega
          · rw [if_neg h4, if_neg (by omega), if_neg (by omega)]
theorem rotL_perm {m x y : Nat} : ∀ (r i j : Nat) (d : Array α), i + j ≤ r → x + i ≤ m → m + j ≤ y → y ≤ d.size → PermIn x y d (rotL m i j d)
  | r, i, j, d, hr, h1, h2, h3 => by
    rw [rotL]
    split
    · exact permIn_refl d x y
    · rename_i h0
      split
      · exact swpR_perm _ 0 d rfl (by omega) (by omega) (by omega) (by omega) h3
      · split
        · rename_i hn hj
          match r, hr with
          | r + 1, hr => exact permIn_trans _ _ _ x y (swpR_perm _ 0 d rfl (by omega) (by omega) (by omega) (by omega) h3) (rotL_perm r (i - j) j _ (by omega) (by omega) h2 (by rw [swpR_size _ _ _ _ 0 d rfl]; exact h3))
          | 0, hr => omega
        · rename_i hn hj
          match r, hr with
          | r + 1, hr => exact permIn_trans _ _ _ x y (swpR_perm _ 0 d rfl (by omega) (by omega) (by omega) (by omega) h3) (rotL_perm r i (j - i) _ (by omega) h1 (by omega) (by rw [swpR_size _ _ _ _ 0 d rfl]; exact h3))
          | 0, hr => omega
/-- [m-i, m) and [m, m+j) change places. -/
theorem rotL_get {m : Nat} : ∀ (r i j : Nat) (d : Array α), i + j ≤ r → i ≤ m → m + j ≤ d.size → 0 < i → 0 < j → ∀ k,
    (rotL m i j d)[k]! = if m - i ≤ k ∧ k < m - i + j then d[k + i]! else if m - i + j ≤ k ∧ k < m + j then d[k - j]! else d[k]!
  | r, i, j, d, hr, h1, h2, hi, hj, k => by
    rw [rotL, dif_neg (by omega)]
    by_cases e : i = j
    · subst e
      rw [if_pos rfl, swpR_get (by omega) _ 0 d rfl (by omega)]
      by_cases q1 : m - i ≤ k ∧ k < m - i + i
      · rw [if_pos (by omega), if_pos q1]; congr 1; omega
      · rw [if_neg (by omega), if_neg q1]
        by_cases q2 : m - i + i ≤ k ∧ k < m + i
        · rw [if_pos (by omega), if_pos q2]; congr 1; omega
        · rw [if_neg (by omega), if_neg q2]
    · rw [if_neg e]
      by_cases l : j < i
      · rw [if_pos l]
        match r, hr with
        | 0, hr => omega
        | r + 1, hr =>
          rw [rotL_get r (i - j) j _ (by omega) (by omega) (by rw [swpR_size _ _ _ _ 0 d rfl]; exact h2) (by omega) hj]
          simp only [swpR_get (a := m - i) (b := m) (n := j) (by omega) _ 0 d rfl (by omega)]
          by_cases q1 : m - i ≤ k ∧ k < m - i + j
          · rw [if_neg (by omega), if_neg (by omega), if_pos (by omega), if_pos q1]; congr 1; omega
          · by_cases q2 : m - i + j ≤ k ∧ k < m + j
            · rw [if_neg q1, if_pos q2]
              by_cases q3 : m - (i - j) ≤ k ∧ k < m - (i - j) + j
              · rw [if_pos q3]
                by_cases q4 : k + (i - j) < m
                · omega
                · rw [if_neg (by omega), if_pos (by omega)]; congr 1; omega
              · rw [if_neg q3, if_pos (by omega), if_neg (by omega), if_neg (by omega)]
            · rw [if_neg q1, if_neg q2, if_neg (by omega), if_neg (by omega), if_neg (by omega), if_neg (by omega)]
      · rw [if_neg l]
        match r, hr with
        | 0, hr => omega
        | r + 1, hr =>
          rw [rotL_get r i (j - i) _ (by omega) (by omega) (by rw [swpR_size _ _ _ _ 0 d rfl]; omega) hi (by omega)]
          simp only [swpR_get (a := m - i) (b := m + j - i) (n := i) (by omega) _ 0 d rfl (by omega)]
          by_cases q1 : m - i ≤ k ∧ k < m - i + j
          · rw [if_pos q1]
            by_cases q3 : k < m - i + (j - i)
            · rw [if_pos (by omega), if_neg (by omega), if_neg (by omega)]
            · by_cases q5 : k < m
              · rw [if_neg (by omega), if_pos (by omega)]
                by_cases q4 : m - i ≤ k - (j - i) ∧ k - (j - i) < m - i + i
                · rw [if_pos (by omega)]; congr 1; omega
                · omega
              · rw [if_neg (by omega), if_pos (by omega), if_pos (by omega)]; congr 1; omega
          · by_cases q2 : m - i + j ≤ k ∧ k < m + j
            · rw [if_neg q1, if_pos q2, if_neg (by omega), if_neg (by omega), if_neg (by omega), if_pos (by omega)]; congr 1; omega
            · rw [if_neg q1, if_neg q2, if_neg (by omega), if_neg (by omega), if_neg (by omega), if_neg (by omega)]
theorem bsG_spec {q : Nat → Bool} {lo hi : Nat} (mono : ∀ x y, lo ≤ x → x ≤ y → y < hi → q y = true → q x = true) : ∀ (r i j : Nat), j - i ≤ r → lo ≤ i → i ≤ j → j ≤ hi → (∀ x, lo ≤ x → x < i → q x = true) → (∀ x, j ≤ x → x < hi → q x = false) →
    i ≤ bsG q i j ∧ bsG q i j ≤ j ∧ (∀ x, lo ≤ x → x < bsG q i j → q x = true) ∧ (∀ x, bsG q i j ≤ x → x < hi → q x = false)
  | r, i, j, hr, h1, h2, h3, h4, h5 => by
    rw [bsG]
    by_cases hij : i < j
    · rw [if_pos hij]
      match r, hr with
      | 0, hr => omega
      | r + 1, hr =>
        by_cases hq : q ((i + j) / 2) = true
        · rw [if_pos hq]
          have := bsG_spec mono r ((i + j) / 2 + 1) j (by omega) (by omega) (by omega) h3 (fun x a b => mono x _ a (by omega) (by omega) hq) h5
          exact ⟨by omega, this.2.1, this.2.2⟩
        · rw [if_neg hq]
          have := bsG_spec mono r i ((i + j) / 2) (by omega) h1 (by omega) (by omega) h4 (fun x a b => by
            cases hx : q x with
            | false => rfl
            | true => exact absurd (mono _ x (by omega) a b hx) hq)
          exact ⟨this.1, by omega, this.2.2⟩
    · rw [if_neg hij]
      exact ⟨Nat.le_refl _, h2, h4, fun x a b => h5 x (by omega) b⟩
theorem upS_perm {x y e : Nat} : ∀ (r k : Nat) (d : Array α), e - k ≤ r → x ≤ k → e ≤ y → y ≤ d.size → PermIn x y d (upS k e d)
  | r, k, d, hr, h1, h2, h3 => by
    rw [upS]
    split
    · match r, hr with
      | 0, hr => omega
      | r + 1, hr => exact permIn_trans _ _ _ x y (swp_permIn d x y k (k + 1) h1 (by omega) (by omega) (by omega) h3) (upS_perm r (k + 1) _ (by omega) (by omega) h2 (by rw [size_swp]; exact h3))
    · exact permIn_refl d x y
theorem upS_get {e : Nat} : ∀ (r k : Nat) (d : Array α), e - k ≤ r → e ≤ d.size → ∀ x, (upS k e d)[x]! = if k ≤ x ∧ x + 1 < e then d[x + 1]! else if k ≤ x ∧ x + 1 = e then d[k]! else d[x]!
  | r, k, d, hr, h, x => by
    rw [upS]
    by_cases hk : k + 1 < e
    · rw [if_pos hk]
      match r, hr with
      | 0, hr => omega
      | r + 1, hr =>
        rw [upS_get r (k + 1) _ (by omega) (by rw [size_swp]; exact h)]
        simp only [sg d (i := k) (j := k + 1) (by omega) (by omega)]
        by_cases q1 : k + 1 ≤ x ∧ x + 1 < e
        · rw [if_pos q1, if_neg (by omega), if_neg (by omega), if_pos (by omega)]
        · rw [if_neg q1]
          by_cases q2 : k + 1 ≤ x ∧ x + 1 = e
          · rw [if_pos q2, if_neg (by omega), if_pos trivial, if_neg (by omega), if_pos (by omega)]
          · rw [if_neg q2]
            by_cases q3 : x = k
            · subst q3; rw [if_pos rfl, if_pos (by omega)]
            · rw [if_neg q3, if_neg (by omega), if_neg (by omega), if_neg (by omega)]
    · rw [if_neg hk, if_neg (by omega)]
      by_cases q : k ≤ x ∧ x + 1 = e
      · rw [if_pos q]; congr 1; omega
      · rw [if_neg q]
theorem dnS_perm {x y i : Nat} : ∀ (k : Nat) (d : Array α), x ≤ i → k < y → y ≤ d.size → PermIn x y d (dnS i k d)
  | 0, d, _, _, _ => permIn_refl d x y
  | k + 1, d, h1, h2, h3 => by
    unfold dnS
    split
    · exact permIn_trans _ _ _ x y (swp_permIn d x y (k + 1) k (by omega) h2 (by omega) (by omega) h3) (dnS_perm k _ h1 (by omega) (by rw [size_swp]; exact h3))
    · exact permIn_refl d x y
theorem dnS_get {i : Nat} : ∀ (k : Nat) (d : Array α), k < d.size → ∀ x, (dnS i k d)[x]! = if i < x ∧ x ≤ k then d[x - 1]! else if x = i ∧ i ≤ k then d[k]! else d[x]!
  | 0, d, h, x => by
    unfold dnS
    rw [if_neg (by omega)]
    by_cases q : x = i ∧ i ≤ 0
    · rw [if_pos q]; congr 1; omega
    · rw [if_neg q]
  | k + 1, d, h, x => by
    unfold dnS
    by_cases hk : i < k + 1
    · rw [if_pos hk, dnS_get k _ (by rw [size_swp]; omega)]
      simp only [sg d (i := k + 1) (j := k) (by omega) (by omega)]
      by_cases q1 : i < x ∧ x ≤ k
      · rw [if_pos q1, if_neg (by omega), if_neg (by omega), if_pos (by omega)]
      · rw [if_neg q1]
        by_cases q2 : x = i ∧ i ≤ k
        · rw [if_pos q2, if_neg (by omega), if_pos trivial, if_neg (by omega), if_pos (by omega)]
        · rw [if_neg q2]
          by_cases q3 : x = k + 1
          · subst q3; rw [if_pos rfl, if_pos (by omega)]; rfl
          · rw [if_neg q3, if_neg (by omega), if_neg (by omega), if_neg (by omega)]
    · rw [if_neg hk, if_neg (by omega)]
      by_cases q : x = i ∧ i ≤ k + 1
      · rw [if_pos q]; congr 1; omega
      · rw [if_neg q]
section
variable {lt : α → α → Bool}
theorem asym (h : SWO lt) {x y : α} (hxy : lt x y = true) : lt y x = false := by
  cases hyx : lt y x with
  | false => rfl
  | true => have := h.trans x y x hxy hyx; rw [h.irrefl] at this; cases this
theorem srt_congr {a b : Nat} {d d' : Array α} (hs : SortedIn lt a b d) (h : ∀ i, a ≤ i → i < b → d'[i]! = d[i]!) : SortedIn lt a b d' := fun i j hi hij hj => by
  rw [h i hi (by omega), h j (by omega) hj]
  exact hs i j hi hij hj
theorem one1 (hS : SWO lt) {a b : Nat} {d : Array α} (hb : b ≤ d.size) (hab : a + 1 < b) (h2 : SortedIn lt (a + 1) b d) :
    PermIn a b d (upS a (bsG (fun h => lt d[h]! d[a]!) (a + 1) b) d) ∧ SortedIn lt a b (upS a (bsG (fun h => lt d[h]! d[a]!) (a + 1) b) d) := by
  obtain ⟨b1, b2, b3, b4⟩ := bsG_spec (q := fun h => lt d[h]! d[a]!) (lo := a + 1) (hi := b) (fun x y h1 hxy hy hq => by
    cases hx : lt d[x]! d[a]! with
    | true => rfl
    | false =>
      rcases Nat.lt_or_ge x y with h | h
      · have := hS.ntrans _ _ _ (h2 x y h1 h hy) hx
        simp only [this] at hq; cases hq
      · have : x = y := by omega
        subst this; simp only [hx] at hq; cases hq) _ (a + 1) b (Nat.le_refl _) (Nat.le_refl _) (by omega) (Nat.le_refl _) (fun x h1 h2 => by omega) (fun x h1 h2 => by omega)
  generalize bsG (fun h => lt d[h]! d[a]!) (a + 1) b = i at *
  refine ⟨upS_perm _ a d (Nat.le_refl _) (Nat.le_refl _) b2 hb, fun p q hp hpq hq => ?_⟩
  simp only [upS_get (e := i) _ a d (Nat.le_refl _) (by omega)]
  by_cases c1 : q + 1 < i
  · rw [if_pos (by omega), if_pos (by omega)]; exact h2 _ _ (by omega) (by omega) (by omega)
  · by_cases c2 : q + 1 = i
    · rw [if_neg (by omega), if_pos (by omega), if_pos (by omega)]
      exact asym hS (b3 (p + 1) (by omega) (by omega))
    · rw [if_neg (by omega), if_neg (by omega)]
      by_cases c3 : p + 1 < i
      · rw [if_pos (by omega)]; exact h2 _ _ (by omega) (by omega) (by omega)
      · rw [if_neg (by omega)]
        by_cases c4 : p + 1 = i
        · rw [if_pos (by omega)]; exact b4 q (by omega) hq
        · rw [if_neg (by omega)]; exact h2 _ _ (by omega) (by omega) (by omega)
theorem one2 (hS : SWO lt) {a m : Nat} {d : Array α} (hb : m + 1 ≤ d.size) (hab : a < m) (h2 : SortedIn lt a m d) :
    PermIn a (m + 1) d (dnS (bsG (fun h => !lt d[m]! d[h]!) a m) m d) ∧ SortedIn lt a (m + 1) (dnS (bsG (fun h => !lt d[m]! d[h]!) a m) m d) := by
  obtain ⟨b1, b2, b3, b4⟩ := bsG_spec (q := fun h => !lt d[m]! d[h]!) (lo := a) (hi := m) (fun x y h1 hxy hy hq => by
    simp only [Bool.not_eq_true'] at hq ⊢
    rcases Nat.lt_or_ge x y with h | h
    · exact hS.ntrans _ _ _ hq (h2 x y h1 h hy)
    · have : x = y := by omega
      subst this; exact hq) _ a m (Nat.le_refl _) (Nat.le_refl _) (by omega) (Nat.le_refl _) (fun x h1 h2 => by omega) (fun x h1 h2 => by omega)
  generalize bsG (fun h => !lt d[m]! d[h]!) a m = i at *
  simp only [Bool.not_eq_true', Bool.not_eq_false'] at b3 b4
  refine ⟨dnS_perm m d b1 (by omega) hb, fun p q hp hpq hq => ?_⟩
  simp only [dnS_get (i := i) m d (by omega)]
  by_cases c1 : q < i
  · rw [if_neg (by omega), if_neg (by omega), if_neg (by omega), if_neg (by omega)]; exact h2 _ _ hp hpq (by omega)
  · by_cases c2 : q = i
    · rw [if_neg (by omega), if_pos (by omega), if_neg (by omega), if_neg (by omega)]; exact b3 p hp (by omega)
    · rw [if_pos (by omega)]
      by_cases c3 : p < i
      · rw [if_neg (by omega), if_neg (by omega)]; exact h2 _ _ hp (by omega) (by omega)
      · by_cases c4 : p = i
        · rw [if_neg (by omega), if_pos (by omega)]; exact asym hS (b4 (q - 1) (by omega) (by omega))
        · rw [if_pos (by omega)]; exact h2 _ _ (by omega) (by omega) (by omega)
theorem cut_spec (hS : SWO lt) {a m b : Nat} {d : Array α} (ham : a < m) (hmb : m < b) (h1 : SortedIn lt a m d) (h2 : SortedIn lt m b d) :
    a ≤ sCut lt a m b d ∧ sCut lt a m b d ≤ m ∧ sCut lt a m b d ≤ (a + b) / 2 ∧ (a + b) / 2 + m - sCut lt a m b d ≤ b ∧
    (∀ i j, a ≤ i → i < sCut lt a m b d → (a + b) / 2 + m - sCut lt a m b d ≤ j → j < b → lt d[j]! d[i]! = false) ∧
    (∀ i j, m ≤ i → i < (a + b) / 2 + m - sCut lt a m b d → sCut lt a m b d ≤ j → j < m → lt d[j]! d[i]! = false) := by
  have key : ∀ mid s0 r0, mid = (a + b) / 2 → a ≤ s0 → s0 ≤ r0 → r0 ≤ m → r0 ≤ mid → mid + m ≤ b + s0 → (s0 = a ∨ mid + m = b + s0) → (r0 = m ∨ r0 = mid) →
      ∀ s, s = bsG (fun c => !lt d[mid + m - 1 - c]! d[c]!) s0 r0 → a ≤ s ∧ s ≤ m ∧ s ≤ mid ∧ mid + m - s ≤ b ∧
      (∀ i j, a ≤ i → i < s → mid + m - s ≤ j → j < b → lt d[j]! d[i]! = false) ∧ (∀ i j, m ≤ i → i < mid + m - s → s ≤ j → j < m → lt d[j]! d[i]! = false) := by
    intro mid s0 r0 hmid e1 e2 e3 e4 e5 e6 e7 s hs
    obtain ⟨b1, b2, b3, b4⟩ := bsG_spec (q := fun c => !lt d[mid + m - 1 - c]! d[c]!) (lo := s0) (hi := r0) (fun x y hx hxy hy hq => by
      simp only [Bool.not_eq_true'] at hq ⊢
      rcases Nat.lt_or_ge x y with h | h
      · have q1 := h1 x y (by omega) h (by omega)
        have q2 := h2 (mid + m - 1 - y) (mid + m - 1 - x) (by omega) (by omega) (by omega)
        exact hS.ntrans _ _ _ (hS.ntrans _ _ _ q2 hq) q1
      · have : x = y := by omega
        subst this; exact hq) _ s0 r0 (Nat.le_refl _) (Nat.le_refl _) e2 (Nat.le_refl _) (fun x h1 h2 => by omega) (fun x h1 h2 => by omega)
    rw [← hs] at b1 b2 b3 b4
    simp only [Bool.not_eq_true', Bool.not_eq_false'] at b3 b4
    refine ⟨by omega, by omega, by omega, by omega, fun i j hi his hj hjb => ?_, fun i j hi hie hj hjm => ?_⟩
    · have q := b3 (s - 1) (by omega) (by omega)
      rw [show mid + m - 1 - (s - 1) = mid + m - s by omega] at q
      have q1 : lt d[s - 1]! d[i]! = false := by
        rcases Nat.lt_or_ge i (s - 1) with h | h
        · exact h1 i (s - 1) hi h (by omega)
        · have : i = s - 1 := by omega
          subst this; exact hS.irrefl _
      have q2 : lt d[j]! d[mid + m - s]! = false := by
        rcases Nat.lt_or_ge (mid + m - s) j with h | h
        · exact h2 _ j (by omega) h hjb
        · have : j = mid + m - s := by omega
          subst this; exact hS.irrefl _
      exact hS.ntrans _ _ _ q2 (hS.ntrans _ _ _ q q1)
    · have q := asym hS (b4 s (Nat.le_refl _) (by omega))
      rw [show mid + m - 1 - s = mid + m - s - 1 by omega] at q
      have q1 : lt d[mid + m - s - 1]! d[i]! = false := by
        rcases Nat.lt_or_ge i (mid + m - s - 1) with h | h
        · exact h2 i _ hi h (by omega)
        · have : i = mid + m - s - 1 := by omega
          subst this; exact hS.irrefl _
      have q2 : lt d[j]! d[s]! = false := by
        rcases Nat.lt_or_ge s j with h | h
        · exact h1 s j (by omega) h hjm
        · have : j = s := by omega
          subst this; exact hS.irrefl _
      exact hS.ntrans _ _ _ q2 (hS.ntrans _ _ _ q q1)
  unfold sCut
  by_cases c : (a + b) / 2 < m
  · simp only [if_pos c]
    exact key _ _ _ rfl (by omega) (by omega) (by omega) (by omega) (by omega) (.inr (by omega)) (.inr rfl) _ rfl
  · simp only [if_neg c]
    exact key _ _ _ rfl (by omega) (by omega) (by omega) (by omega) (by omega) (.inl rfl) (.inl rfl) _ rfl
theorem rotIf_spec {a m b : Nat} {d : Array α} (hb : b ≤ d.size) {s mid : Nat} (hs : s = sCut lt a m b d) (hmid : mid = (a + b) / 2) (h1 : a ≤ s) (h2 : s ≤ m) (h3 : s ≤ mid) (h4 : mid + m - s ≤ b) :
    PermIn a b d (rotIf lt a m b d) ∧ ∀ k, (rotIf lt a m b d)[k]! = if s ≤ k ∧ k < mid then d[k + (m - s)]! else if mid ≤ k ∧ k < mid + m - s then d[k - (mid - s)]! else d[k]! := by
  unfold rotIf
  rw [← hs, ← hmid]
  by_cases c : s < m ∧ m < mid + m - s
  · rw [if_pos c]
    refine ⟨rotL_perm _ _ _ d (Nat.le_refl _) (by omega) (by omega) hb, fun k => ?_⟩
    rw [rotL_get _ _ _ d (Nat.le_refl _) (by omega) (by omega) (by omega) (by omega)]
    by_cases q1 : s ≤ k ∧ k < mid
    · rw [if_pos (by omega), if_pos q1]
    · rw [if_neg (by omega), if_neg q1]
      by_cases q2 : mid ≤ k ∧ k < mid + m - s
      · rw [if_pos (by omega), if_pos q2]; congr 1; omega
      · rw [if_neg (by omega), if_neg q2]
  · rw [if_neg c]
    refine ⟨permIn_refl d a b, fun k => ?_⟩
    by_cases q1 : s ≤ k ∧ k < mid
    · rw [if_pos q1]; congr 1; omega
    · rw [if_neg q1]
      by_cases q2 : mid ≤ k ∧ k < mid + m - s
      · rw [if_pos q2]; congr 1; omega
      · rw [if_neg q2]
theorem symM_spec (hS : SWO lt) : ∀ (r a m b : Nat) (d : Array α), b - a ≤ r → a < m → m < b → b ≤ d.size → SortedIn lt a m d → SortedIn lt m b d → PermIn a b d (symM lt a m b d) ∧ SortedIn lt a b (symM lt a m b d)
  | r, a, m, b, d, hr, ham, hmb, hb, h1, h2 => by
    rw [symM]
    by_cases c1 : m - a = 1
    · rw [if_pos c1]
      obtain rfl : m = a + 1 := by omega
      exact one1 hS hb (by omega) h2
    · rw [if_neg c1]
      by_cases c2 : b - m = 1
      · rw [if_pos c2]
        obtain rfl : b = m + 1 := by omega
        exact one2 hS hb ham h1
      · rw [if_neg c2]
        obtain ⟨s1, s2, s3, s4, x1, x2⟩ := cut_spec hS ham hmb h1 h2
        obtain ⟨s, hs⟩ : ∃ s, s = sCut lt a m b d := ⟨_, rfl⟩
        obtain ⟨mid, hmid⟩ : ∃ mid, mid = (a + b) / 2 := ⟨_, rfl⟩
        rw [← hs] at s1 s2 s3 s4 x1 x2
        rw [← hmid] at s3 s4 x1 x2
        obtain ⟨p1, g1⟩ := rotIf_spec hb hs hmid s1 s2 s3 s4
        rw [← hs, ← hmid]
        generalize rotIf lt a m b d = d1 at p1 g1 ⊢
        have z1 : d1.size = d.size := p1.1
        have L1 : SortedIn lt a s d1 := srt_congr (fun i j x y z => h1 i j x y (by omega)) fun i x y => by rw [g1, if_neg (by omega), if_neg (by omega)]
        have L2 : SortedIn lt s mid d1 := fun i j x y z => by
          rw [g1, g1, if_pos (by omega), if_pos (by omega)]; exact h2 _ _ (by omega) (by omega) (by omega)
        have L3 : SortedIn lt mid (mid + m - s) d1 := fun i j x y z => by
          rw [g1, g1, if_neg (by omega), if_pos (by omega), if_neg (by omega), if_pos (by omega)]; exact h1 _ _ (by omega) (by omega) (by omega)
        have L4 : SortedIn lt (mid + m - s) b d1 := fun i j x y z => by
          rw [g1, g1, if_neg (by omega), if_neg (by omega), if_neg (by omega), if_neg (by omega)]; exact h2 _ _ (by omega) y z
        have X : ∀ i j, a ≤ i → i < mid → mid ≤ j → j < b → lt d1[j]! d1[i]! = false := fun i j q1 q2 q3 q4 => by
          rw [g1, g1]
          by_cases u : s ≤ i ∧ i < mid
          · rw [if_neg (by omega), if_pos u]
            by_cases v : mid ≤ j ∧ j < mid + m - s
            · rw [if_pos v]; exact x2 _ _ (by omega) (by omega) (by omega) (by omega)
            · rw [if_neg v]; exact h2 _ _ (by omega) (by omega) q4
          · rw [if_neg (by omega), if_neg u, if_neg (by omega : ¬ (mid ≤ i ∧ i < mid + m - s))]
            by_cases v : mid ≤ j ∧ j < mid + m - s
            · rw [if_pos v]; exact h1 _ _ q1 (by omega) (by omega)
            · rw [if_neg v]; exact x1 _ _ q1 (by omega) (by omega) q4
        have hm2 : a < mid := by omega
        have hm3 : mid < b := by omega
        have D2 : PermIn a mid d1 (if h1 : a < s ∧ s < mid then symM lt a s mid d1 else d1) ∧ SortedIn lt a mid (if h1 : a < s ∧ s < mid then symM lt a s mid d1 else d1) := by
          by_cases c : a < s ∧ s < mid
          · rw [dif_pos c]
            match r, hr with
            | 0, hr => omega
            | r + 1, hr => exact symM_spec hS r a s mid d1 (by omega) c.1 c.2 (by omega) L1 L2
          · rw [dif_neg c]
            refine ⟨permIn_refl d1 a mid, ?_⟩
            rcases Nat.lt_or_ge a s with h | h
            · have : s = mid := by omega
              subst this; exact L1
            · have : s = a := by omega
              subst this; exact L2
        generalize (if h1 : a < s ∧ s < mid then symM lt a s mid d1 else d1) = d2 at D2 ⊢
        obtain ⟨p2, o2⟩ := D2
        have z2 : d2.size = d1.size := p2.1
        have M3 : SortedIn lt mid (mid + m - s) d2 := srt_congr L3 fun i x y => p2.2.1 i (.inr x)
        have M4 : SortedIn lt (mid + m - s) b d2 := srt_congr L4 fun i x y => p2.2.1 i (.inr (by omega))
        have D3 : PermIn mid b d2 (if h2 : mid < mid + m - s ∧ mid + m - s < b then symM lt mid (mid + m - s) b d2 else d2) ∧ SortedIn lt mid b (if h2 : mid < mid + m - s ∧ mid + m - s < b then symM lt mid (mid + m - s) b d2 else d2) := by
          by_cases c : mid < mid + m - s ∧ mid + m - s < b
          · rw [dif_pos c]
            match r, hr with
            | 0, hr => omega
            | r + 1, hr => exact symM_spec hS r mid (mid + m - s) b d2 (by omega) c.1 c.2 (by omega) M3 M4
          · rw [dif_neg c]
            refine ⟨permIn_refl d2 mid b, ?_⟩
            rcases Nat.lt_or_ge mid (mid + m - s) with h | h
            · have : mid + m - s = b := by omega
              rw [this] at M3; exact M3
            · have : mid + m - s = mid := by omega
              rw [this] at M4; exact M4
        show PermIn a b d (if h2 : mid < mid + m - s ∧ mid + m - s < b then symM lt mid (mid + m - s) b d2 else d2) ∧ SortedIn lt a b (if h2 : mid < mid + m - s ∧ mid + m - s < b then symM lt mid (mid + m - s) b d2 else d2)
        generalize (if h2 : mid < mid + m - s ∧ mid + m - s < b then symM lt mid (mid + m - s) b d2 else d2) = d3 at D3 ⊢
        obtain ⟨p3, o3⟩ := D3
        refine ⟨permIn_trans _ _ _ a b p1 (permIn_trans _ _ _ a b (permIn_mono d1 d2 a mid a b (Nat.le_refl _) (by omega) (by omega) p2) (permIn_mono d2 d3 mid b a b (by omega) (Nat.le_refl _) (by omega) p3)), fun i j q1 q2 q3 => ?_⟩
        rcases Nat.lt_or_ge j mid with c | c
        · rw [p3.2.1 i (.inl (by omega)), p3.2.1 j (.inl c)]; exact o2 i j q1 q2 c
        · rcases Nat.lt_or_ge i mid with c' | c'
          · rw [p3.2.1 i (.inl c')]
            refine permIn_all d2 d3 mid b (fun y => lt y d2[i]! = false) (by omega) p3 (fun k k1 k2 => ?_) j c q3
            rw [p2.2.1 k (.inr k1)]
            exact permIn_all d1 d2 a mid (fun x => lt d1[k]! x = false) (by omega) p2 (fun t t1 t2 => X t k t1 t2 k1 k2) i q1 c'
          · exact o3 i j c' q2 q3
inductive Ch (lt : α → α → Bool) (s n : Nat) (d : Array α) : Nat → Prop
  | done {a : Nat} (h : n ≤ a) : Ch lt s n d a
  | step {a : Nat} (h : SortedIn lt a (min (a + s) n) d) (hn : Ch lt s n d (a + s)) : Ch lt s n d a
theorem Ch.congr {s n a : Nat} {d d' : Array α} (h : Ch lt s n d a) (e : ∀ i, a ≤ i → d'[i]! = d[i]!) : Ch lt s n d' a := by
  induction h with
  | done h => exact .done h
  | step h _ ih => exact .step (srt_congr h fun i x y => e i x) (ih fun i hi => e i (by omega))
theorem Ch.head {s n a : Nat} {d : Array α} (h : Ch lt s n d a) : SortedIn lt a (min (a + s) n) d := by
  cases h with
  | done h => exact fun i j x y z => by omega
  | step h _ => exact h
theorem Ch.tail {s n a : Nat} {d : Array α} (h : Ch lt s n d a) : Ch lt s n d (a + s) := by
  cases h with
  | done h => exact .done (by omega)
  | step _ h => exact h
theorem insB_spec (hS : SWO lt) {n : Nat} : ∀ (r a : Nat) (d : Array α), n - a ≤ r → a ≤ n → n ≤ d.size → PermIn a n d (insB lt n a (a + 20) d) ∧ Ch lt 20 n (insB lt n a (a + 20) d) a
  | r, a, d, hr, ha, hn => by
    rw [insB]
    by_cases c : a + 20 ≤ n
    · rw [if_pos c]
      obtain ⟨p1, o1⟩ := insertionSort_holds (lt := lt) hS d a (a + 20) (by omega) (by omega)
      generalize insertionSort lt d a (a + 20) = d1 at p1 o1 ⊢
      have z1 : d1.size = d.size := p1.1
      match r, hr with
      | 0, hr => omega
      | r + 1, hr =>
        obtain ⟨p2, o2⟩ := insB_spec hS r (a + 20) d1 (by omega) c (by omega)
        generalize insB lt n (a + 20) (a + 20 + 20) d1 = d2 at p2 o2 ⊢
        refine ⟨permIn_trans _ _ _ a n (permIn_mono d d1 a (a + 20) a n (Nat.le_refl _) c hn p1) (permIn_mono d1 d2 (a + 20) n a n (by omega) (Nat.le_refl _) (by omega) p2), .step (srt_congr (by rw [Nat.min_eq_left c]; exact o1) fun i x y => p2.2.1 i (.inl (by omega))) o2⟩
    · rw [if_neg c]
      obtain ⟨p1, o1⟩ := insertionSort_holds (lt := lt) hS d a n ha hn
      exact ⟨p1, .step (by rw [Nat.min_eq_right (by omega)]; exact o1) (.done (by omega))⟩
theorem mrgP_spec (hS : SWO lt) {n s : Nat} (hs : 0 < s) : ∀ (r a : Nat) (d : Array α), n - a ≤ r → a ≤ n → n ≤ d.size → Ch lt s n d a → PermIn a n d (mrgP lt n s a (a + 2 * s) d) ∧ Ch lt (2 * s) n (mrgP lt n s a (a + 2 * s) d) a
  | r, a, d, hr, ha, hn, hc => by
    rw [mrgP, if_neg (by omega)]
    by_cases c : a + 2 * s ≤ n
    · rw [if_pos c]
      have q1 := hc.head; rw [Nat.min_eq_left (by omega)] at q1
      have q2 := hc.tail.head; rw [Nat.min_eq_left (by omega), show a + s + s = a + 2 * s by omega] at q2
      have q3 := hc.tail.tail; rw [show a + s + s = a + 2 * s by omega] at q3
      obtain ⟨p1, o1⟩ := symM_spec hS _ a (a + s) (a + 2 * s) d (Nat.le_refl _) (by omega) (by omega) (by omega) q1 q2
      generalize symM lt a (a + s) (a + 2 * s) d = d1 at p1 o1 ⊢
      have z1 : d1.size = d.size := p1.1
      match r, hr with
      | 0, hr => omega
      | r + 1, hr =>
        obtain ⟨p2, o2⟩ := mrgP_spec hS hs r (a + 2 * s) d1 (by omega) c (by omega) (q3.congr fun i hi => p1.2.1 i (.inr hi))
        generalize mrgP lt n s (a + 2 * s) (a + 2 * s + 2 * s) d1 = d2 at p2 o2 ⊢
        exact ⟨permIn_trans _ _ _ a n (permIn_mono d d1 a (a + 2 * s) a n (Nat.le_refl _) c hn p1) (permIn_mono d1 d2 (a + 2 * s) n a n (by omega) (Nat.le_refl _) (by omega) p2), .step (srt_congr (by rw [Nat.min_eq_left c]; exact o1) fun i x y => p2.2.1 i (.inl (by omega))) o2⟩
    · rw [if_neg c]
      by_cases c2 : a + s < n
      · rw [if_pos c2]
        have q1 := hc.head; rw [Nat.min_eq_left (by omega)] at q1
        have q2 := hc.tail.head; rw [Nat.min_eq_right (by omega)] at q2
        obtain ⟨p1, o1⟩ := symM_spec hS _ a (a + s) n d (Nat.le_refl _) (by omega) (by omega) (by omega) q1 q2
        exact ⟨p1, .step (by rw [Nat.min_eq_right (by omega)]; exact o1) (.done (by omega))⟩
      · rw [if_neg c2]
        refine ⟨permIn_refl d a n, .step ?_ (.done (by omega))⟩
        have q1 := hc.head; rw [Nat.min_eq_right (by omega)] at q1
        rw [Nat.min_eq_right (by omega)]; exact q1
theorem mrgL_spec (hS : SWO lt) {n : Nat} : ∀ (r s : Nat) (d : Array α), n - s ≤ r → 0 < s → n ≤ d.size → Ch lt s n d 0 → PermIn 0 n d (mrgL lt n s d) ∧ SortedIn lt 0 n (mrgL lt n s d)
  | r, s, d, hr, hs, hn, hc => by
    rw [mrgL]
    by_cases c : 0 < s ∧ s < n
    · rw [dif_pos c]
      have h := mrgP_spec hS hs _ 0 d (Nat.le_refl _) (Nat.zero_le _) hn hc
      rw [Nat.zero_add] at h
      obtain ⟨p1, o1⟩ := h
      generalize mrgP lt n s 0 (2 * s) d = d1 at p1 o1 ⊢
      match r, hr with
      | 0, hr => omega
      | r + 1, hr =>
        obtain ⟨p2, o2⟩ := mrgL_spec (n := n) hS r (s * 2) d1 (by omega) (by omega) (by rw [p1.1]; exact hn) (by rw [Nat.mul_comm]; exact o1)
        exact ⟨permIn_trans _ _ _ 0 n p1 p2, o2⟩
    · rw [dif_neg c]
      have q1 := hc.head; rw [Nat.min_eq_right (by omega)] at q1
      exact ⟨permIn_refl d 0 n, q1⟩
/-- What the stable sort comes to: a permutation, and sorted. -/
theorem stable_spec (hS : SWO lt) (d : Array α) : PermIn 0 d.size d (stable lt d) ∧ SortedIn lt 0 d.size (stable lt d) := by
  unfold stable
  have h := insB_spec hS _ 0 d (Nat.le_refl _) (Nat.zero_le _) (Nat.le_refl _)
  rw [Nat.zero_add] at h
  obtain ⟨p1, o1⟩ := h
  generalize insB lt d.size 0 20 d = d1 at p1 o1 ⊢
  obtain ⟨p2, o2⟩ := mrgL_spec hS _ 20 d1 (Nat.le_refl _) (by omega) (by rw [p1.1]; exact Nat.le_refl _) o1
  exact ⟨permIn_trans _ _ _ 0 d.size p1 p2, o2⟩
end
end Go.Stb
end
section
/- All positions together: names in order, and of each name what all come to. No program. -/
set_option linter.unusedVariables false
set_option linter.unusedSimpArgs false
namespace Go.Bk
open Go Go.Abs
abbrev Nm := Bs × Bs
def nmP (p : Po) : Nm := (p.acc, p.sym)
def ltN (a b : Nm) : Bool := decide (cmpN a b < 0)
def ltP (a b : Po) : Bool := ltN (nmP a) (nmP b)
instance : Inhabited Po := ⟨⟨[], [], 0, 0, false⟩⟩
theorem cmpS_lt {a b : Bs} : cmpS a b < 0 ↔ a < b := by
  unfold cmpS; split
  · simp [*]
  · split <;> simp_all
theorem cmpS_eq {a b : Bs} : cmpS a b = 0 ↔ a = b := by
  unfold cmpS; split
  · rename_i h
    constructor
    · intro e; exact absurd e (by decide)
    · rintro rfl; exact absurd h (List.lt_irrefl a)
  · split <;> simp_all
theorem ltN_iff {a b : Nm} : ltN a b = true ↔ a.1 < b.1 ∨ a.1 = b.1 ∧ a.2 < b.2 := by
  unfold ltN cmpN
  rw [decide_eq_true_eq]
  split
  · rename_i h
    rw [cmpS_lt]
    constructor
    · exact .inl
    · rintro (h2 | ⟨h2, _⟩)
      · exact h2
      · exact absurd (cmpS_eq.2 h2) h
  · rename_i h
    have h : a.1 = b.1 := cmpS_eq.1 (by simpa using h)
    rw [cmpS_lt, h]
    constructor
    · intro h2; exact .inr ⟨rfl, h2⟩
    · rintro (h2 | ⟨_, h2⟩)
      · exact absurd h2 (List.lt_irrefl _)
      · exact h2
theorem ltN_irrefl (a : Nm) : ltN a a = false := by
  cases h : ltN a a with
  | false => rfl
  | true => rcases ltN_iff.1 h with h | ⟨_, h⟩ <;> exact absurd h (List.lt_irrefl _)
theorem ltN_trans {a b c : Nm} (h1 : ltN a b = true) (h2 : ltN b c = true) : ltN a c = true := by
  rw [ltN_iff] at *
  rcases h1 with h1 | ⟨e1, h1⟩ <;> rcases h2 with h2 | ⟨e2, h2⟩
  · exact .inl (List.lt_trans h1 h2)
  · exact .inl (e2 ▸ h1)
  · exact .inl (e1 ▸ h2)
  · exact .inr ⟨e1.trans e2, List.lt_trans h1 h2⟩
theorem bs_tri (a b : Bs) : a < b ∨ a = b ∨ b < a := by
  rcases Classical.em (a < b) with h | h
  · exact .inl h
  · rcases Classical.em (b < a) with h2 | h2
    · exact .inr (.inr h2)
    · exact .inr (.inl (List.le_antisymm (List.not_lt.1 h2) (List.not_lt.1 h)))
theorem ltN_tri (a b : Nm) : ltN a b = true ∨ a = b ∨ ltN b a = true := by
  rw [ltN_iff, ltN_iff]
  rcases bs_tri a.1 b.1 with h | h | h
  · exact .inl (.inl h)
  · rcases bs_tri a.2 b.2 with h2 | h2 | h2
    · exact .inl (.inr ⟨h, h2⟩)
    · exact .inr (.inl (Prod.ext h h2))
    · exact .inr (.inr (.inr ⟨h.symm, h2⟩))
  · exact .inr (.inr (.inl h))
theorem ltN_asym {a b : Nm} (h : ltN a b = true) : ltN b a = false := by
  cases h2 : ltN b a with
  | false => rfl
  | true => exact absurd (ltN_trans h h2) (by rw [ltN_irrefl]; simp)
theorem ltN_ff {a b : Nm} (h1 : ltN a b = false) (h2 : ltN b a = false) : a = b := by
  rcases ltN_tri a b with h | h | h
  · rw [h] at h1; exact absurd h1 (by simp)
  · exact h
  · rw [h] at h2; exact absurd h2 (by simp)
theorem ltN_nt {a b c : Nm} (h1 : ltN a b = false) (h2 : ltN b c = false) : ltN a c = false := by
  cases h : ltN a c with
  | false => rfl
  | true =>
    rcases ltN_tri b c with h3 | rfl | h3
    · rw [h3] at h2; exact absurd h2 (by simp)
    · rw [h] at h1; exact absurd h1 (by simp)
    · rw [ltN_trans h h3] at h1; exact absurd h1 (by simp)
theorem swo_P : Go.Sort.SWO ltP := ⟨fun _ => ltN_irrefl _, fun _ _ _ => ltN_trans, fun _ _ _ => ltN_nt⟩
theorem cmpN_eq {a b : Nm} : cmpN a b = 0 ↔ a = b := by
  unfold cmpN
  split
  · rename_i h
    constructor
    · intro e; exact absurd e h
    · rintro rfl; exact absurd (cmpS_eq.2 rfl) h
  · rename_i h
    have h : a.1 = b.1 := cmpS_eq.1 (by simpa using h)
    rw [cmpS_eq]
    exact ⟨fun e => Prod.ext h e, fun e => by rw [e]⟩
/-- A list of positions that is right. -/
def okP (p : Po) : Bool := numB p.qty && numB p.value && !(p.over && (decide (p.qty ≠ 0) || decide (p.value ≠ 0)))
def riseP : List Po → Bool
  | [] => true
  | p :: l => okP p && (match l with | [] => true | q :: _ => ltP p q) && riseP l
/-- Positions of one name, told together. -/
def sameF (n : Nm) (l : List Po) : List Po := l.filter fun p => decide (nmP p = n)
def togF (n : Nm) (l : List Po) : Po :=
  if l.any (·.over) then ⟨n.1, n.2, 0, 0, true⟩
  else if (sumF (l.map (·.qty))).2 && (sumF (l.map (·.value))).2 then ⟨n.1, n.2, (sumF (l.map (·.qty))).1, (sumF (l.map (·.value))).1, false⟩ else ⟨n.1, n.2, 0, 0, true⟩
def oneF (l : List Po) (n : Nm) : Po := togF n (sameF n l)
def getP (l : List Po) (n : Nm) : Po := match l.find? (fun p => decide (nmP p = n)) with
  | some p => p
  | none => ⟨n.1, n.2, 0, 0, false⟩
/-- Groups of one name, one behind the other. -/
def grpF : Nat → List Po → List Po
  | 0, _ => []
  | _, [] => []
  | k + 1, p :: l => togF (nmP p) (p :: l.takeWhile fun q => decide (nmP q = nmP p)) :: grpF k (l.dropWhile fun q => decide (nmP q = nmP p))
def stbP (l : List Po) : List Po := (Go.Stb.stable ltP l.toArray).toList
def mergeF (ls : List (List Po)) : List Po × Int := if ls.all riseP then (grpF ls.flatten.length (stbP ls.flatten), 0) else ([], 1)
/-- Strictly rising names. -/
def Rising (l : List Po) : Prop := l.Pairwise fun p q => ltP p q = true
/-- What all positions together come to: each name once, in order. -/
structure Merged (l all : List Po) : Prop where
  rise : Rising l
  mem : ∀ p, p ∈ l ↔ (∃ q ∈ all, nmP q = nmP p) ∧ p = oneF all (nmP p)
theorem togF_nm {n : Nm} {l : List Po} : nmP (togF n l) = n := by unfold togF; split <;> first | rfl | (split <;> rfl)
theorem oneF_nm {n : Nm} {l : List Po} : nmP (oneF l n) = n := togF_nm
theorem rising_ext : ∀ {l m : List Po}, Rising l → Rising m → (∀ p, p ∈ l ↔ p ∈ m) → l = m
  | [], [], _, _, _ => rfl
  | [], q :: m, _, _, h => absurd ((h q).2 (by simp)) (by simp)
  | p :: l, [], _, _, h => absurd ((h p).1 (by simp)) (by simp)
  | p :: l, q :: m, h1, h2, h => by
    have a1 := List.pairwise_cons.1 h1
    have a2 := List.pairwise_cons.1 h2
    have irr : ∀ x : Po, ltP x x = true → False := fun x hx => by have := ltN_irrefl (nmP x); unfold ltP at hx; rw [hx] at this; exact absurd this (by simp)
    have e : p = q := by
      rcases List.mem_cons.1 ((h p).1 (by simp)) with e | e
      · exact e
      · rcases List.mem_cons.1 ((h q).2 (by simp)) with e2 | e2
        · exact e2.symm
        · exact absurd (ltN_trans (a1.1 q e2) (a2.1 p e)) (by rw [ltN_irrefl]; simp)
    subst e
    congr 1
    refine rising_ext a1.2 a2.2 fun x => ?_
    constructor
    · intro hx
      rcases List.mem_cons.1 ((h x).1 (List.mem_cons_of_mem _ hx)) with e | e
      · subst e; exact (irr x (a1.1 x hx)).elim
      · exact e
    · intro hx
      rcases List.mem_cons.1 ((h x).2 (List.mem_cons_of_mem _ hx)) with e | e
      · subst e; exact (irr x (a2.1 x hx)).elim
      · exact e
theorem Merged.uniq {l m all : List Po} (h1 : Merged l all) (h2 : Merged m all) : l = m := rising_ext h1.rise h2.rise fun p => (h1.mem p).trans (h2.mem p).symm
/-- Sums don't hang on the order. -/
theorem sumL_perm {a b : List Int} (h : a.Perm b) : sumL a = sumL b := by
  induction h with
  | nil => rfl
  | cons x _ ih => simp [sumL, ih]
  | swap x y l => simp only [sumL]; omega
  | trans _ _ h1 h2 => exact h1.trans h2
theorem sumF_perm {a b : List Int} (h : a.Perm b) : sumF a = sumF b := by
  unfold sumF; rw [sumL_perm h, h.all_eq]
theorem togF_perm {n : Nm} {a b : List Po} (h : a.Perm b) : togF n a = togF n b := by
  unfold togF; rw [h.any_eq, sumF_perm (h.map _), sumF_perm (h.map _)]
theorem oneF_perm {n : Nm} {a b : List Po} (h : a.Perm b) : oneF a n = oneF b n := togF_perm (h.filter _)
theorem Merged.perm {l a b : List Po} (h : a.Perm b) (hm : Merged l a) : Merged l b := ⟨hm.rise, fun p => by
  rw [hm.mem, oneF_perm h]
  constructor
  · rintro ⟨⟨q, hq, e⟩, h2⟩; exact ⟨⟨q, h.mem_iff.1 hq, e⟩, h2⟩
  · rintro ⟨⟨q, hq, e⟩, h2⟩; exact ⟨⟨q, h.mem_iff.2 hq, e⟩, h2⟩⟩
/-- Groups of a sorted list are what all come to. -/
theorem grp_spec : ∀ (k : Nat) (l : List Po), l.length ≤ k → l.Pairwise (fun p q => ltP q p = false) → Merged (grpF k l) l
  | 0, l, hk, _ => by
    have : l = [] := List.eq_nil_of_length_eq_zero (by omega)
    subst this
    exact ⟨List.Pairwise.nil, fun p => by simp [grpF]⟩
  | k + 1, [], _, _ => ⟨List.Pairwise.nil, fun p => by simp [grpF]⟩
  | k + 1, p :: l, hk, hs => by
    obtain ⟨hs1, hs2⟩ := List.pairwise_cons.1 hs
    have hsplit := List.takeWhile_append_dropWhile (p := fun q => decide (nmP q = nmP p)) (l := l)
    have hd : ∀ q ∈ l.dropWhile (fun q => decide (nmP q = nmP p)), ltP p q = true := by
      intro q hq
      cases hdw : l.dropWhile (fun q => decide (nmP q = nmP p)) with
      | nil => rw [hdw] at hq; exact absurd hq (by simp)
      | cons x xs =>
        have hx : ¬ nmP x = nmP p := by
          have := List.head?_dropWhile_not (fun q => decide (nmP q = nmP p)) l
          rw [hdw] at this
          simpa using this
        have hxl : x ∈ l := by rw [← hsplit, hdw]; simp
        have hpx : ltP p x = true := by
          rcases ltN_tri (nmP p) (nmP x) with h | h | h
          · exact h
          · exact absurd h.symm hx
          · exact absurd (hs1 x hxl) (by unfold ltP; rw [h]; simp)
        rw [hdw] at hq
        rcases List.mem_cons.1 hq with e | hq
        · rw [e]; exact hpx
        · have hp2 : (x :: xs).Pairwise (fun p q => ltP q p = false) := by rw [← hdw]; exact hs2.sublist (List.dropWhile_sublist _)
          have hxq := (List.pairwise_cons.1 hp2).1 q hq
          cases h : ltP p q with
          | true => rfl
          | false => exact absurd hpx (by unfold ltP at *; rw [ltN_nt h hxq]; simp)
    have ht : ∀ q ∈ l.takeWhile (fun q => decide (nmP q = nmP p)), nmP q = nmP p := fun q hq => by
      simpa using List.all_takeWhile (p := fun q => decide (nmP q = nmP p)) (l := l) |> fun h => List.all_eq_true.1 h q hq
    have hlen : (l.dropWhile fun q => decide (nmP q = nmP p)).length ≤ k := by
      have := (List.dropWhile_sublist (fun q => decide (nmP q = nmP p)) (l := l)).length_le
      simp only [List.length_cons] at hk; omega
    have ih := grp_spec k (l.dropWhile fun q => decide (nmP q = nmP p)) hlen (hs2.sublist (List.dropWhile_sublist _))
    have hself : sameF (nmP p) (p :: l) = p :: l.takeWhile (fun q => decide (nmP q = nmP p)) := by
      unfold sameF
      rw [List.filter_cons_of_pos (by simp)]
      congr 1
      conv => lhs; rw [← hsplit, List.filter_append]
      rw [List.filter_eq_self.2 (fun q hq => by simpa using ht q hq), List.filter_eq_nil_iff.2 (fun q hq => by
        have := hd q hq
        simp only [decide_eq_true_eq]
        intro e
        unfold ltP at this; rw [e, ltN_irrefl] at this; exact absurd this (by simp)), List.append_nil]
    have hrest : ∀ n, n ≠ nmP p → sameF n (p :: l) = sameF n (l.dropWhile fun q => decide (nmP q = nmP p)) := by
      intro n hn
      unfold sameF
      rw [List.filter_cons_of_neg (by simpa using Ne.symm hn)]
      conv => lhs; rw [← hsplit, List.filter_append]
      rw [List.filter_eq_nil_iff.2 (fun q hq => by
        simp only [decide_eq_true_eq]; intro e; exact hn (e.symm.trans (ht q hq))), List.nil_append]
    refine ⟨?_, ?_⟩
    · refine List.pairwise_cons.2 ⟨fun x hx => ?_, ih.rise⟩
      obtain ⟨⟨q, hq, e⟩, _⟩ := (ih.mem x).1 hx
      have := hd q hq
      unfold ltP at *
      rw [togF_nm, ← e]; exact this
    · intro x
      show x ∈ _ :: _ ↔ _
      rw [List.mem_cons, ih.mem]
      constructor
      · rintro (e | ⟨⟨q, hq, e⟩, h⟩)
        · have en : nmP x = nmP p := by rw [e]; exact togF_nm
          refine ⟨⟨p, by simp, en.symm⟩, ?_⟩
          rw [en]; unfold oneF; rw [hself]; exact e
        · have hne : nmP x ≠ nmP p := by
            intro e2
            have := hd q hq
            unfold ltP at this; rw [e, e2, ltN_irrefl] at this; exact absurd this (by simp)
          refine ⟨⟨q, List.mem_cons_of_mem _ ((List.dropWhile_sublist _).subset hq), e⟩, ?_⟩
          rw [h]; unfold oneF; rw [togF_nm, hrest _ hne]
      · rintro ⟨⟨q, hq, e⟩, h⟩
        by_cases hn : nmP x = nmP p
        · left
          rw [h, hn]; unfold oneF; rw [hself]
        · right
          refine ⟨⟨q, ?_, e⟩, ?_⟩
          · rcases List.mem_cons.1 hq with e2 | hq
            · exact absurd (e.symm.trans (by rw [e2])) hn
            · rw [← hsplit] at hq
              rcases List.mem_append.1 hq with hq | hq
              · exact absurd (e.symm.trans (ht q hq)) hn
              · exact hq
          · have h2 := h
            unfold oneF at h2 ⊢; rw [hrest _ hn] at h2; exact h2
end Go.Bk
end
section
/- Positions that are carried: in any order of days the same; with nothing more they stay. No program. -/
set_option linter.unusedVariables false
set_option linter.unusedSimpArgs false
namespace Go.Bk
open Go Go.Abs
theorem stbP_perm (l : List Po) : (stbP l).Perm l := by
  obtain ⟨hp, _⟩ := Go.Stb.stable_spec swo_P l.toArray
  have := hp.2.2
  rw [show (Go.Stb.stable ltP l.toArray).extract 0 l.toArray.size = Go.Stb.stable ltP l.toArray by rw [← hp.1]; simp, show l.toArray.extract 0 l.toArray.size = l.toArray by simp] at this
  exact this
theorem stbP_len (l : List Po) : (stbP l).length = l.length := (stbP_perm l).length_eq
theorem stbP_sorted (l : List Po) : (stbP l).Pairwise (fun p q => ltP q p = false) := by
  obtain ⟨hp, hs⟩ := Go.Stb.stable_spec swo_P l.toArray
  rw [List.pairwise_iff_getElem]
  intro i j hi hj hij
  unfold stbP at *
  rw [Array.length_toList] at hi hj
  have := hs i j (by omega) hij (by rw [← hp.1]; exact hj)
  rwa [getElem!_pos _ i hi, getElem!_pos _ j hj] at this
theorem merge_spec {ls : List (List Po)} (h : ls.all riseP = true) : Merged (mergeF ls).1 ls.flatten := by
  unfold mergeF; rw [if_pos h]
  exact (grp_spec _ _ (by rw [stbP_len]; exact Nat.le_refl _) (stbP_sorted _)).perm (stbP_perm _)
theorem merge_bad {ls : List (List Po)} (h : ¬ ls.all riseP = true) : mergeF ls = ([], 1) := by unfold mergeF; rw [if_neg h]
theorem merge_ok {ls : List (List Po)} (h : ls.all riseP = true) : (mergeF ls).2 = 0 := by unfold mergeF; rw [if_pos h]
def carryF (a b : List Po) : List Po × Int := if (mergeF [a, b]).2 ≠ 0 then ([], (mergeF [a, b]).2) else if (mergeF [a, b]).1.any (·.over) then ([], 9) else ((mergeF [a, b]).1, 0)
theorem rise_ok : ∀ {l : List Po}, riseP l = true → ∀ p ∈ l, okP p = true
  | p :: l, h, q, hq => by
    simp only [riseP, Bool.and_eq_true] at h
    rcases List.mem_cons.1 hq with rfl | hq
    · exact h.1.1
    · exact rise_ok h.2 q hq
theorem rise_rising : ∀ {l : List Po}, riseP l = true → Rising l
  | [], _ => List.Pairwise.nil
  | [p], _ => List.pairwise_singleton ..
  | p :: q :: l, h => by
    simp only [riseP, Bool.and_eq_true] at h
    have ih : Rising (q :: l) := rise_rising (by simp only [riseP, Bool.and_eq_true]; exact h.2)
    refine List.pairwise_cons.2 ⟨fun x hx => ?_, ih⟩
    rcases List.mem_cons.1 hx with rfl | hx
    · exact h.1.2
    · exact ltN_trans h.1.2 ((List.pairwise_cons.1 ih).1 x hx)
theorem same_one {l : List Po} (h : Rising l) {p : Po} (hp : p ∈ l) : sameF (nmP p) l = [p] := by
  induction l with
  | nil => exact absurd hp (by simp)
  | cons q l ih =>
    obtain ⟨h1, h2⟩ := List.pairwise_cons.1 h
    rcases List.mem_cons.1 hp with rfl | hp
    · unfold sameF
      rw [List.filter_cons_of_pos (by simp), List.filter_eq_nil_iff.2]
      intro x hx
      have := h1 x hx
      simp only [decide_eq_true_eq]
      intro e
      unfold ltP at this; rw [e, ltN_irrefl] at this; exact absurd this (by simp)
    · unfold sameF
      rw [List.filter_cons_of_neg]
      · exact ih h2 hp
      · have := h1 p hp
        simp only [decide_eq_true_eq]
        intro e
        unfold ltP at this; rw [e, ltN_irrefl] at this; exact absurd this (by simp)
def sumQ (l : List Po) (n : Nm) : Int := sumL ((sameF n l).map (·.qty))
def sumV (l : List Po) (n : Nm) : Int := sumL ((sameF n l).map (·.value))
theorem sumQ_app (a b : List Po) (n : Nm) : sumQ (a ++ b) n = sumQ a n + sumQ b n := by simp [sumQ, sameF, sumL_app]
theorem sumV_app (a b : List Po) (n : Nm) : sumV (a ++ b) n = sumV a n + sumV b n := by simp [sumV, sameF, sumL_app]
theorem sumF_val {l : List Int} (h : (sumF l).2 = true) : (sumF l).1 = sumL l := by
  unfold sumF at *
  split
  · rfl
  · rename_i h2; rw [if_neg h2] at h; exact absurd h (by simp)
theorem one_is {l : List Po} {n : Nm} (h : (oneF l n).over = false) : oneF l n = ⟨n.1, n.2, sumQ l n, sumV l n, false⟩ := by
  unfold oneF togF at *
  split at h
  · exact absurd h (by simp)
  · rename_i h1
    rw [if_neg h1]
    split at h
    · rename_i h2
      rw [if_pos h2]
      simp only [Bool.and_eq_true] at h2
      rw [sumF_val h2.1, sumF_val h2.2]; rfl
    · exact absurd h (by simp)
/-- What is merged, and is nowhere over, has the sums of all. -/
theorem merged_sum {l all : List Po} (hm : Merged l all) (ho : ∀ p ∈ l, p.over = false) (n : Nm) : sumQ l n = sumQ all n ∧ sumV l n = sumV all n ∧ ((∃ q ∈ l, nmP q = n) ↔ ∃ q ∈ all, nmP q = n) := by
  by_cases h : ∃ q ∈ all, nmP q = n
  · have hin : oneF all n ∈ l := (hm.mem _).2 ⟨by rw [oneF_nm]; exact h, by rw [oneF_nm]⟩
    have e := one_is (ho _ hin)
    have hs := same_one hm.rise hin
    rw [oneF_nm] at hs
    refine ⟨?_, ?_, ?_⟩
    · unfold sumQ at *; rw [hs, e]; simp [sumL, sumQ]
    · unfold sumV at *; rw [hs, e]; simp [sumL, sumV]
    · exact ⟨fun _ => h, fun _ => ⟨_, hin, oneF_nm⟩⟩
  · have h2 : ∀ q ∈ l, nmP q ≠ n := fun q hq e => by
      obtain ⟨⟨r, hr, e2⟩, _⟩ := (hm.mem q).1 hq
      exact h ⟨r, hr, e2.trans e⟩
    have s1 : sameF n l = [] := List.filter_eq_nil_iff.2 fun q hq => by simpa using h2 q hq
    have s2 : sameF n all = [] := List.filter_eq_nil_iff.2 fun q hq => by
      simp only [decide_eq_true_eq]; intro e; exact h ⟨q, hq, e⟩
    refine ⟨by unfold sumQ; rw [s1, s2], by unfold sumV; rw [s1, s2], ?_⟩
    exact ⟨fun ⟨q, hq, e⟩ => absurd e (h2 q hq), fun h3 => absurd h3 h⟩
theorem carry_ok {a b : List Po} (h : (carryF a b).2 = 0) : Merged (carryF a b).1 (a ++ b) ∧ ∀ p ∈ (carryF a b).1, p.over = false := by
  unfold carryF at *
  by_cases hr : [a, b].all riseP = true
  · rw [if_neg (by rw [merge_ok hr]; simp)] at *
    by_cases ho : (mergeF [a, b]).1.any (·.over) = true
    · rw [if_pos ho] at h; exact absurd h (by simp)
    · rw [if_neg ho]
      have := merge_spec hr
      simp only [List.flatten_cons, List.flatten_nil, List.append_nil] at this
      refine ⟨this, fun p hp => ?_⟩
      simp only [List.any_eq_true, not_exists, not_and, Bool.not_eq_true] at ho
      exact ho p hp
  · rw [if_pos (by rw [merge_bad hr]; simp), merge_bad hr] at h
    exact absurd h (by simp)
end Go.Bk
end
section
/- How a list of positions is looked at, place by place; groups. No program. -/
set_option linter.unusedVariables false
set_option linter.unusedSimpArgs false
namespace Go.Bk
open Go Go.Abs
def okR (l : List Po) (k : Nat) : Bool := match l[k]? with
  | some x => okP x && (k == 0 || match l[k - 1]? with
    | some y => ltP y x
    | none => true)
  | none => true
theorem okR_at {l : List Po} {k : Nat} {x : Po} (h : l[k]? = some x) : okR l k = (okP x && (k == 0 || match l[k - 1]? with
    | some y => ltP y x
    | none => true)) := by unfold okR; rw [h]
theorem rise_iff : ∀ {l : List Po}, riseP l = true ↔ ∀ k, k < l.length → okR l k = true
  | [] => by simp [riseP]
  | p :: l => by
    show (okP p && (match l with | [] => true | q :: _ => ltP p q) && riseP l) = true ↔ _
    rw [Bool.and_eq_true, Bool.and_eq_true, rise_iff (l := l)]
    constructor
    · rintro ⟨⟨h1, h2⟩, h3⟩ k hk
      cases k with
      | zero => rw [okR_at (x := p) rfl, h1]; rfl
      | succ k =>
        have hk' : k < l.length := by simpa using hk
        obtain ⟨x, hx⟩ : ∃ x, l[k]? = some x := ⟨_, List.getElem?_eq_getElem hk'⟩
        have h4 := h3 k hk'
        rw [okR_at hx] at h4
        rw [okR_at (l := p :: l) (k := k + 1) (x := x) (by simpa using hx)]
        rw [Bool.and_eq_true] at h4 ⊢
        refine ⟨h4.1, ?_⟩
        cases k with
        | zero =>
          cases l with
          | nil => exact absurd hk' (by simp)
          | cons q l =>
            simp only [List.getElem?_cons_zero, Option.some.injEq] at hx
            subst hx
            simpa using h2
        | succ k => simpa using h4.2
    · intro h
      have h0 := h 0 (by simp)
      rw [okR_at (x := p) rfl, Bool.and_eq_true] at h0
      refine ⟨⟨h0.1, ?_⟩, fun k hk => ?_⟩
      · cases l with
        | nil => rfl
        | cons q l =>
          have h1 := h 1 (by simp)
          rw [okR_at (x := q) rfl, Bool.and_eq_true] at h1
          simpa using h1.2
      · obtain ⟨x, hx⟩ : ∃ x, l[k]? = some x := ⟨_, List.getElem?_eq_getElem hk⟩
        have h1 := h (k + 1) (by simpa using hk)
        rw [okR_at (l := p :: l) (k := k + 1) (x := x) (by simpa using hx), Bool.and_eq_true] at h1
        rw [okR_at hx, Bool.and_eq_true]
        refine ⟨h1.1, ?_⟩
        cases k with
        | zero => rfl
        | succ k => simpa using h1.2
theorem riseP_no {l : List Po} {k : Nat} {x : Po} (hx : l[k]? = some x) (h : okR l k = false) : riseP l = false := by
  cases e : riseP l with
  | false => rfl
  | true => exact absurd (rise_iff.1 e k (get_lt hx)) (by rw [h]; simp)
theorem riseP_yes {l : List Po} {i : Nat} (hi : l.length ≤ i) (h : ∀ k, k < i → okR l k = true) : riseP l = true := rise_iff.2 fun k hk => h k (by omega)
theorem okR_bad1 {l : List Po} {k : Nat} {x : Po} (hx : l[k]? = some x) (h : okP x = false) : okR l k = false := by rw [okR_at hx, h]; rfl
theorem okR_bad2 {l : List Po} {k : Nat} {x y : Po} (hx : l[k]? = some x) (hk : 0 < k) (hy : l[k - 1]? = some y) (h : 0 ≤ cmpN (nmP y) (nmP x)) : okR l k = false := by
  rw [okR_at hx, hy]
  have e1 : (k == 0) = false := by simp; omega
  have e2 : ltP y x = false := by unfold ltP ltN; exact decide_eq_false (by omega)
  dsimp only
  rw [e1, e2]; simp
theorem okR_ok0 {l : List Po} {k : Nat} {x : Po} (hx : l[k]? = some x) (hk : k = 0) (h : okP x = true) : okR l k = true := by rw [okR_at hx, h, hk]; rfl
theorem okR_ok {l : List Po} {k : Nat} {x y : Po} (hx : l[k]? = some x) (hy : l[k - 1]? = some y) (h : okP x = true) (h2 : cmpN (nmP y) (nmP x) < 0) : okR l k = true := by
  have e2 : ltP y x = true := by unfold ltP ltN; exact decide_eq_true h2
  rw [okR_at hx, h, hy]
  dsimp only
  rw [e2]; simp
theorem okP_q {x : Po} (h : numB x.qty = false) : okP x = false := by simp [okP, h]
theorem okP_v {x : Po} (h : numB x.value = false) : okP x = false := by simp [okP, h]
theorem okP_o {x : Po} (h : x.over = true) (h2 : ¬ x.qty = 0 ∨ ¬ x.value = 0) : okP x = false := by
  rcases h2 with h2 | h2 <;> simp [okP, h, h2]
theorem okP_n {x : Po} (h1 : numB x.qty = true) (h2 : numB x.value = true) (h : x.over = false) : okP x = true := by simp [okP, h, h1, h2]
theorem okP_z {x : Po} (h1 : numB x.qty = true) (h2 : numB x.value = true) (h3 : x.qty = 0) (h4 : x.value = 0) : okP x = true := by
  obtain ⟨a, s, q, v, o⟩ := x
  simp only [okP] at *
  subst h3; subst h4; simp [h1]
theorem getP_yes {l : List Po} {i : Nat} {x : Po} {n : Nm} (hx : l[i]? = some x) (hn : ∀ k y, k < i → l[k]? = some y → ¬ (y.acc = n.1 ∧ y.sym = n.2)) (h : x.acc = n.1 ∧ x.sym = n.2) : getP l n = x := by
  have : l.find? (fun p => decide (nmP p = n)) = some x := by
    rw [List.find?_eq_some_iff_getElem]
    obtain ⟨hi, rfl⟩ := List.getElem?_eq_some_iff.1 hx
    refine ⟨by simp only [decide_eq_true_eq]; exact Prod.ext h.1 h.2, i, hi, rfl, fun j hj => ?_⟩
    have := hn j l[j] hj (List.getElem?_eq_getElem _)
    simp only [Bool.not_eq_true', decide_eq_false_iff_not]
    intro e
    exact this ⟨congrArg Prod.fst e, congrArg Prod.snd e⟩
  unfold getP; rw [this]
theorem getP_no {l : List Po} {i : Nat} {n : Nm} (hi : l.length ≤ i) (hn : ∀ k y, k < i → l[k]? = some y → ¬ (y.acc = n.1 ∧ y.sym = n.2)) : getP l n = ⟨n.1, n.2, 0, 0, false⟩ := by
  have : l.find? (fun p => decide (nmP p = n)) = none := by
    rw [List.find?_eq_none]
    intro x hx
    obtain ⟨k, hk⟩ := List.mem_iff_getElem?.1 hx
    have := hn k x (by have := get_lt hk; omega) hk
    simp only [decide_eq_true_eq]
    intro e
    exact this ⟨congrArg Prod.fst e, congrArg Prod.snd e⟩
  unfold getP; rw [this]
theorem noneP_next {l : List Po} {a s : Bs} {i : Nat} {x : Po} (hn : ∀ k y, k < i → l[k]? = some y → ¬ (y.acc = a ∧ y.sym = s)) (hx : l[i]? = some x) (h : ¬ (x.acc = a ∧ x.sym = s)) : ∀ k y, k < i + 1 → l[k]? = some y → ¬ (y.acc = a ∧ y.sym = s) := fun k y hk hy => by
  rcases Nat.lt_or_ge k i with h' | h'
  · exact hn k y h' hy
  · have : k = i := by omega
    subst this; rw [hx] at hy; cases hy; exact h
theorem togF_over {n : Nm} {l : List Po} {i : Nat} {x : Po} (hx : l[i]? = some x) (h : x.over = true) : togF n l = ⟨n.1, n.2, 0, 0, true⟩ := by
  unfold togF; rw [if_pos (List.any_eq_true.2 ⟨x, List.mem_of_getElem? hx, h⟩)]
theorem togF_end {n : Nm} {l : List Po} {i : Nat} {qs vs : List Int} (hi : l.length ≤ i) (hq : qs = (l.take i).map (·.qty)) (hv : vs = (l.take i).map (·.value)) (ho : (l.take i).any (·.over) = false) : togF n l = if (sumF qs).2 && (sumF vs).2 then ⟨n.1, n.2, (sumF qs).1, (sumF vs).1, false⟩ else ⟨n.1, n.2, 0, 0, true⟩ := by
  rw [List.take_of_length_le hi] at *
  unfold togF; rw [if_neg (by rw [ho]; simp), ← hq, ← hv]
theorem any_next {l : List Po} {i : Nat} {x : Po} (hx : l[i]? = some x) (h : (l.take i).any (·.over) = false) (h2 : x.over = false) : (l.take (i + 1)).any (·.over) = false := by
  rw [take_next hx, List.any_append, h]; simp [h2]
theorem grpF_fuel : ∀ (k k' : Nat) (l : List Po), l.length ≤ k → l.length ≤ k' → grpF k l = grpF k' l
  | 0, 0, _, _, _ => rfl
  | 0, k' + 1, [], _, _ => rfl
  | k + 1, 0, [], _, _ => rfl
  | 0, _ + 1, _ :: _, h, _ => absurd h (by simp)
  | _ + 1, 0, _ :: _, _, h => absurd h (by simp)
  | k + 1, k' + 1, [], _, _ => rfl
  | k + 1, k' + 1, p :: l, h, h' => by
    rw [grpF, grpF, grpF_fuel k k']
    · have := (List.dropWhile_sublist (fun q => decide (nmP q = nmP p)) (l := l)).length_le
      simp only [List.length_cons] at h; omega
    · have := (List.dropWhile_sublist (fun q => decide (nmP q = nmP p)) (l := l)).length_le
      simp only [List.length_cons] at h'; omega
def grpA (l : List Po) : List Po := grpF l.length l
abbrev smB (p : Po) : Po → Bool := fun q => decide (nmP q = nmP p)
theorem grpA_cons {p : Po} {l : List Po} : grpA (p :: l) = togF (nmP p) (p :: l.takeWhile (smB p)) :: grpA (l.dropWhile (smB p)) := by
  unfold grpA
  show grpF (l.length + 1) (p :: l) = _
  rw [grpF]
  congr 1
  refine grpF_fuel _ _ _ ?_ (Nat.le_refl _)
  exact (List.dropWhile_sublist _).length_le
theorem mergeF_eq {ls : List (List Po)} (h : ls.all riseP = true) : mergeF ls = (grpA (stbP ls.flatten), 0) := by
  unfold mergeF grpA; rw [if_pos h, stbP_len]
theorem tw_get {p : Po} {r : List Po} (k : Nat) : r[k]? = (r.takeWhile (smB p) ++ r.dropWhile (smB p))[k]? := by rw [List.takeWhile_append_dropWhile]
theorem tw_sp {p : Po} {r : List Po} : ∃ s t, r = s ++ t ∧ s = r.takeWhile (smB p) ∧ t = r.dropWhile (smB p) := ⟨_, _, List.takeWhile_append_dropWhile.symm, rfl, rfl⟩
theorem tw_next {p y : Po} {r : List Po} {n : Nat} (h1 : 1 ≤ n) (hn : n ≤ 1 + (r.takeWhile (smB p)).length) (hy : (p :: r)[n]? = some y) (h : cmpN (nmP p) (nmP y) = 0) : n + 1 ≤ 1 + (r.takeWhile (smB p)).length := by
  obtain ⟨k, rfl⟩ : ∃ k, n = k + 1 := ⟨n - 1, by omega⟩
  rw [List.getElem?_cons_succ] at hy
  rcases Nat.lt_or_ge k (r.takeWhile (smB p)).length with h2 | h2
  · omega
  · exfalso
    have hk : k = (r.takeWhile (smB p)).length := by omega
    have hd : (r.dropWhile (smB p))[0]? = some y := by
      rw [← hy, hk]
      have e := tw_get (p := p) (r := r) (r.takeWhile (smB p)).length
      rw [e, List.getElem?_append_right (Nat.le_refl _), Nat.sub_self]
    have := List.head?_dropWhile_not (smB p) r
    rw [List.head?_eq_getElem?, hd] at this
    simp only [smB, decide_eq_false_iff_not] at this
    exact this (cmpN_eq.1 h).symm
theorem tw_stop {p y : Po} {r : List Po} {n : Nat} (h1 : 1 ≤ n) (hn : n ≤ 1 + (r.takeWhile (smB p)).length) (hy : (p :: r)[n]? = some y) (h : ¬ cmpN (nmP p) (nmP y) = 0) : n = 1 + (r.takeWhile (smB p)).length := by
  obtain ⟨k, rfl⟩ : ∃ k, n = k + 1 := ⟨n - 1, by omega⟩
  rw [List.getElem?_cons_succ] at hy
  rcases Nat.lt_or_ge k (r.takeWhile (smB p)).length with h2 | h2
  · exfalso
    have ht : (r.takeWhile (smB p))[k]? = some y := by
      rw [← hy, tw_get (p := p) (r := r) k, List.getElem?_append_left h2]
    have := List.all_eq_true.1 (List.all_takeWhile (p := smB p) (l := r)) y (List.mem_of_getElem? ht)
    simp only [smB, decide_eq_true_eq] at this
    exact h (cmpN_eq.2 this.symm)
  · omega
theorem tw_end {p : Po} {r : List Po} {n : Nat} (hn : n ≤ 1 + (r.takeWhile (smB p)).length) (h : (p :: r).length ≤ n) : n = 1 + (r.takeWhile (smB p)).length := by
  have := (List.takeWhile_sublist (smB p) (l := r)).length_le
  simp only [List.length_cons] at h; omega
theorem tw_take {p : Po} {r : List Po} : (p :: r).take (1 + (r.takeWhile (smB p)).length) = p :: r.takeWhile (smB p) := by
  rw [Nat.add_comm, List.take_succ_cons]
  congr 1
  obtain ⟨s, t, h, hs, ht⟩ := tw_sp (p := p) (r := r)
  rw [← hs]; rw [h]; simp
theorem tw_drop {p : Po} {r : List Po} : (p :: r).drop (1 + (r.takeWhile (smB p)).length) = r.dropWhile (smB p) := by
  rw [Nat.add_comm, List.drop_succ_cons]
  obtain ⟨s, t, h, hs, ht⟩ := tw_sp (p := p) (r := r)
  rw [← hs, ← ht]; rw [h]; simp
theorem tw_le {p : Po} {r : List Po} : 1 + (r.takeWhile (smB p)).length ≤ (p :: r).length := by
  have := (List.takeWhile_sublist (smB p) (l := r)).length_le
  simp only [List.length_cons]; omega
theorem flat_next {ls : List (List Po)} {i : Nat} {l : List Po} (h : ls[i]? = some l) : (ls.take (i + 1)).flatten = (ls.take i).flatten ++ l := by rw [take_next h]; simp
theorem flat_len {ls : List (List Po)} {i : Nat} : (ls.take i).flatten.length ≤ ls.flatten.length := by
  have h : ls.flatten = (ls.take i).flatten ++ (ls.drop i).flatten := by rw [← List.flatten_append, List.take_append_drop]
  rw [h, List.length_append]; omega
theorem mem_len {ls : List (List Po)} {i : Nat} {l : List Po} (h : ls[i]? = some l) : l.length ≤ ls.flatten.length := by
  have h1 := flat_next h
  have h2 := flat_len (ls := ls) (i := i + 1)
  rw [h1, List.length_append] at h2; omega
theorem all_riseNext {ls : List (List Po)} {i : Nat} {l : List Po} (h : ls[i]? = some l) (h1 : (ls.take i).all riseP = true) (h2 : riseP l = true) : (ls.take (i + 1)).all riseP = true := by
  rw [take_next h, List.all_append, h1]; simp [h2]
theorem all_riseNo {ls : List (List Po)} {i : Nat} {l : List Po} (h : ls[i]? = some l) (h2 : riseP l = false) : mergeF ls = ([], 1) := merge_bad fun e => by
  have := List.all_eq_true.1 e l (List.mem_of_getElem? h)
  rw [h2] at this; exact absurd this (by simp)
theorem all_riseEnd {ls : List (List Po)} {i : Nat} (hi : ls.length ≤ i) (h : (ls.take i).all riseP = true) : ls.all riseP = true := by rwa [List.take_of_length_le hi] at h
end Go.Bk
end
section
/- Names sorted, each once. No program. -/
set_option linter.unusedVariables false
set_option linter.unusedSimpArgs false
namespace Go.Bk
open Go Go.Abs
def srtN (l : List Nm) : List Nm := l.mergeSort fun x y => !ltN y x
theorem srtN_len (l : List Nm) : (srtN l).length = l.length := List.length_mergeSort l
/-- Of the first i, each that isn't the one ahead of it. -/
def cG (l : List Nm) : Nat → List Nm
  | 0 => []
  | i + 1 => if 0 < i ∧ l[i]? = l[i - 1]? then cG l i else cG l i ++ (l[i]?).toList
def cmpct (l : List Nm) : List Nm := cG l l.length
theorem cG_one (l : List Nm) : cG l 1 = l.take 1 := by
  rw [cG, if_neg (by omega)]
  cases l <;> rfl
theorem cG_no {l : List Nm} {i : Nat} {x y : Nm} (hi : 0 < i) (hx : l[i]? = some x) (hy : l[i - 1]? = some y) (h : ¬ x = y) : cG l (i + 1) = cG l i ++ [x] := by
  rw [cG, if_neg (by rw [hx, hy]; simpa using fun _ => h), hx]; rfl
theorem cG_yes {l : List Nm} {i : Nat} {x y : Nm} (hi : 0 < i) (hx : l[i]? = some x) (hy : l[i - 1]? = some y) (h : x = y) : cG l (i + 1) = cG l i := by
  rw [cG, if_pos ⟨hi, by rw [hx, hy, h]⟩]
theorem cmpct_short {l : List Nm} (h : l.length < 2) : cmpct l = l := by
  match l, h with
  | [], _ => rfl
  | [x], _ => exact cG_one [x]
theorem cG_mem {l : List Nm} : ∀ (i : Nat) (x : Nm), x ∈ cG l i ↔ x ∈ l.take i
  | 0, x => by simp [cG]
  | i + 1, x => by
    rw [cG]
    split
    · rename_i h
      rw [cG_mem i x]
      cases hx : l[i]? with
      | none => rw [List.take_add_one, hx]; simp
      | some y =>
        rw [take_next hx, List.mem_append, List.mem_singleton]
        constructor
        · exact .inl
        · rintro (h2 | rfl)
          · exact h2
          · refine List.mem_iff_getElem?.2 ⟨i - 1, ?_⟩
            rw [List.getElem?_take, if_pos (by omega), ← h.2, hx]
    · rw [List.mem_append, cG_mem i x, List.take_add_one, List.mem_append]
theorem cG_rise {l : List Nm} (hs : l.Pairwise fun x y => ltN y x = false) : ∀ (i : Nat), (cG l i).Pairwise (fun x y => ltN x y = true)
  | 0 => List.Pairwise.nil
  | i + 1 => by
    rw [cG]
    split
    · exact cG_rise hs i
    · rename_i h
      cases hx : l[i]? with
      | none => simpa using cG_rise hs i
      | some x =>
        refine List.pairwise_append.2 ⟨cG_rise hs i, by simp, fun y hy z hz => ?_⟩
        simp only [Option.toList_some, List.mem_singleton] at hz
        subst hz
        obtain ⟨k, hk⟩ := List.mem_iff_getElem?.1 ((cG_mem i y).1 hy)
        rw [List.getElem?_take] at hk
        split at hk
        · rename_i hki
          have hle : ∀ {a b : Nat} {u v : Nm}, a < b → l[a]? = some u → l[b]? = some v → ltN v u = false := fun {a b} {u v} hab hu hv => by
            obtain ⟨ha, rfl⟩ := List.getElem?_eq_some_iff.1 hu
            obtain ⟨hb, rfl⟩ := List.getElem?_eq_some_iff.1 hv
            exact List.pairwise_iff_getElem.1 hs a b ha hb hab
          obtain ⟨w, hw⟩ : ∃ w, l[i - 1]? = some w := ⟨_, List.getElem?_eq_getElem (by have := get_lt hx; omega)⟩
          have h1 : ltN z w = false := hle (by omega) hw hx
          have hzw : z ≠ w := fun e => h ⟨by omega, by rw [hx, hw, e]⟩
          have h2 : ltN w z = true := by
            rcases ltN_tri w z with h3 | h3 | h3
            · exact h3
            · exact absurd h3.symm hzw
            · rw [h3] at h1; exact absurd h1 (by simp)
          rcases Nat.lt_or_ge k (i - 1) with h3 | h3
          · have h4 : ltN w y = false := hle h3 hk hw
            rcases ltN_tri y w with h5 | h5 | h5
            · exact ltN_trans h5 h2
            · rw [h5]; exact h2
            · rw [h5] at h4; exact absurd h4 (by simp)
          · have : k = i - 1 := by omega
            subst this; rw [hk] at hw; cases hw; exact h2
        · exact absurd hk (by simp)
theorem srtN_sorted (l : List Nm) : (srtN l).Pairwise fun x y => ltN y x = false := by
  have h := List.pairwise_mergeSort (le := fun x y : Nm => !ltN y x) (fun a b c h1 h2 => by
    simp only [Bool.not_eq_true'] at *
    exact ltN_nt h2 h1) (fun a b => by
    rcases ltN_tri a b with h | h | h
    · simp [ltN_asym h]
    · subst h; simp [ltN_irrefl]
    · simp [ltN_asym h]) l
  exact h.imp fun {a b} h => by simpa using h
theorem srtN_mem {l : List Nm} {x : Nm} : x ∈ srtN l ↔ x ∈ l := (List.mergeSort_perm l _).mem_iff
/-- A book's names, rising, each once. -/
def nmsB (b : Bk) : List Nm := b.fills.map fun f => (f.acc, f.sym)
def allP (b : Bk) : List Po := if rightBk b then (cmpct (srtN (nmsB b))).map (fun n => posF b n.1 n.2) else []
theorem cmpct_mem {l : List Nm} {x : Nm} : x ∈ cmpct l ↔ x ∈ l := by
  unfold cmpct; rw [cG_mem, List.take_length]
theorem nms_rise (l : List Nm) : (cmpct (srtN l)).Pairwise (fun x y => ltN x y = true) := cG_rise (srtN_sorted l) _
theorem cmpct_len (l : List Nm) : (cmpct l).length ≤ l.length := by
  unfold cmpct
  generalize l.length = n
  induction n with
  | zero => simp [cG]
  | succ i ih =>
    rw [cG]; split
    · omega
    · rw [List.length_append]; cases l[i]? <;> simp <;> omega
end Go.Bk
end
section
/- A day is closed; what an account has then; the worst. No program. -/
set_option linter.unusedVariables false
set_option linter.unusedSimpArgs false
namespace Go.Bk
open Go Go.Abs
def finsB (b : Bk) : List Dn := b.fills.filter fun f => finalF b f
def restB (b : Bk) : List Dn := b.fills.filter fun f => !finalF b f
def doneB (b : Bk) : Bk := ⟨[], finsB b, b.ids, b.clock, 0⟩
def closeF (b : Bk) : Bk × List Po × Int :=
  if rightBk b then (if (allP (doneB b)).any (·.over) then (b, [], 9) else (⟨b.orders, restB b, b.ids, b.clock, b.bad⟩, allP (doneB b), 0)) else (b, [], 1)
theorem dayc_no {b : Bk} (h : rightBk b = false) : closeF b = (b, [], 1) := by unfold closeF; rw [if_neg (by rw [h]; simp)]
theorem dayc_over {b : Bk} (h : rightBk b = true) (h2 : (allP (doneB b)).any (·.over) = true) : closeF b = (b, [], 9) := by unfold closeF; rw [if_pos h, if_pos h2]
theorem dayc_ok {b : Bk} (h : rightBk b = true) (h2 : (allP (doneB b)).any (·.over) = false) : closeF b = (⟨b.orders, restB b, b.ids, b.clock, b.bad⟩, allP (doneB b), 0) := by unfold closeF; rw [if_pos h, if_neg (by rw [h2]; simp)]
def hasR (b : Bk) (car : List Po) (a s : Bs) : Po :=
  if (mergeF [[posF b a s], [getP car (a, s)]]).2 ≠ 0 then ⟨a, s, 0, 0, true⟩ else getP (mergeF [[posF b a s], [getP car (a, s)]]).1 (a, s)
def worstR (b : Bk) (car : List Po) (a s : Bs) : Ws :=
  if (getP car (a, s)).over then ofF b a s else plusW (ofF b a s) ((getP car (a, s)).qty, IntKind.i64.wrap (0 - (getP car (a, s)).qty))
theorem fil_no {l : List Dn} {p : Dn → Bool} {i : Nat} {f : Dn} (hf : l[i]? = some f) (h : p f = false) : (l.take (i + 1)).filter p = (l.take i).filter p := by
  rw [take_next hf, List.filter_append]; simp [h]
theorem fil_yes {l : List Dn} {p : Dn → Bool} {i : Nat} {f : Dn} (hf : l[i]? = some f) (h : p f = true) : (l.take (i + 1)).filter p = (l.take i).filter p ++ [f] := by
  rw [take_next hf, List.filter_append]; simp [h]
theorem allP_len (b : Bk) : (allP b).length ≤ b.fills.length := by
  unfold allP; split
  · rw [List.length_map]
    have := cmpct_len (srtN (nmsB b))
    rw [srtN_len] at this
    simpa [nmsB] using this
  · simp
/-- The fixed answer. -/
def awB : Bk := ⟨[], [⟨[97], [], [99], [115], true, 4, 5, 0, true⟩, ⟨[98], [], [99], [115], true, 2, 6, 15, true⟩], [[97], [98]], 20, 0⟩
def awN : Bk := ⟨[], [⟨[98], [], [99], [115], true, 2, 6, 15, true⟩], [[97], [98]], 20, 0⟩
theorem srtN_one (x : Nm) : srtN [x] = [x] := List.mergeSort_singleton x
theorem aw_right : rightBk awB = true := by decide
theorem aw_fins : finsB awB = [⟨[97], [], [99], [115], true, 4, 5, 0, true⟩] := by decide
theorem aw_rest : restB awB = [⟨[98], [], [99], [115], true, 2, 6, 15, true⟩] := by decide
theorem aw_all : allP (doneB awB) = [⟨[99], [115], 4, 20, false⟩] := by
  have e1 : doneB awB = ⟨[], [⟨[97], [], [99], [115], true, 4, 5, 0, true⟩], [[97], [98]], 20, 0⟩ := by unfold doneB; rw [aw_fins]; rfl
  rw [e1]
  unfold allP
  rw [if_pos (by decide)]
  have e2 : nmsB ⟨[], [⟨[97], [], [99], [115], true, 4, 5, 0, true⟩], [[97], [98]], 20, 0⟩ = [([99], [115])] := rfl
  rw [e2, srtN_one, cmpct_short (by simp)]
  rfl
theorem aw_close : closeF awB = (awN, [⟨[99], [115], 4, 20, false⟩], 0) := by
  rw [dayc_ok aw_right (by rw [aw_all]; rfl), aw_all, aw_rest]; rfl
theorem aw_pos : posF awN [99] [115] = ⟨[99], [115], 2, 12, false⟩ := by rfl
theorem aw_get : getP [⟨[99], [115], 4, 20, false⟩] ([99], [115]) = ⟨[99], [115], 4, 20, false⟩ := by rfl
theorem aw_merge : mergeF [[⟨[99], [115], 2, 12, false⟩], [⟨[99], [115], 4, 20, false⟩]] = ([⟨[99], [115], 6, 32, false⟩], 0) := by
  have h : ([[⟨[99], [115], 2, 12, false⟩], [⟨[99], [115], 4, 20, false⟩]] : List (List Po)).all riseP = true := by decide
  refine Prod.ext ?_ (merge_ok h)
  refine Merged.uniq (merge_spec h) ⟨List.pairwise_singleton .., fun p => ?_⟩
  simp only [List.flatten_cons, List.flatten_nil, List.append_nil, List.cons_append, List.nil_append, List.mem_cons, List.not_mem_nil, or_false]
  constructor
  · rintro rfl
    exact ⟨⟨_, .inl rfl, rfl⟩, by rfl⟩
  · rintro ⟨⟨q, hq, e⟩, hp⟩
    have hn : nmP p = ([99], [115]) := by rcases hq with rfl | rfl <;> exact e.symm
    rw [hp, hn]; rfl
theorem aw_has : hasR awN [⟨[99], [115], 4, 20, false⟩] [99] [115] = ⟨[99], [115], 6, 32, false⟩ := by
  unfold hasR; rw [aw_pos, aw_get, aw_merge]; rfl
theorem aw_worst : worstR awN [⟨[99], [115], 4, 20, false⟩] [99] [115] = (6, -4) := by decide
end Go.Bk
end
section
/- A close changes neither what is had nor the worst; what comes then is told as if it hadn't been closed. No program. -/
set_option linter.unusedVariables false
set_option linter.unusedSimpArgs false
namespace Go.Bk
open Go Go.Abs
/-- The same fills but for some that are final. -/
inductive Drp (c : Int) : List Dn → List Dn → List Dn → Prop
  | nil : Drp c [] [] []
  | keep (f : Dn) {X F G : List Dn} : Drp c X F G → Drp c X (f :: F) (f :: G)
  | drop (f : Dn) {X F G : List Dn} : 10 < c - f.time → Drp c X F G → Drp c (f :: X) (f :: F) G
structure Twin (X : List Dn) (b n : Bk) : Prop where
  orders : n.orders = b.orders
  ids : n.ids = b.ids
  clock : n.clock = b.clock
  bad : n.bad = b.bad
  fills : Drp b.clock X b.fills n.fills
theorem Drp.mono {c d : Int} (h : c ≤ d) {X F G : List Dn} (hd : Drp c X F G) : Drp d X F G := by
  induction hd with
  | nil => exact .nil
  | keep f _ ih => exact .keep f ih
  | drop f hf _ ih => exact .drop f (by omega) ih
theorem Drp.snoc {c : Int} {X F G : List Dn} (hd : Drp c X F G) (f : Dn) : Drp c X (F ++ [f]) (G ++ [f]) := by
  induction hd with
  | nil => exact .keep f .nil
  | keep f _ ih => exact .keep f ih
  | drop f hf _ ih => exact .drop f hf ih
theorem Drp.refl {c : Int} : ∀ (F : List Dn), Drp c [] F F
  | [] => .nil
  | f :: F => .keep f (Drp.refl F)
theorem Drp.sub {c : Int} {X F G : List Dn} (hd : Drp c X F G) : G.Sublist F := by
  induction hd with
  | nil => exact .slnil
  | keep f _ ih => exact ih.cons_cons f
  | drop f _ _ ih => exact ih.cons f
theorem Drp.trans {c : Int} {X F G : List Dn} (h : Drp c X F G) : ∀ {Y H : List Dn}, Drp c Y G H → ∃ Z, Z.Perm (X ++ Y) ∧ Drp c Z F H := by
  induction h with
  | nil => intro Y H h2; exact ⟨Y, by simp, h2⟩
  | keep f _ ih =>
    intro Y H h2
    cases h2 with
    | keep _ h2 => obtain ⟨Z, h3, h4⟩ := ih h2; exact ⟨Z, h3, .keep f h4⟩
    | drop _ hf h2 => obtain ⟨Z, h3, h4⟩ := ih h2; exact ⟨f :: Z, (h3.cons f).trans List.perm_middle.symm, .drop f hf h4⟩
  | drop f hf _ ih => intro Y H h2; obtain ⟨Z, h3, h4⟩ := ih h2; exact ⟨f :: Z, h3.cons f, .drop f hf h4⟩
theorem Drp.filter {c : Int} (p : Dn → Bool) : ∀ (F : List Dn), (∀ f ∈ F, p f = false → 10 < c - f.time) → Drp c (F.filter fun f => !p f) F (F.filter p)
  | [], _ => .nil
  | f :: F, hp => by
    have ih := Drp.filter p F fun g hg => hp g (List.mem_cons_of_mem _ hg)
    cases h : p f with
    | true => rw [List.filter_cons_of_pos (p := p) h, List.filter_cons_of_neg (p := fun f => !p f) (by simp [h])]; exact .keep f ih
    | false => rw [List.filter_cons_of_neg (p := p) (by simp [h]), List.filter_cons_of_pos (p := fun f => !p f) (by simp [h])]; exact .drop f (hp f (by simp) h) ih
theorem Drp.perm {c : Int} {X F G : List Dn} (h : Drp c X F G) : F.Perm (X ++ G) := by
  induction h with
  | nil => exact .nil
  | keep f _ ih => exact (ih.cons f).trans List.perm_middle.symm
  | drop f _ _ ih => exact ih.cons f
theorem atF_cons {f : Dn} {F : List Dn} {id : Bs} : atF (f :: F) id = if f.id = id then some 0 else (atF F id).map (· + 1) := by
  unfold atF; rw [List.findIdx?_cons]; simp only [decide_eq_true_eq]
theorem atF_none_of {F : List Dn} {id : Bs} (h : id ∉ F.map (·.id)) : atF F id = none := by
  unfold atF; rw [List.findIdx?_eq_none_iff]
  intro f hf
  simp only [decide_eq_false_iff_not]
  intro e; exact h (List.mem_map.2 ⟨f, hf, e⟩)
/-- Where a fill stands in both, or it is final, or it is nowhere. -/
theorem Drp.find {c : Int} {X F G : List Dn} (hd : Drp c X F G) (nd : (F.map (·.id)).Nodup) (id : Bs) :
    (∃ i j f, atF F id = some i ∧ atF G id = some j ∧ F.getD i zeroD = f ∧ G.getD j zeroD = f ∧ ∀ f', Drp c X (F.set i f') (G.set j f')) ∨
    (∃ i f, atF F id = some i ∧ atF G id = none ∧ F.getD i zeroD = f ∧ 10 < c - f.time) ∨ (atF F id = none ∧ atF G id = none) := by
  induction hd with
  | nil => exact .inr (.inr ⟨rfl, rfl⟩)
  | keep f h ih =>
    rw [List.map_cons, List.nodup_cons] at nd
    by_cases e : f.id = id
    · refine .inl ⟨0, 0, f, by rw [atF_cons, if_pos e], by rw [atF_cons, if_pos e], rfl, rfl, fun f' => .keep f' h⟩
    · rcases ih nd.2 with ⟨i, j, g, h1, h2, h3, h4, h5⟩ | ⟨i, g, h1, h2, h3, h4⟩ | ⟨h1, h2⟩
      · exact .inl ⟨i + 1, j + 1, g, by rw [atF_cons, if_neg e, h1]; rfl, by rw [atF_cons, if_neg e, h2]; rfl, by simpa using h3, by simpa using h4, fun f' => .keep f (h5 f')⟩
      · exact .inr (.inl ⟨i + 1, g, by rw [atF_cons, if_neg e, h1]; rfl, by rw [atF_cons, if_neg e, h2]; rfl, by simpa using h3, h4⟩)
      · exact .inr (.inr ⟨by rw [atF_cons, if_neg e, h1]; rfl, by rw [atF_cons, if_neg e, h2]; rfl⟩)
  | drop f hf h ih =>
    rw [List.map_cons, List.nodup_cons] at nd
    by_cases e : f.id = id
    · refine .inr (.inl ⟨0, f, by rw [atF_cons, if_pos e], atF_none_of ?_, rfl, hf⟩)
      intro hm
      obtain ⟨g, hg, e2⟩ := List.mem_map.1 hm
      exact nd.1 (List.mem_map.2 ⟨g, h.sub.subset hg, e2.trans e.symm⟩)
    · rcases ih nd.2 with ⟨i, j, g, h1, h2, h3, h4, h5⟩ | ⟨i, g, h1, h2, h3, h4⟩ | ⟨h1, h2⟩
      · exact .inl ⟨i + 1, j, g, by rw [atF_cons, if_neg e, h1]; rfl, h2, by simpa using h3, h4, fun f' => .drop f hf (h5 f')⟩
      · exact .inr (.inl ⟨i + 1, g, by rw [atF_cons, if_neg e, h1]; rfl, h2, by simpa using h3, h4⟩)
      · exact .inr (.inr ⟨by rw [atF_cons, if_neg e, h1]; rfl, h2⟩)
/-- What two alike tell of the same execution. -/
structure Alike2 (c : Int) (X F G : List Dn) (p q : Bk × Int) : Prop where
  code : p.2 = q.2
  orders : q.1.orders = p.1.orders
  ids : q.1.ids = p.1.ids
  clock : q.1.clock = p.1.clock
  bad : q.1.bad = p.1.bad
  clk : p.1.clock = c
  fills : Drp c X p.1.fills q.1.fills
  len : p.1.fills.length + G.length = q.1.fills.length + F.length
section
variable {o : List Od} {X F G : List Dn} {ids : List Bs} {cl bad : Int}
theorem Alike2.put (h : Drp cl X F G) (o' : List Od) (e : Int) : Alike2 cl X F G (⟨o', F, ids, cl, bad⟩, e) (⟨o', G, ids, cl, bad⟩, e) := ⟨rfl, rfl, rfl, rfl, rfl, rfl, h, by simp only []; omega⟩
theorem amend_twin (h : Drp cl X F G) (nd : (F.map (·.id)).Nodup) (x : Ex) (hx : ¬ x.time < cl) : Alike2 cl X F G (amendF ⟨o, F, ids, cl, bad⟩ x) (amendF ⟨o, G, ids, cl, bad⟩ x) := by
  unfold amendF
  rcases h.find nd x.ref with ⟨i, j, f, h1, h2, h3, h4, h5⟩ | ⟨i, f, h1, h2, h3, h4⟩ | ⟨h1, h2⟩
  · simp only [h1, h2, h3, h4]
    by_cases c1 : f.live = false ∨ 10 < x.time - f.time
    · rw [if_pos c1, if_pos c1]; exact .put h _ 6
    · rw [if_neg c1, if_neg c1]
      by_cases c2 : f.ord ≠ x.ord ∨ f.acc ≠ x.acc ∨ f.sym ≠ x.sym ∨ f.buy ≠ x.buy
      · rw [if_pos c2, if_pos c2]; exact .put h _ 3
      · rw [if_neg c2, if_neg c2]
        by_cases c3 : x.kind = 7
        · rw [if_pos c3, if_pos c3]
          exact ⟨rfl, rfl, rfl, rfl, rfl, rfl, h5 _, by simp only [List.length_set]; omega⟩
        · rw [if_neg c3, if_neg c3]
          by_cases c4 : f.qty < x.qty
          · rw [if_pos c4, if_pos c4]; exact .put h _ 4
          · rw [if_neg c4, if_neg c4]
            by_cases c5 : (findF o f.ord).2 = false ∨ fairF { (findF o f.ord).1 with buy := f.buy } x.price = false
            · rw [if_pos c5, if_pos c5]; exact .put h _ 5
            · rw [if_neg c5, if_neg c5]
              exact ⟨rfl, rfl, rfl, rfl, rfl, rfl, h5 _, by simp only [List.length_set]; omega⟩
  · simp only [h1, h2, h3]
    rw [if_pos (.inr (by omega))]
    exact .put h _ 6
  · simp only [h1, h2]
    exact .put h _ 6
theorem fill_twin (h : Drp cl X F G) (x : Ex) : Alike2 cl X F G (fillF ⟨o, F, ids, cl, bad⟩ x) (fillF ⟨o, G, ids, cl, bad⟩ x) := by
  unfold fillF
  dsimp only
  by_cases c1 : (fillO o x.ord x.qty x.price).2 = 0
  · rw [if_pos c1, if_pos c1]
    exact ⟨rfl, rfl, rfl, rfl, rfl, rfl, h.snoc _, by simp only [List.length_append]; omega⟩
  · rw [if_neg c1, if_neg c1]
    by_cases c2 : (fillO o x.ord x.qty x.price).2 = 1
    · rw [if_pos c2, if_pos c2]; exact .put h _ 4
    · rw [if_neg c2, if_neg c2]
      by_cases c3 : (fillO o x.ord x.qty x.price).2 = 9
      · rw [if_pos c3, if_pos c3]; exact .put h _ 5
      · rw [if_neg c3, if_neg c3]; exact .put h _ 2
theorem repl_twin (h : Drp cl X F G) (x : Ex) : Alike2 cl X F G (replaceF ⟨o, F, ids, cl, bad⟩ x) (replaceF ⟨o, G, ids, cl, bad⟩ x) := by
  unfold replaceF
  dsimp only
  by_cases c1 : (changeO o x.ref x.ord x.qty x.price).2 = 0
  · rw [if_pos c1, if_pos c1]; exact .put h _ 0
  · rw [if_neg c1, if_neg c1]
    by_cases c2 : (changeO o x.ref x.ord x.qty x.price).2 = 1
    · rw [if_pos c2, if_pos c2]; exact .put h _ 4
    · rw [if_neg c2, if_neg c2]; exact .put h _ 2
theorem apply_twin (h : Drp cl X F G) (nd : (F.map (·.id)).Nodup) (x : Ex) : Alike2 cl X F G (applyF ⟨o, F, ids, cl, bad⟩ x) (applyF ⟨o, G, ids, cl, bad⟩ x) := by
  unfold applyF
  dsimp only
  by_cases c1 : x.time < cl
  · rw [if_pos c1, if_pos c1]; exact .put h _ 1
  · rw [if_neg c1, if_neg c1]
    by_cases c2 : x.kind = 1
    · rw [if_pos c2, if_pos c2]
      by_cases c3 : (newO o (orderOf x)).2 = 0
      · rw [if_pos c3, if_pos c3]; exact .put h _ 0
      · rw [if_neg c3, if_neg c3]; exact .put h _ 2
    · rw [if_neg c2, if_neg c2]
      by_cases c3 : x.kind = 7 ∨ x.kind = 8
      · rw [if_pos c3, if_pos c3]; exact amend_twin h nd x c1
      · rw [if_neg c3, if_neg c3]
        generalize (if x.kind = 4 then x.ref else x.ord) = key
        by_cases c4 : (findF o key).2 = false ∨ (findF o key).1.opn = false
        · rw [if_pos c4, if_pos c4]; exact .put h _ 2
        · rw [if_neg c4, if_neg c4]
          by_cases c5 : (findF o key).1.acc ≠ x.acc ∨ (findF o key).1.sym ≠ x.sym ∨ (findF o key).1.buy ≠ x.buy
          · rw [if_pos c5, if_pos c5]; exact .put h _ 3
          · rw [if_neg c5, if_neg c5]
            by_cases c6 : x.kind = 2
            · rw [if_pos c6, if_pos c6]; exact fill_twin h x
            · rw [if_neg c6, if_neg c6]
              by_cases c7 : x.kind = 4
              · rw [if_pos c7, if_pos c7]; exact repl_twin h x
              · rw [if_neg c7, if_neg c7]
                by_cases c8 : (closeO o x.ord).2 = 0
                · rw [if_pos c8, if_pos c8]; exact .put h _ 0
                · rw [if_neg c8, if_neg c8]; exact .put h _ 2
theorem apply_late {b : Bk} {x : Ex} (h : (applyF b x).2 = 0) : b.clock ≤ x.time := (applyF_does h).1
theorem take_twin (h : Drp cl X F G) (nd : (F.map (·.id)).Nodup) (x : Ex) : (takeF ⟨o, F, ids, cl, bad⟩ x).2 = (takeF ⟨o, G, ids, cl, bad⟩ x).2 ∧ Twin X (takeF ⟨o, F, ids, cl, bad⟩ x).1 (takeF ⟨o, G, ids, cl, bad⟩ x).1 ∧ (takeF ⟨o, F, ids, cl, bad⟩ x).1.fills.length + G.length = (takeF ⟨o, G, ids, cl, bad⟩ x).1.fills.length + F.length := by
  unfold takeF
  dsimp only
  by_cases c1 : bad ≠ 0 ∨ 256 ≤ ids.length
  · rw [if_pos c1, if_pos c1]; exact ⟨rfl, ⟨rfl, rfl, rfl, rfl, h⟩, by simp only []; omega⟩
  · rw [if_neg c1, if_neg c1]
    by_cases c2 : hasF ids x.id = true
    · rw [if_pos c2, if_pos c2]; exact ⟨rfl, ⟨rfl, rfl, rfl, rfl, h⟩, by simp only []; omega⟩
    · rw [if_neg c2, if_neg c2]
      have ha := apply_twin (o := o) (ids := ids ++ [x.id]) (bad := bad) h nd x
      have hc := ha.code
      by_cases c3 : (applyF ⟨o, F, ids ++ [x.id], cl, bad⟩ x).2 ≠ 0
      · rw [if_pos c3, if_pos (by rw [← hc]; exact c3)]
        exact ⟨rfl, ⟨ha.orders, ha.ids, ha.clock, hc.symm, by simp only []; rw [ha.clk]; exact ha.fills⟩, ha.len⟩
      · rw [if_neg c3, if_neg (by rw [← hc]; exact c3)]
        exact ⟨rfl, ⟨ha.orders, ha.ids, rfl, ha.bad, ha.fills.mono (apply_late (Decidable.not_not.1 c3))⟩, ha.len⟩
end
theorem come_twin {X : List Dn} {b n : Bk} (h : Twin X b n) (hb : rightBk b = true) (hn : rightBk n = true) (x : Ex) : (comeF b x).2 = (comeF n x).2 ∧ Twin X (comeF b x).1 (comeF n x).1 ∧ (comeF b x).1.fills.length + n.fills.length = (comeF n x).1.fills.length + b.fills.length := by
  unfold comeF
  rw [hb, hn, Bool.true_and]
  have nd : (b.fills.map (·.id)).Nodup := by
    unfold rightBk at hb
    simp only [Bool.and_eq_true, decide_eq_true_eq] at hb
    exact hb.2
  obtain ⟨o, F, ids, cl, bad⟩ := b
  obtain ⟨o', G, ids', cl', bad'⟩ := n
  obtain ⟨h1, h2, h3, h4, h5⟩ := h
  simp only at h1 h2 h3 h4
  subst h1; subst h2; subst h3; subst h4
  by_cases c : execB x = true
  · rw [if_pos c, if_pos c]; exact take_twin h5 nd x
  · rw [if_neg c, if_neg c]; exact ⟨rfl, ⟨rfl, rfl, rfl, rfl, h5⟩, by simp only []; omega⟩
end Go.Bk
end
section
/- What is had, and the worst, over a close. No program. -/
set_option linter.unusedVariables false
set_option linter.unusedSimpArgs false
namespace Go.Bk
open Go Go.Abs
def nB (b : Bk) : Bk := ⟨b.orders, restB b, b.ids, b.clock, b.bad⟩
theorem final_old {b : Bk} {f : Dn} (h1 : 0 ≤ f.time) (h2 : f.time ≤ b.clock) (h3 : b.clock ≤ 4611686018427387904) : finalF b f = decide (10 < b.clock - f.time) := by
  unfold finalF
  rw [if_neg (by omega), wrap64_id (by omega) (by omega)]
theorem right_clock {b : Bk} (hr : rightBk b = true) : 0 ≤ b.clock ∧ b.clock ≤ 4611686018427387904 := by
  have := (rightBk_iff.1 hr).1
  omega
theorem sub_right {b n : Bk} (hr : rightBk b = true) (ho : rightO n.orders = true) (hi : n.ids = b.ids) (hc : n.clock = b.clock) (hb : 0 ≤ n.bad ∧ n.bad ≤ 6) (hs : n.fills.Sublist b.fills) : rightBk n = true := by
  obtain ⟨h1, h2, h3, h4⟩ := rightBk_iff.1 hr
  have hl := hs.length_le
  refine rightBk_iff.2 ⟨?_, by rw [hi]; exact h2, fun f hf => ?_, h4.sublist (hs.map _)⟩
  · rw [hi, hc]
    exact ⟨ho, by omega, h1.2.2.1, h1.2.2.2.1, h1.2.2.2.2.1, hb.1, hb.2⟩
  · have := h3 f (hs.subset hf)
    unfold fillB at *; rw [hi, hc]; exact this
theorem nB_right {b : Bk} (hr : rightBk b = true) : rightBk (nB b) = true := by
  have h := (rightBk_iff.1 hr).1
  exact sub_right hr h.1 rfl rfl ⟨h.2.2.2.2.2.1, h.2.2.2.2.2.2⟩ (List.filter_sublist (p := fun f => !finalF b f))
theorem done_right {b : Bk} (hr : rightBk b = true) : rightBk (doneB b) = true := sub_right (n := doneB b) hr (by show rightO [] = true; decide) rfl rfl ⟨Int.le_refl 0, by show (0:Int) ≤ 6; omega⟩ (List.filter_sublist (p := fun f => finalF b f))
theorem nB_twin {b : Bk} (hr : rightBk b = true) : Twin (finsB b) b (nB b) := ⟨rfl, rfl, rfl, rfl, by
  have hc := right_clock hr
  have h := Drp.filter (c := b.clock) (fun f => !finalF b f) b.fills fun f hf e => by
    have ha := right_amounts hr f hf
    rw [final_old ha.2.2.1 ha.2.2.2 hc.2] at e
    simpa using e
  simp only [Bool.not_not] at h
  exact h⟩
/-- A position is right. -/
theorem sumF_num (l : List Int) : numB (sumF l).1 = true := numB_iff.2 (sumF_bnd' l)
theorem pos_okP (b : Bk) (a s : Bs) : okP (posF b a s) = true := by
  unfold posF posG
  split
  · split
    · simp [okP, sumF_num]
    · simp [okP, numB]
  · simp [okP, numB]
theorem pos_nm (b : Bk) (a s : Bs) : nmP (posF b a s) = (a, s) := by
  unfold posF posG
  split
  · split <;> rfl
  · rfl
theorem rise_of {l : List Po} (h1 : ∀ p ∈ l, okP p = true) (h2 : Rising l) : riseP l = true := by
  induction l with
  | nil => rfl
  | cons p l ih =>
    obtain ⟨h3, h4⟩ := List.pairwise_cons.1 h2
    have := ih (fun q hq => h1 q (List.mem_cons_of_mem _ hq)) h4
    have e := h1 p (by simp)
    cases l with
    | nil => simp only [riseP, e, Bool.and_true]
    | cons q l => have e2 := h3 q (by simp); simp only [riseP, e] at this ⊢; simp_all [ltP]
theorem all_rise (b : Bk) : riseP (allP b) = true := by
  unfold allP
  split
  · refine rise_of (fun p hp => ?_) ?_
    · obtain ⟨n, _, rfl⟩ := List.mem_map.1 hp
      exact pos_okP b n.1 n.2
    · unfold Rising
      rw [List.pairwise_map]
      refine (nms_rise _).imp fun {x y} h => ?_
      unfold ltP
      rw [pos_nm, pos_nm]; exact h
  · rfl
/-- No fill of a name: nothing is had. -/
theorem pos_zero {b : Bk} (hr : rightBk b = true) {a s : Bs} (h : (a, s) ∉ nmsB b) : posF b a s = ⟨a, s, 0, 0, false⟩ := by
  have : matsF a s b.fills = [] := List.filter_eq_nil_iff.2 fun f hf => by
    rw [matB_iff]
    rintro ⟨_, h2, h3⟩
    exact h (List.mem_map.2 ⟨f, hf, by rw [h2, h3]⟩)
  unfold posF; rw [if_pos hr, this]; rfl
theorem get_all {b : Bk} (hr : rightBk b = true) (a s : Bs) : getP (allP b) (a, s) = posF b a s := by
  have hm : allP b = (cmpct (srtN (nmsB b))).map fun n => posF b n.1 n.2 := by unfold allP; rw [if_pos hr]
  by_cases h : (a, s) ∈ nmsB b
  · have h2 : (a, s) ∈ cmpct (srtN (nmsB b)) := cmpct_mem.2 (srtN_mem.2 h)
    have h3 : posF b a s ∈ allP b := by rw [hm]; exact List.mem_map.2 ⟨_, h2, rfl⟩
    have hs := same_one (rise_rising (all_rise b)) h3
    rw [pos_nm] at hs
    unfold getP
    have hf : (allP b).find? (fun p => decide (nmP p = (a, s))) = some (posF b a s) := by
      have := List.find?_filter (p := fun p => decide (nmP p = (a, s))) (q := fun _ => true) (xs := allP b)
      unfold sameF at hs
      rw [← List.head?_filter, hs]; rfl
    rw [hf]
  · rw [pos_zero hr h]
    unfold getP
    have hf : (allP b).find? (fun p => decide (nmP p = (a, s))) = none := by
      rw [List.find?_eq_none]
      intro p hp
      rw [hm] at hp
      obtain ⟨n, hn, rfl⟩ := List.mem_map.1 hp
      rw [pos_nm]
      simp only [decide_eq_true_eq]
      intro e
      exact h (srtN_mem.1 (cmpct_mem.1 (by rw [← e]; exact hn)))
    rw [hf]
/-- Two of one name, told together. -/
theorem two_get {p q : Po} {n : Nm} (hp : okP p = true) (hq : okP q = true) (np : nmP p = n) (nq : nmP q = n) : mergeF [[p], [q]] = ([togF n [p, q]], 0) := by
  have h : ([[p], [q]] : List (List Po)).all riseP = true := by simp [riseP, hp, hq]
  refine Prod.ext ?_ (merge_ok h)
  refine Merged.uniq (merge_spec h) ⟨List.pairwise_singleton .., fun x => ?_⟩
  have hsame : sameF n [p, q] = [p, q] := by unfold sameF; rw [List.filter_cons_of_pos (by simp [np]), List.filter_cons_of_pos (by simp [nq])]; rfl
  simp only [List.flatten_cons, List.flatten_nil, List.append_nil, List.cons_append, List.nil_append, List.mem_singleton]
  constructor
  · rintro rfl
    refine ⟨⟨p, by simp, by rw [togF_nm]; exact np⟩, ?_⟩
    rw [togF_nm]; unfold oneF; rw [hsame]
  · rintro ⟨⟨y, hy, e⟩, hx⟩
    have hn : nmP x = n := by
      rcases List.mem_cons.1 hy with rfl | hy
      · rw [← e]; exact np
      · rw [List.mem_singleton.1 hy] at e; rw [← e]; exact nq
    rw [hn] at hx; unfold oneF at hx; rw [hsame] at hx; exact hx
theorem has_eq {b : Bk} {car : List Po} {a s : Bs} (h : okP (getP car (a, s)) = true) (hn : nmP (getP car (a, s)) = (a, s)) : hasR b car a s = togF (a, s) [posF b a s, getP car (a, s)] := by
  unfold hasR
  generalize getP car (a, s) = q at *
  rw [two_get (pos_okP b a s) h (pos_nm b a s) hn, if_neg (by simp)]
  have e : nmP (togF (a, s) [posF b a s, q]) = (a, s) := togF_nm
  simp only [getP, List.find?_cons, e, decide_true]
theorem sumF_two {x y : Int} (hx : numB x = true) (hy : numB y = true) : sumF [x, y] = if numB (x + y) then (x + y, true) else (0, false) := by
  unfold sumF
  simp only [List.all_cons, List.all_nil, hx, hy, Bool.true_and, Bool.and_true, sumL, Int.add_zero]
theorem tog_two {p q : Po} {n : Nm} (hp : okP p = true) (hq : okP q = true) : togF n [p, q] = if p.over || q.over then ⟨n.1, n.2, 0, 0, true⟩ else if numB (p.qty + q.qty) && numB (p.value + q.value) then ⟨n.1, n.2, p.qty + q.qty, p.value + q.value, false⟩ else ⟨n.1, n.2, 0, 0, true⟩ := by
  simp only [okP, Bool.and_eq_true] at hp hq
  unfold togF
  simp only [List.any_cons, List.any_nil, Bool.or_false, List.map_cons, List.map_nil, sumF_two hp.1.1 hq.1.1, sumF_two hp.1.2 hq.1.2]
  by_cases c1 : (p.over || q.over) = true
  · rw [if_pos c1, if_pos c1]
  · rw [if_neg c1, if_neg c1]
    cases e1 : numB (p.qty + q.qty) <;> cases e2 : numB (p.value + q.value) <;> simp
end Go.Bk
end
section
/- What is carried holds what was dropped: what is had, and the worst, are the same. No program. -/
set_option linter.unusedVariables false
set_option linter.unusedSimpArgs false
namespace Go.Bk
open Go Go.Abs
def qS (a s : Bs) (X : List Dn) : Int := sumL ((matsF a s X).map sgn)
def vS (a s : Bs) (X : List Dn) : Int := sumL ((matsF a s X).map fun f => sgn f * f.price)
theorem qS_app {a s : Bs} (X Y : List Dn) : qS a s (X ++ Y) = qS a s X + qS a s Y := by unfold qS matsF; rw [List.filter_append, List.map_append, sumL_app]
theorem vS_app {a s : Bs} (X Y : List Dn) : vS a s (X ++ Y) = vS a s X + vS a s Y := by unfold vS matsF; rw [List.filter_append, List.map_append, sumL_app]
theorem qS_perm {a s : Bs} {X Y : List Dn} (h : X.Perm Y) : qS a s X = qS a s Y := by unfold qS matsF; exact sumL_perm ((h.filter _).map _)
theorem vS_perm {a s : Bs} {X Y : List Dn} (h : X.Perm Y) : vS a s X = vS a s Y := by unfold vS matsF; exact sumL_perm ((h.filter _).map _)
/-- The carried positions hold the fills of X. -/
structure Held (C : List Po) (X : List Dn) : Prop where
  rise : riseP C = true
  is : ∀ a s, getP C (a, s) = ⟨a, s, qS a s X, vS a s X, false⟩
theorem held_nil : Held [] [] := ⟨rfl, fun a s => rfl⟩
theorem Held.perm {C : List Po} {X Y : List Dn} (h : Held C X) (hp : X.Perm Y) : Held C Y := ⟨h.rise, fun a s => by rw [h.is, qS_perm hp, vS_perm hp]⟩
theorem getP_cases (l : List Po) (n : Nm) : (getP l n ∈ l ∧ nmP (getP l n) = n) ∨ getP l n = ⟨n.1, n.2, 0, 0, false⟩ := by
  unfold getP
  cases h : l.find? (fun p => decide (nmP p = n)) with
  | none => exact .inr rfl
  | some p => exact .inl ⟨List.mem_of_find?_eq_some h, by simpa using List.find?_some h⟩
theorem getP_ok {l : List Po} (h : riseP l = true) (n : Nm) : okP (getP l n) = true := by
  rcases getP_cases l n with ⟨h1, _⟩ | h1
  · exact rise_ok h _ h1
  · rw [h1]; rfl
theorem getP_nm (l : List Po) (n : Nm) : nmP (getP l n) = n := by
  rcases getP_cases l n with ⟨_, h1⟩ | h1
  · exact h1
  · rw [h1]; rfl
theorem getP_over {l : List Po} (h : l.any (·.over) = false) (n : Nm) : (getP l n).over = false := by
  rcases getP_cases l n with ⟨h1, _⟩ | h1
  · have := List.any_eq_false.1 h _ h1
    simpa using this
  · rw [h1]
theorem valF_val {f : Dn} (h : (valF f).2 = true) : (valF f).1 = sgn f * f.price := by
  unfold valF mulF at *
  split
  · rfl
  · rename_i h2; rw [if_neg h2] at h; exact absurd h (by simp)
theorem pos_val {b : Bk} (hr : rightBk b = true) {a s : Bs} (h : (posF b a s).over = false) : posF b a s = ⟨a, s, qS a s b.fills, vS a s b.fills, false⟩ := by
  unfold posF at *
  rw [if_pos hr] at *
  unfold posG at *
  split
  · rename_i h2
    simp only [Bool.and_eq_true, List.all_eq_true] at h2
    rw [sumF_val h2.2.1, sumF_val h2.2.2]
    have e : (matsF a s b.fills).map (fun f => (valF f).1) = (matsF a s b.fills).map fun f => sgn f * f.price := List.map_congr_left fun f hf => valF_val (h2.1 f hf)
    rw [e]; rfl
  · rename_i h2; rw [if_neg h2] at h; exact absurd h (by simp)
theorem has_val {b : Bk} {C : List Po} {X : List Dn} (hr : rightBk b = true) (hh : Held C X) {a s : Bs} (h : (hasR b C a s).over = false) : hasR b C a s = ⟨a, s, qS a s b.fills + qS a s X, vS a s b.fills + vS a s X, false⟩ := by
  have e := (has_eq (b := b) (getP_ok hh.rise (a, s)) (getP_nm C (a, s))).trans (tog_two (pos_okP b a s) (getP_ok hh.rise (a, s)))
  rw [e] at h ⊢
  clear e
  split
  · rename_i h2; rw [if_pos h2] at h; exact absurd h (by simp)
  · rename_i h2
    rw [if_neg h2] at h
    simp only [Bool.or_eq_true, not_or, Bool.not_eq_true] at h2
    rw [pos_val hr h2.1, hh.is] at h ⊢
    split
    · rfl
    · rename_i h3; rw [if_neg h3] at h; exact absurd h (by simp)
/-- What is had. -/
theorem has_twin {b n : Bk} {C D : List Po} {X Y : List Dn} (hb : rightBk b = true) (hn : rightBk n = true) (ht : Twin X b n) (hc : Held C (X ++ Y)) (hd : Held D Y) {a s : Bs} (h1 : (hasR b D a s).over = false) (h2 : (hasR n C a s).over = false) : hasR b D a s = hasR n C a s := by
  rw [has_val hb hd h1, has_val hn hc h2, qS_app, vS_app, qS_perm ht.fills.perm, vS_perm ht.fills.perm, qS_app, vS_app]
  congr 1 <;> omega
theorem fill_one {fin : Bool} {a s : Bs} {f : Dn} (h : fin = true) : fillA fin a s f = (qS a s [f], -qS a s [f]) := by
  unfold fillA qS matsF
  by_cases c : f.live = true ∧ f.acc = a ∧ f.sym = s
  · rw [if_pos c, List.filter_cons_of_pos (matB_iff.2 c)]
    simp only [List.filter_nil, List.map_cons, List.map_nil, sumL, sgn, h]
    cases f.buy <;> simp
  · have : matB a s f = false := by cases hm : matB a s f with
      | false => rfl
      | true => exact absurd (matB_iff.1 hm) c
    rw [if_neg c, List.filter_cons_of_neg (by simp [this])]
    simp [sumL]
theorem qS_cons {a s : Bs} (f : Dn) (X : List Dn) : qS a s (f :: X) = qS a s [f] + qS a s X := qS_app [f] X
theorem fills_twin {b n : Bk} (hc : n.clock = b.clock) (hk : b.clock ≤ 4611686018427387904) {c : Int} (e : c = b.clock) {X F G : List Dn} (h : Drp c X F G) (hf : ∀ f ∈ F, 0 ≤ f.time ∧ f.time ≤ b.clock) {a s : Bs} : sumW (fillsA b a s F) = ((sumW (fillsA n a s G)).1 + qS a s X, (sumW (fillsA n a s G)).2 - qS a s X) := by
  induction h with
  | nil => rfl
  | keep f _ ih =>
    have ih := ih fun g hg => hf g (List.mem_cons_of_mem _ hg)
    have e2 : finalF b f = finalF n f := by unfold finalF; rw [hc]
    simp only [fillsA, List.map_cons, sumW] at *
    rw [ih, e2]
    refine Prod.ext ?_ ?_ <;> dsimp only <;> omega
  | @drop f X F G ht _ ih =>
    have ih := ih fun g hg => hf g (List.mem_cons_of_mem _ hg)
    have h1 := hf f (by simp)
    have e2 : finalF b f = true := by rw [final_old h1.1 h1.2 hk]; simp; omega
    simp only [fillsA, List.map_cons, sumW] at *
    rw [ih, fill_one e2, qS_cons f X]
    refine Prod.ext ?_ ?_ <;> dsimp only <;> omega
theorem worst_twin {b n : Bk} {C : List Po} {X : List Dn} (hb : rightBk b = true) (hn : rightBk n = true) (ht : Twin X b n) (hc : Held C X) (a s : Bs) : worstR n C a s = ofF b a s := by
  have hk := right_clock hb
  have hq := getP_ok hc.rise (a, s)
  unfold worstR
  rw [hc.is] at *
  simp only [okP, Bool.and_eq_true] at hq
  have hq := numB_iff.1 hq.1.1
  have h := of_bnd (b := n) (acc := a) (sym := s)
  rw [if_neg (by simp)]
  dsimp only
  rw [wrap64_id (by omega) (by omega), plus_eq h (m := 4611686018427387904) (by simp only [Bnd]; omega) (by omega)]
  unfold ofF
  rw [if_pos hn, if_pos hb]
  unfold ofE
  rw [ht.orders, fills_twin ht.clock hk.2 rfl ht.fills (fun f hf => ⟨(right_amounts hb f hf).2.2.1, (right_amounts hb f hf).2.2.2⟩)]
  refine Prod.ext ?_ ?_ <;> dsimp only <;> omega
/-- A close. -/
theorem close_held {b : Bk} (hr : rightBk b = true) (h : (allP (doneB b)).any (·.over) = false) : Held (allP (doneB b)) (finsB b) := ⟨all_rise _, fun a s => by
  have h1 := getP_over h (a, s)
  rw [get_all (done_right hr) a s] at *
  rw [pos_val (done_right hr) h1]; rfl⟩
end Go.Bk
end
section
/- Days: what is carried and what is in the book together. No program. -/
set_option linter.unusedVariables false
set_option linter.unusedSimpArgs false
namespace Go.Bk
open Go Go.Abs
theorem get_mem {l : List Po} (h : riseP l = true) {p : Po} (hp : p ∈ l) : getP l (nmP p) = p := by
  have hs := same_one (rise_rising h) hp
  unfold getP
  have hf : l.find? (fun q => decide (nmP q = nmP p)) = some p := by
    unfold sameF at hs
    rw [← List.head?_filter, hs]; rfl
  rw [hf]
theorem get_sum {l : List Po} (h : riseP l = true) (ho : ∀ p ∈ l, p.over = false) (n : Nm) : getP l n = ⟨n.1, n.2, sumQ l n, sumV l n, false⟩ := by
  by_cases hm : ∃ p ∈ l, nmP p = n
  · obtain ⟨p, hp, rfl⟩ := hm
    have hs := same_one (rise_rising h) hp
    rw [get_mem h hp]
    unfold sumQ sumV
    rw [hs]
    have := ho p hp
    obtain ⟨a, s, q, v, o⟩ := p
    simp only at this
    simp [sumL, nmP, this]
  · have hs : sameF n l = [] := by
      unfold sameF
      rw [List.filter_eq_nil_iff]
      intro p hp
      simp only [decide_eq_true_eq]
      exact fun e => hm ⟨p, hp, e⟩
    have hf : l.find? (fun p => decide (nmP p = n)) = none := by
      rw [List.find?_eq_none]
      intro p hp
      simp only [decide_eq_true_eq]
      exact fun e => hm ⟨p, hp, e⟩
    unfold getP sumQ sumV
    rw [hf, hs]; rfl
theorem Held.overs {C : List Po} {X : List Dn} (h : Held C X) : ∀ p ∈ C, p.over = false := fun p hp => by
  have e := h.is (nmP p).1 (nmP p).2
  rw [show ((nmP p).1, (nmP p).2) = nmP p from rfl, get_mem h.rise hp] at e
  rw [e]
theorem Held.sums {C : List Po} {X : List Dn} (h : Held C X) (a s : Bs) : sumQ C (a, s) = qS a s X ∧ sumV C (a, s) = vS a s X := by
  have e := h.is a s
  rw [get_sum h.rise h.overs] at e
  injection e with _ _ e1 e2
  exact ⟨e1, e2⟩
theorem tog_okP (n : Nm) (l : List Po) : okP (togF n l) = true := by
  unfold togF
  split
  · simp [okP, numB]
  · split
    · simp [okP, sumF_num]
    · simp [okP, numB]
theorem merged_rise {l all : List Po} (h : Merged l all) : riseP l = true := by
  refine rise_of (fun p hp => ?_) h.rise
  have := ((h.mem p).1 hp).2
  rw [this]
  exact tog_okP _ _
theorem carry_held {C D : List Po} {X Y : List Dn} (hc : Held C X) (hd : Held D Y) (h : (carryF C D).2 = 0) : Held (carryF C D).1 (X ++ Y) := by
  obtain ⟨h1, h2⟩ := carry_ok h
  refine ⟨merged_rise h1, fun a s => ?_⟩
  rw [get_sum (merged_rise h1) h2]
  have hs := merged_sum h1 h2 (a, s)
  rw [hs.1, hs.2.1, sumQ_app, sumV_app, (hc.sums a s).1, (hc.sums a s).2, (hd.sums a s).1, (hd.sums a s).2, qS_app, vS_app]
structure Inv (W D : Bk) (C : List Po) : Prop where
  rw : rightBk W = true
  rd : rightBk D = true
  held : ∃ X, Twin X W D ∧ Held C X
theorem Inv.come {W D : Bk} {C : List Po} (h : Inv W D C) (x : Ex) : Inv (comeF W x).1 (comeF D x).1 C := by
  obtain ⟨X, ht, hc⟩ := h.held
  exact ⟨comeF_right h.rw, comeF_right h.rd, X, (come_twin ht h.rw h.rd x).2.1, hc⟩
theorem Twin.trans {X Y : List Dn} {W D N : Bk} (h : Twin X W D) (h2 : Twin Y D N) : ∃ Z, Z.Perm (X ++ Y) ∧ Twin Z W N := by
  have h3 := h2.fills
  rw [h.clock] at h3
  obtain ⟨Z, hz, hd⟩ := h.fills.trans h3
  exact ⟨Z, hz, h2.orders.trans h.orders, h2.ids.trans h.ids, h2.clock.trans h.clock, h2.bad.trans h.bad, hd⟩
theorem Inv.close {W D : Bk} {C : List Po} (h : Inv W D C) (ho : (allP (doneB D)).any (·.over) = false) (hc : (carryF C (allP (doneB D))).2 = 0) : Inv W (nB D) (carryF C (allP (doneB D))).1 := by
  obtain ⟨X, ht, hh⟩ := h.held
  obtain ⟨Z, hz, hd⟩ := ht.trans (nB_twin h.rd)
  exact ⟨h.rw, nB_right h.rd, Z, hd, (carry_held hh (close_held h.rd ho) hc).perm hz.symm⟩
theorem Inv.has {W D : Bk} {C : List Po} (h : Inv W D C) (a s : Bs) (h1 : (hasR W [] a s).over = false) (h2 : (hasR D C a s).over = false) : hasR W [] a s = hasR D C a s := by
  obtain ⟨X, ht, hh⟩ := h.held
  exact has_twin (Y := []) h.rw h.rd ht (by simpa using hh) held_nil h1 h2
theorem Inv.worst {W D : Bk} {C : List Po} (h : Inv W D C) (a s : Bs) : ofF W a s = worstR D C a s := by
  obtain ⟨X, ht, hh⟩ := h.held
  exact (worst_twin h.rw h.rd ht hh a s).symm
theorem Inv.bad {W D : Bk} {C : List Po} (h : Inv W D C) : D.bad = W.bad := by
  obtain ⟨X, ht, hh⟩ := h.held
  exact ht.bad
theorem right_lens2 {b : Bk} (hr : rightBk b = true) : b.orders.length ≤ 64 ∧ b.fills.length ≤ 256 ∧ b.ids.length ≤ 256 := by
  have h := (rightBk_iff.1 hr).1
  exact ⟨right_len h.1, h.2.1, h.2.2.1⟩
end Go.Bk
end
section
/- Sums and products as the document reckons them. No program. -/
set_option linter.unusedVariables false
set_option linter.unusedSimpArgs false
namespace Go.Bk
open Go Go.Abs
theorem quo_rem (x : Int) : 1152921504606846976 * x.tdiv 1152921504606846976 + x.tmod 1152921504606846976 = x := Int.mul_tdiv_add_tmod x _
theorem rem_bnd (x : Int) : -1152921504606846976 < x.tmod 1152921504606846976 ∧ x.tmod 1152921504606846976 < 1152921504606846976 :=
  ⟨by have := Int.lt_tmod_of_pos x (b := 1152921504606846976) (by decide); omega, Int.tmod_lt_of_pos x (by decide)⟩
theorem all_take {l : List Int} {i : Nat} {x : Int} (hx : l[i]? = some x) (h : (l.take i).all numB = true) (h2 : numB x = true) : (l.take (i + 1)).all numB = true := by
  rw [take_next hx, List.all_append, h]; simp [h2]
theorem all_whole {l : List Int} {i : Nat} (hi : l.length ≤ i) (h : (l.take i).all numB = true) : l.all numB = true := by rwa [List.take_of_length_le hi] at h
theorem sum_next {l : List Int} {i : Nat} {x : Int} (hx : l[i]? = some x) : sumL (l.take (i + 1)) = sumL (l.take i) + x := by rw [take_next hx, sumL_app]; simp [sumL]
theorem sum_part {l : List Int} {i : Nat} (h : l.all numB = true) (hl : l.length ≤ 1000000) : -4611686018427387904000000 ≤ sumL (l.take i) ∧ sumL (l.take i) ≤ 4611686018427387904000000 := by
  have h2 : (l.take i).all numB = true := by
    rw [List.all_eq_true] at *
    exact fun y hy => h y (List.mem_of_mem_take hy)
  have := sumL_bnd h2
  have h3 : (l.take i).length ≤ 1000000 := by rw [List.length_take]; omega
  omega
theorem rsum_big {l : List Int} {u r : Int} {i : Nat} (hi : l.length ≤ i) (h : l.all numB = true) (e : u * 1152921504606846976 + r = sumL (l.take i)) (h1 : -1152921504606846976 < r) (h2 : r < 1152921504606846976) (hu : 5 < u ∨ u < -5) : sumF l = (0, false) := by
  rw [List.take_of_length_le hi] at e
  exact sumF_over h (numB_no.2 (by omega))
theorem rsum_no {l : List Int} {u r : Int} {i : Nat} (hi : l.length ≤ i) (h : l.all numB = true) (e : u * 1152921504606846976 + r = sumL (l.take i)) (hn : numB (u * 1152921504606846976 + r) = false) : sumF l = (0, false) := by
  rw [List.take_of_length_le hi] at e
  exact sumF_over h (by rw [← e]; exact hn)
theorem rsum_yes {l : List Int} {u r : Int} {i : Nat} (hi : l.length ≤ i) (h : l.all numB = true) (e : u * 1152921504606846976 + r = sumL (l.take i)) (hn : numB (u * 1152921504606846976 + r) = true) : sumF l = (u * 1152921504606846976 + r, true) := by
  rw [List.take_of_length_le hi] at e
  rw [e] at *
  exact sumF_yes h hn
/-- Products. -/
theorem most_quo {x y : Int} (hx : 0 < x) (hy : 0 < y) : (4611686018427387904 : Int).tdiv y < x ↔ 4611686018427387904 < x * y := by
  rw [Int.tdiv_eq_ediv_of_nonneg (by decide)]
  constructor
  · intro h
    by_cases c : 4611686018427387904 < x * y
    · exact c
    · have := (Int.le_ediv_iff_mul_le hy).2 (show x * y ≤ 4611686018427387904 by omega)
      omega
  · intro h
    by_cases c : 4611686018427387904 / y < x
    · exact c
    · have := (Int.le_ediv_iff_mul_le hy).1 (show x ≤ 4611686018427387904 / y by omega)
      omega
theorem mul_no1 {a b : Int} (h : numB a = false) : mulF a b = (0, false) := by unfold mulF; rw [h]; rfl
theorem mul_no2 {a b : Int} (h : numB b = false) : mulF a b = (0, false) := by unfold mulF; rw [h]; simp
theorem mul_z {a b : Int} (ha : numB a = true) (hb : numB b = true) (h : a = 0 ∨ b = 0) : mulF a b = (0, true) := by
  have e : a * b = 0 := by rcases h with h | h <;> simp [h]
  unfold mulF; rw [ha, hb, e]; rfl
/-- Of what stands above 0: too much, or not. -/
theorem mul_gen {a b x y : Int} (ha : numB a = true) (hb : numB b = true) (hx : 0 < x) (hy : 0 < y) (hs : a * b = x * y ∨ a * b = -(x * y)) :
    (IntKind.i64.wrap ((4611686018427387904 : Int).tdiv y) < x → mulF a b = (0, false)) ∧ (¬ IntKind.i64.wrap ((4611686018427387904 : Int).tdiv y) < x → mulF a b = (a * b, true) ∧ -4611686018427387904 ≤ a * b ∧ a * b ≤ 4611686018427387904 ∧ IntKind.i64.wrap (x * y) = x * y ∧ IntKind.i64.wrap (0 - x * y) = -(x * y)) := by
  have hw : IntKind.i64.wrap ((4611686018427387904 : Int).tdiv y) = (4611686018427387904 : Int).tdiv y := by
    rw [Int.tdiv_eq_ediv_of_nonneg (by decide)]
    have h1 := Int.ediv_nonneg (a := 4611686018427387904) (b := y) (by decide) (by omega)
    have h2 := Int.ediv_le_self (a := 4611686018427387904) y (by decide)
    exact wrap64_id (by omega) (by omega)
  rw [hw, most_quo hx hy]
  have hp : 0 < x * y := Int.mul_pos hx hy
  generalize x * y = z at *
  generalize hab : a * b = w at *
  constructor
  · intro h
    unfold mulF
    rw [ha, hb, hab, numB_no.2 (by omega)]; rfl
  · intro h
    refine ⟨?_, by omega, by omega, wrap64_id (by omega) (by omega), by rw [wrap64_id (by omega) (by omega)]; omega⟩
    unfold mulF
    rw [ha, hb, hab, numB_iff.2 (by omega)]; rfl
end Go.Bk
end
section
/- The layer, the plain facts: several texts of one chain, put together (AbsY, AbsZ, Drv, Drv2, Drv3). -/
/- Who may append is forgotten; a row is taken back to be written; contracts at nil. -/
set_option linter.unusedVariables false
set_option linter.unusedSimpArgs false
namespace Go.Abs
open Go Go.RowKit
section
variable {E : Env} {c : Code} {Q : Exit → St → Prop} {s : St}
/-- A nil slice is a slice without elements. -/
theorem AWP.nilPlain (i k : Nat) (hi : s.tmps[i]? = some .nilS) (hw : AWP E c Q { s with tmps := s.tmps.set i (.sl none k []) }) : AWP E c Q s := by
  intro w0 im0 cx a w h0 hG r
  refine hw w0 im0 cx a w h0 hG (r.setTmp fun v hv => .base ?_)
  have := (r.tmps i _ v hi hv).inv_nilS
  subst this
  exact .sl0 k none 0
end
theorem VR0.of_nil {im : Im} {k : Nat} {v : Value} (h : VR0 im .nilS v) : VR0 im (.sl none k []) v := by cases h; exact .sl0 k none 0
end Go.Abs
namespace Go.Abs
open Go Go.RowKit
section
variable {w0 : World} {im0 : Base} {c : Ctx} {st : St} {a : Act} {w : World}
end
end Go.Abs

/- Own blocks chosen and numbered anew; a leaf of an own struct told otherwise. -/
set_option linter.unusedVariables false
set_option linter.unusedSimpArgs false
namespace Go.Abs
open Go Go.RowKit

def AV.ren1 (σ : Nat → Option Nat) : AV → AV
  | .mu id k off n cap => match σ id with | some j => .mu j k off n cap | none => .any
  | .ptr id i o => match σ id with | some j => .ptr j i o | none => .any
  | .agg _ => .any
  | .tup _ => .any
  | .fn _ (_ :: _) => .any
  | x => x
def AV.ren2 (σ : Nat → Option Nat) : AV → AV
  | .agg cs => .agg (cs.map (AV.ren1 σ))
  | .fn f cs => .fn f (cs.map (AV.ren1 σ))
  | x => x.ren1 σ
def AV.ren (σ : Nat → Option Nat) : AV → AV
  | .tup cs => .tup (cs.map (AV.ren2 σ))
  | x => x.ren2 σ
def selAt (sel : List Nat) (id : Nat) : Option Nat := if id ∈ sel then some (sel.idxOf id) else none
theorem selAt_some {sel : List Nat} {id j : Nat} (h : selAt sel id = some j) : sel[j]? = some id := by
  unfold selAt at h
  split at h
  · rename_i hm
    simp only [Option.some.injEq] at h; subst h
    rw [List.getElem?_eq_getElem (List.idxOf_lt_length_of_mem hm)]
    simp
  · simp at h

def selβ (β : List (Option (Nat × Nat))) (sel : List Nat) : List (Option (Nat × Nat)) := sel.map fun id => (β[id]?).join
def selOwn (own : List (Option (List AV))) (sel : List Nat) : List (Option (List AV)) := sel.map fun id => ((own[id]?).join).map (·.map (AV.ren (selAt sel)))

section
variable {w0 : World} {im0 : Base} {c : Ctx} {st : St} {a : Act} {w : World} {sel : List Nat}

theorem selβ_at {β : List (Option (Nat × Nat))} {i : Nat} {p : Nat × Nat} (h : (selβ β sel)[i]? = some (some p)) : ∃ id, sel[i]? = some id ∧ β[id]? = some (some p) := by
  unfold selβ at h
  rw [List.getElem?_map] at h
  cases hs : sel[i]? with
  | none => simp [hs] at h
  | some id =>
    simp only [hs, Option.map_some, Option.some.injEq] at h
    refine ⟨id, rfl, ?_⟩
    cases hb : β[id]? with
    | none => simp [hb] at h
    | some q => simp only [hb, Option.join_some] at h; rw [h]
theorem selβ_of {β : List (Option (Nat × Nat))} {i id : Nat} {p : Nat × Nat} (h1 : sel[i]? = some id) (h2 : β[id]? = some (some p)) : (selβ β sel)[i]? = some (some p) := by
  unfold selβ
  rw [List.getElem?_map, h1]
  simp [h2]
theorem selOwn_at {own : List (Option (List AV))} {i : Nat} {es : List AV} (h : (selOwn own sel)[i]? = some (some es)) : ∃ id es0, sel[i]? = some id ∧ own[id]? = some (some es0) ∧ es = es0.map (AV.ren (selAt sel)) := by
  unfold selOwn at h
  rw [List.getElem?_map] at h
  cases hs : sel[i]? with
  | none => simp [hs] at h
  | some id =>
    simp only [hs, Option.map_some, Option.some.injEq] at h
    cases hb : own[id]? with
    | none => simp [hb] at h
    | some q =>
      cases q with
      | none => simp [hb] at h
      | some es0 =>
        simp only [hb, Option.join_some, Option.map_some, Option.some.injEq] at h
        exact ⟨id, es0, rfl, hb, h.symm⟩

abbrev selC (c : Ctx) (sel : List Nat) : Ctx := ⟨selβ c.β sel, c.tk, c.im⟩
theorem VR.ren1 {x : AV} {v : Value} (h : VR c x v) : VR (selC c sel) (x.ren1 (selAt sel)) v := by
  cases x with
  | any => exact .base (.any _)
  | v x => cases h.inv_v; exact .base (.v _)
  | agg cs => exact .base (.any _)
  | tup cs => exact .base (.any _)
  | nilS => cases h.inv_nilS; exact .base .nilS
  | sl t k es =>
    cases t with
    | none => exact .base h.sl_base
    | some t =>
      cases h with
      | base h => cases h
      | tok hT h0 hk hle hcur => exact .tok hT h0 hk hle hcur
  | mu id k off n cap =>
    simp only [AV.ren1]
    rcases h.inv_mu with ⟨g, hb, hcap, rfl⟩ | ⟨rfl, rfl, rfl⟩
    · cases hs : selAt sel id with
      | none => exact .base (.any _)
      | some j => exact .mu (selβ_of (selAt_some hs) hb) hcap
    · cases hs : selAt sel id with
      | none => exact .base (.any _)
      | some j => exact .muN
  | ptr id i o =>
    simp only [AV.ren1]
    obtain ⟨g, k, hb, rfl⟩ := h.inv_ptr
    cases hs : selAt sel id with
    | none => exact .base (.any _)
    | some j => exact .ptr (selβ_of (selAt_some hs) hb)
  | rptr cs => obtain ⟨b, o, rfl, h0⟩ := h.rptr_pt; exact .base h0
  | fn f cs =>
    cases cs with
    | nil =>
      obtain ⟨vs, rfl, hn, _⟩ := h.inv_fn
      have : vs = [] := List.eq_nil_of_length_eq_zero (by simpa using hn)
      subst this
      exact .base (.fn f [] [] rfl (by simp))
    | cons => exact .base (.any _)
theorem VR.renL {cs : List AV} {vs : List Value} {f : AV → AV} {d : Ctx} (hf : ∀ x v, VR c x v → VR d (f x) v) (hp : ∀ (i : Nat) (x : AV) (u : Value), cs[i]? = some x → vs[i]? = some u → VR c x u) : ∀ (i : Nat) (x : AV) (u : Value), (cs.map f)[i]? = some x → vs[i]? = some u → VR d x u := fun i x u h1 h2 => by
  rw [List.getElem?_map] at h1
  cases hc : cs[i]? with
  | none => simp [hc] at h1
  | some z => simp only [hc, Option.map_some, Option.some.injEq] at h1; subst h1; exact hf _ _ (hp i z u hc h2)
theorem VR.ren2 {x : AV} {v : Value} (h : VR c x v) : VR (selC c sel) (x.ren2 (selAt sel)) v := by
  cases x with
  | agg cs =>
    obtain ⟨vs, rfl, hn, hp⟩ := h.inv_agg
    exact .agg _ vs (by simp [hn]) (VR.renL (fun _ _ h => h.ren1) hp)
  | fn f cs =>
    obtain ⟨vs, rfl, hn, hp⟩ := h.inv_fn
    exact .fn f _ vs (by simp [hn]) (VR.renL (fun _ _ h => h.ren1) hp)
  | _ => exact h.ren1
theorem VR.ren {x : AV} {v : Value} (h : VR c x v) : VR (selC c sel) (x.ren (selAt sel)) v := by
  cases x with
  | tup cs =>
    obtain ⟨vs, rfl, hn, hp⟩ := h.inv_tup
    exact .tup _ vs (by simp [hn]) (VR.renL (fun _ _ h => h.ren2) hp)
  | _ => exact h.ren2

theorem ren_leaves (e : AV) (σ : Nat → Option Nat) : (e.ren σ).leaves.length = e.leaves.length ∧ ∀ (j : Nat) (y : AV), (e.ren σ).leaves[j]? = some y → ∃ x, e.leaves[j]? = some x ∧ (y = x.ren1 σ ∨ y = x.ren σ) := by
  cases e with
  | agg cs =>
    refine ⟨by simp [AV.ren, AV.ren2, AV.leaves], fun j y h => ?_⟩
    simp only [AV.ren, AV.ren2, AV.leaves, List.getElem?_map] at h
    cases hc : cs[j]? with
    | none => simp [hc] at h
    | some z => simp only [hc, Option.map_some, Option.some.injEq] at h; exact ⟨z, hc, .inl h.symm⟩
  | mu id k off n cap =>
    have hl : (AV.ren σ (.mu id k off n cap)).leaves = [AV.ren σ (.mu id k off n cap)] := by simp only [AV.ren, AV.ren2, AV.ren1]; cases σ id <;> rfl
    rw [hl]
    refine ⟨rfl, fun j y h => ?_⟩
    cases j with
    | zero => simp only [List.getElem?_cons_zero, Option.some.injEq] at h; exact ⟨_, rfl, .inr h.symm⟩
    | succ j => simp at h
  | ptr id i o =>
    have hl : (AV.ren σ (.ptr id i o)).leaves = [AV.ren σ (.ptr id i o)] := by simp only [AV.ren, AV.ren2, AV.ren1]; cases σ id <;> rfl
    rw [hl]
    refine ⟨rfl, fun j y h => ?_⟩
    cases j with
    | zero => simp only [List.getElem?_cons_zero, Option.some.injEq] at h; exact ⟨_, rfl, .inr h.symm⟩
    | succ j => simp at h
  | fn f cs =>
    refine ⟨rfl, fun j y h => ?_⟩
    cases j with
    | zero => simp only [AV.ren, AV.ren2, AV.leaves, List.getElem?_cons_zero, Option.some.injEq] at h; exact ⟨_, rfl, .inr h.symm⟩
    | succ j => simp [AV.ren, AV.ren2, AV.leaves] at h
  | _ =>
    refine ⟨rfl, fun j y h => ?_⟩
    cases j with
    | zero => simp only [AV.ren, AV.ren2, AV.ren1, AV.leaves, List.getElem?_cons_zero, Option.some.injEq] at h; exact ⟨_, rfl, .inr h.symm⟩
    | succ j => simp [AV.ren, AV.ren2, AV.ren1, AV.leaves] at h

theorem Rel.norm (r : Rel w0 im0 c st a w) (sel : List Nat) (hnd : sel.Nodup) (hrsv : st.rsv = none) (hup : st.up.map (AV.ren (selAt sel)) = st.up) :
    Rel w0 im0 (selC c sel) { st with tmps := st.tmps.map (AV.ren (selAt sel)), own := selOwn st.own sel } a w := by
  have inj : ∀ {i j id : Nat}, sel[i]? = some id → sel[j]? = some id → i = j := fun {i j id} h1 h2 => by
    have hi := lt_of_get h1
    have hj := lt_of_get h2
    rw [List.getElem?_eq_getElem hi, Option.some.injEq] at h1
    rw [List.getElem?_eq_getElem hj, Option.some.injEq] at h2
    have hp := List.pairwise_iff_getElem.1 hnd
    rcases Nat.lt_trichotomy i j with h | h | h
    · exact absurd (h1.trans h2.symm) (hp i j hi hj h)
    · exact h
    · exact absurd (h2.trans h1.symm) (hp j i hj hi h)
  refine ⟨r.defers, by simp [r.size], fun i x v h1 h2 => VR.renL (d := selC c sel) (vs := a.tmps.toList) (fun _ _ h => h.ren) (fun i x u e1 e2 => r.tmps i x u e1 (by simpa using e2)) i x v h1 (by simpa using h2), r.below, r.imle, r.imold, r.imok, by simp [selβ, selOwn], fun i g k es h1 h2 => ?_, r.tklen, r.tail, r.tok, ⟨fun i j g1 k1 g2 k2 e1 e2 a1 a2 a3 a4 hij => ?_, fun i t g1 k1 e1 T b a1 a2 a3 a4 => ?_, r.apart.tt⟩, r.glob, ⟨r.up.1, fun i x v h1 h2 => ?_⟩, fun l d i h1 => by rw [hrsv] at h1; simp at h1⟩
  · obtain ⟨id, hs, hb⟩ := selβ_at h1
    obtain ⟨id', es0, hs', ho, rfl⟩ := selOwn_at h2
    rw [hs, Option.some.injEq] at hs'; subst hs'
    obtain ⟨hnew, him, cs, ty, lo, hi, hblk, hfr, hsz, hlv, hcell⟩ := r.own id g k es0 hb ho
    refine ⟨hnew, him, cs, ty, lo, hi, hblk, hfr, by rw [List.length_map]; exact hsz, fun i e he => ?_, fun i e j y he hy => ?_⟩
    · rw [List.getElem?_map] at he
      cases hc : es0[i]? with
      | none => simp [hc] at he
      | some z => simp only [hc, Option.map_some, Option.some.injEq] at he; subst he; rw [(ren_leaves z _).1]; exact hlv i z hc
    · rw [List.getElem?_map] at he
      cases hc : es0[i]? with
      | none => simp [hc] at he
      | some z =>
        simp only [hc, Option.map_some, Option.some.injEq] at he; subst he
        obtain ⟨x, hx, hyx⟩ := (ren_leaves z _).2 j y hy
        obtain ⟨v, hv, hvr, h1⟩ := hcell i z j x hc hx
        refine ⟨v, hv, ?_, ?_⟩
        · rcases hyx with rfl | rfl
          · exact hvr.ren1
          · exact hvr.ren
        · rcases h1 with rfl | h1
          · rcases hyx with rfl | rfl <;> exact .inl rfl
          · exact .inr h1
  · obtain ⟨id, hs, hb⟩ := selβ_at a1
    obtain ⟨jd, hs2, hb2⟩ := selβ_at a2
    obtain ⟨id', es0, hs', ho, rfl⟩ := selOwn_at a3
    obtain ⟨jd', es2, hs2', ho2, rfl⟩ := selOwn_at a4
    rw [hs, Option.some.injEq] at hs'; subst hs'
    rw [hs2, Option.some.injEq] at hs2'; subst hs2'
    exact r.apart.oo id jd g1 k1 g2 k2 es0 es2 hb hb2 ho ho2 (fun e => hij (by subst e; exact inj hs hs2))
  · obtain ⟨id, hs, hb⟩ := selβ_at a1
    obtain ⟨id', es0, hs', ho, rfl⟩ := selOwn_at a2
    rw [hs, Option.some.injEq] at hs'; subst hs'
    exact r.apart.ot id t g1 k1 es0 T b hb ho a3 a4
  · have h3 : (st.up.map (AV.ren (selAt sel)))[i]? = some x := by rw [hup]; exact h1
    exact VR.renL (d := selC c sel) (fun _ _ h => h.ren) r.up.2 i x v h3 h2

/-- A place among the own ones, without memory. -/
theorem Rel.addNil (r : Rel w0 im0 c st a w) : c.le ⟨c.β ++ [none], c.tk, c.im⟩ ∧ Rel w0 im0 ⟨c.β ++ [none], c.tk, c.im⟩ { st with own := st.own ++ [some []] } a w := by
  have hle : c.le ⟨c.β ++ [none], c.tk, c.im⟩ := ⟨fun i p h => by
    show (c.β ++ [none])[i]? = some (some p)
    rw [List.getElem?_append_left (lt_of_get h)]; exact h, fun t T h => ⟨T, h, rfl, .inl rfl⟩, .refl _⟩
  have hβ : ∀ {i : Nat} {p : Nat × Nat}, (c.β ++ [none])[i]? = some (some p) → i < st.own.length ∧ c.β[i]? = some (some p) := fun {i p} h => by
    rcases getElem?_snoc _ _ _ _ h with ⟨hl, h⟩ | ⟨_, h⟩
    · exact ⟨by rw [← r.ownlen]; exact hl, h⟩
    · simp at h
  have ho : ∀ {i : Nat} {e : List AV}, i < st.own.length → (st.own ++ [some []])[i]? = some (some e) → st.own[i]? = some (some e) := fun {i e} hi h => by
    rw [List.getElem?_append_left hi] at h; exact h
  exact ⟨hle, r.defers, r.size, fun i x v e1 e2 => (r.tmps i x v e1 e2).mono hle, r.below, r.imle, r.imold, r.imok, by simp [r.ownlen], fun i g' k' es' e1 e2 => by
      obtain ⟨hi, e1⟩ := hβ e1
      have := r.own i g' k' es' e1 (ho hi e2)
      exact this.mono hle this.im rfl, r.tklen, r.tail, r.tok,
    ⟨fun i j g1 k1 g2 k2 e1 e2 a1 a2 a3 a4 hij => by
      obtain ⟨hi, a1⟩ := hβ a1
      obtain ⟨hj, a2⟩ := hβ a2
      exact r.apart.oo i j g1 k1 g2 k2 e1 e2 a1 a2 (ho hi a3) (ho hj a4) hij, fun i t g1 k1 e1 T b a1 a2 a3 a4 => by
      obtain ⟨hi, a1⟩ := hβ a1
      exact r.apart.ot i t g1 k1 e1 T b a1 (ho hi a2) a3 a4, r.apart.tt⟩, r.glob, ⟨r.up.1, fun i x v e1 e2 => (r.up.2 i x v e1 e2).mono hle⟩, fun l d i e1 e2 => by
      have := r.hole l d i e1 e2
      show (c.β ++ [none])[i]? = some none
      rw [List.getElem?_append_left (lt_of_get this)]; exact this⟩

/-- A leaf of an own struct is told otherwise. -/
theorem Rel.setLeaf (r : Rel w0 im0 c st a w) {id j : Nat} {cs : List AV} {x y : AV} (ho : st.own[id]? = some (some [.agg cs])) (hx : cs[j]? = some x) (hxn : x ≠ .any) (hy : ∀ v, VR c x v → VR c y v) : Rel w0 im0 c { st with own := st.own.set id (some [.agg (cs.set j y)]) } a w := by
  have hlt := lt_of_get ho
  have conv : ∀ {i : Nat} {e : List AV}, (st.own.set id (some [.agg (cs.set j y)]))[i]? = some (some e) → (i = id ∧ e = [.agg (cs.set j y)]) ∨ (i ≠ id ∧ st.own[i]? = some (some e)) := by
    intro i e he
    rw [List.getElem?_set] at he
    by_cases hi' : id = i
    · subst hi'; rw [if_pos rfl, if_pos hlt] at he
      simp only [Option.some.injEq] at he; exact .inl ⟨rfl, he.symm⟩
    · rw [if_neg hi'] at he; exact .inr ⟨Ne.symm hi', he⟩
  have old : ∀ {i : Nat} {e : List AV}, (st.own.set id (some [.agg (cs.set j y)]))[i]? = some (some e) → ∃ e', st.own[i]? = some (some e') := fun {i e} he => by
    rcases conv he with ⟨rfl, _⟩ | ⟨_, h⟩
    · exact ⟨_, ho⟩
    · exact ⟨_, h⟩
  refine ⟨r.defers, r.size, r.tmps, r.below, r.imle, r.imold, r.imok, by simp [r.ownlen], fun i g k es h1 h2 => ?_, r.tklen, r.tail, r.tok,
    ⟨fun i j g1 k1 g2 k2 e1 e2 a1 a2 a3 a4 hij => by
      obtain ⟨_, a3⟩ := old a3
      obtain ⟨_, a4⟩ := old a4
      exact r.apart.oo i j g1 k1 g2 k2 _ _ a1 a2 a3 a4 hij, fun i t g1 k1 e1 T b a1 a2 a3 a4 => by
      obtain ⟨_, a2⟩ := old a2
      exact r.apart.ot i t g1 k1 _ T b a1 a2 a3 a4, r.apart.tt⟩, r.glob, r.up, r.hole⟩
  rcases conv h2 with ⟨rfl, rfl⟩ | ⟨_, h2⟩
  · obtain ⟨hnew, him, ds, ty, lo, hi, hblk, hfr, hsz, hlv, hcell⟩ := r.own i g k _ h1 ho
    refine ⟨hnew, him, ds, ty, lo, hi, hblk, hfr, hsz, fun i' e he => ?_, fun i' e j' z he hz => ?_⟩
    · cases i' with
      | succ i' => simp at he
      | zero =>
        simp only [List.getElem?_cons_zero, Option.some.injEq] at he; subst he
        have := hlv 0 _ rfl
        simpa [AV.leaves] using this
    · cases i' with
      | succ i' => simp at he
      | zero =>
        simp only [List.getElem?_cons_zero, Option.some.injEq] at he; subst he
        have hz : (cs.set j y)[j']? = some z := hz
        rw [List.getElem?_set] at hz
        by_cases hj : j = j'
        · subst hj
          rw [if_pos rfl] at hz
          split at hz
          · simp only [Option.some.injEq] at hz; subst hz
            obtain ⟨v, e1, e2, e3⟩ := hcell 0 _ j x rfl hx
            refine ⟨v, e1, hy v e2, .inr ?_⟩
            rcases e3 with e3 | e3
            · exact absurd e3 hxn
            · exact e3
          · simp at hz
        · rw [if_neg hj] at hz; exact hcell 0 _ j' z rfl hz
  · exact r.own i g k es h1 h2
end

section
variable {E : Env} {c : Code} {Q : Exit → St → Prop} {s : St} {ops : Array Oper} {l : List Oper}

/-- Own blocks chosen and numbered anew. -/
theorem AWP.norm (sel : List Nat) (hnd : sel.Nodup) (hrsv : s.rsv = none) (hup : s.up.map (AV.ren (selAt sel)) = s.up) (hw : AWP E c Q { s with tmps := s.tmps.map (AV.ren (selAt sel)), own := selOwn s.own sel }) : AWP E c Q s :=
  fun w0 im0 _ a w h0 hG r => hw w0 im0 _ a w h0 hG (r.norm sel hnd hrsv hup)
theorem AWPL.norm (sel : List Nat) (hnd : sel.Nodup) (hrsv : s.rsv = none) (hup : s.up.map (AV.ren (selAt sel)) = s.up) (hw : AWPL E ops l Q { s with tmps := s.tmps.map (AV.ren (selAt sel)), own := selOwn s.own sel }) : AWPL E ops l Q s :=
  fun w0 im0 _ a w h0 hG r => hw w0 im0 _ a w h0 hG (r.norm sel hnd hrsv hup)

/-- A nil slice in an own struct: a token's. -/
theorem AWP.nilTokLeaf (id j k : Nat) (cs : List AV) (ho : s.own[id]? = some (some [.agg cs])) (hx : cs[j]? = some .nilS) (hw : AWP E c Q { s with own := s.own.set id (some [.agg (cs.set j (.sl (some s.tk.length) k []))]), tk := s.tk ++ [0] }) : AWP E c Q s := by
  intro w0 im0 cx a w h0 hG r
  obtain ⟨c1, hle, r1, hv1⟩ := r.nilTok k
  exact hw w0 im0 _ a w h0 hG (r1.setLeaf (id := id) (j := j) (cs := cs) (x := .nilS) (y := .sl (some s.tk.length) k []) ho hx (by simp) (fun v hv => by cases hv.inv_nilS; exact hv1))
end

theorem Snap1.mu' {own : List (Option (List AV))} {id k n cap : Nat} {es sp : List AV} (h : own[id]? = some (some (es ++ sp))) (hn : n = es.length) (hc : ∀ e ∈ es, ∀ x ∈ e.leaves, x.clean1 = some x) : Snap1 own (.mu id k 0 n cap) (.sl none k es) := by
  subst hn
  have := Snap1.mu (k := k) (cap := cap) h (n := es.length) (by simp) (by rw [List.take_left]; exact hc)
  rw [List.take_left] at this; exact this
/-- Such a call that yields one plain value. -/
theorem ACall.snapOne {E : Env} {ops : Array Oper} {d : Option Tmp} {l : List Oper} {st : St} {K : St → Prop} {g : FuncId} {caps xs ys : List AV} {x : Value} (hc : ACalls E g ys fun r t => r = .v x ∧ t = []) (hb : callable E.P g = true) (hr : st.rsv = none) (hy : All2 (Snap st.own) (xs ++ caps) ys)
    (h : AList E ops l (st.put d (.v x)) K) : ACall E ops (.fn g caps) xs d l st K := ACall.snap hc hb hr hy fun r t ⟨h1, h2⟩ => by
  subst h1; subst h2
  rw [List.append_nil]; exact ⟨trivial, h⟩
/-- The first elements of a row of one's own, written no more. -/
theorem AWP.publishN {E : Env} {c : Code} {Q : Exit → St → Prop} {s : St} (i id k n cap : Nat) (es sp : List AV) (hi : s.tmps[i]? = some (.mu id k 0 n cap)) (ho : s.own[id]? = some (some (es ++ sp))) (hn : n = es.length) (hc : ∀ e ∈ es, ∀ x ∈ e.leaves, x.clean1 = some x)
    (hw : AWP E c Q { s with tmps := s.tmps.set i (.sl none k es), own := s.own.set id none }) : AWP E c Q s := by
  subst hn
  intro w0 im0 cx a w h0 hG r
  have hlt : i < a.tmps.size := by rw [r.size]; exact lt_of_get hi
  rcases (r.tmps i _ _ hi (Array.getElem?_eq_getElem hlt)).inv_mu with ⟨g, hb, hcap, hv⟩ | ⟨hz, _, hv⟩
  · obtain ⟨c', hle, hβ, _, _, r', cv, hl, hm, h1, hvr⟩ := r.publish (n := es.length) (es' := es) hb ho List.take_left.symm hc
    refine hw w0 im0 c' a w h0 hG (r'.setTmp fun v hv' => ?_)
    rw [Array.getElem?_eq_getElem hlt, Option.some.injEq] at hv'
    rw [← hv', hv]
    have := VR0.sl (im := c'.im) k es g (0 * k) cap cv hcap hl (fun i e j x he hj => by rw [Nat.zero_mul, Nat.zero_add]; exact hm i e j x he hj) h1 hvr
    exact .base this
  · have hes : es = [] := List.eq_nil_of_length_eq_zero hz
    subst hes
    have r' := r.setTmp (i := i) (y := .sl none k []) fun v hv' => by
      rw [Array.getElem?_eq_getElem hlt, Option.some.injEq] at hv'
      rw [← hv', hv]; exact .base (.sl0 k none 0)
    exact hw w0 im0 cx a w h0 hG (r'.dropOwn id)
end Go.Abs

/- A walk that steps by itself: what its steps want beyond the layer. -/
set_option linter.unusedVariables false
set_option linter.unusedSimpArgs false
namespace Go.Abs
open Go Go.RowKit

theorem AWP.fin {E : Env} {y : Code} {Q : Exit → St → Prop} {K : St → Prop} {s : St} (h : ∀ s, AWP E y Q s → K s) (g : AWP E y Q s) : K s := h s g
/-- The first region's number, its first slot, how many operations it has. -/
def codeSig : Nat → Code → Nat × Nat × Nat
  | _ + 1, .region i ops _ => (i, (match ops[0]? with | some o => o.dst.getD 0 | none => 0), ops.size)
  | n + 1, .seq a _ => codeSig n a
  | n + 1, .cond _ a _ => codeSig n a
  | n + 1, .block _ b => codeSig n b
  | n + 1, .loop b => codeSig n b
  | n + 1, .scope b => codeSig n b
  | _, _ => (0, 0, 0)
theorem AWP.loopN {E : Env} {Q : Exit → St → Prop} {st : St} {ι : Type} {c : Code} (hv : List Nat) (ps : ι → List (Nat × AV)) (I : ι → Prop) (μ : ι → Nat) (i : ι)
    (hw0 : st.Wk (st.at hv (ps i) st.own st.tk)) (hI : I i)
    (round : ∀ i, I i → AWP E c (AThen (fun s' => ∃ j, s'.Wk (st.at hv (ps j) st.own st.tk) ∧ I j ∧ μ j < μ i) Q) (st.at hv (ps i) st.own st.tk)) : AWP E (.loop c) Q st := AWP.loopH hv ps I μ i hw0 hI round
theorem AWP.loopM {E : Env} {Q : Exit → St → Prop} {st : St} {ι : Type} {c : Code} (hv : List Nat) (ps : ι → List (Nat × AV)) (own : ι → List (Option (List AV))) (tk : ι → List Nat) (I : ι → Prop) (μ : ι → Nat) (i : ι)
    (hw0 : st.Wk (st.at hv (ps i) (own i) (tk i))) (hI : I i)
    (round : ∀ i, I i → AWP E c (AThen (fun s' => ∃ j, s'.Wk (st.at hv (ps j) (own j) (tk j)) ∧ I j ∧ μ j < μ i) Q) (st.at hv (ps i) (own i) (tk i))) : AWP E (.loop c) Q st := AWP.loopO hv ps own tk I μ i hw0 hI round
/-- A mark: this place, and no other. -/
theorem AWP.here (n d k : Nat) {E : Env} {Q : Exit → St → Prop} {st : St} {c : Code} (hn : (codeSig 30 c == (n, d, k)) = true) (h : AWP E c Q st) : AWP E c Q st := h
theorem AInPost.ret {P : Program} {rs : List ResultVar} {st s : St} {K : St → AV → Prop} (hu : s.up = st.tmps ++ st.up) (h : ARes P s rs fun l => K { s with tmps := st.tmps, up := st.up } (tupOf l)) : AInPost P rs st K .ret s := ⟨hu, h⟩
theorem drop_of {α : Type} {l : List α} {i : Nat} {x : α} (h : l[i]? = some x) : l.drop i = x :: l.drop (i + 1) := by
  obtain ⟨hi, rfl⟩ := List.getElem?_eq_some_iff.1 h
  exact List.drop_eq_getElem_cons hi
theorem drop_end {α : Type} {l : List α} {i : Nat} (h : l.length ≤ i) : l.drop i = [] := List.drop_eq_nil_of_le h
/-- What a function tells is this. -/
theorem AEnd.is {P : Program} {rs : List ResultVar} {X : AV} {st : St} (h : ARes P st rs fun l => OutT [] (tupOf l) X) : AEnd P rs (fun r t => r = X ∧ t = []) st := by
  have key : ∀ (rs : List ResultVar) (k k' : List AV → Prop), (∀ l, k l → k' l) → ARes P st rs k → ARes P st rs k' := by
    intro rs
    induction rs with
    | nil => intro k k' hk h; exact hk _ h
    | cons r rs ih =>
      intro k k' hk h
      cases r with
      | tmp t => exact ih _ _ (fun l hl => hk _ hl) h
      | cell x t =>
        obtain ⟨cs, h1, h2⟩ := h
        refine ⟨cs, h1, ?_⟩
        split at h2
        · exact ⟨h2.1, ih _ _ (fun l hl => hk _ hl) h2.2⟩
        · obtain ⟨y, h3, h4⟩ := h2; exact ⟨y, h3, ih _ _ (fun l hl => hk _ hl) h4⟩
        · exact h2
  exact key rs _ _ (fun l hl => ⟨[], X, rfl, hl, rfl, rfl⟩) h
theorem out_v {x y : Value} {sel : List (Bool × Nat)} : OutV sel (.v x) (.v y) = (x = y) := rfl
theorem out_s {t : Option Nat} {k k' : Nat} {es es' : List AV} {sel : List (Bool × Nat)} : OutV sel (.sl t k es) (.sl none k' es') = (k = k' ∧ es = es') := by cases t <;> rfl
theorem out_n {k' : Nat} {es' : List AV} {sel : List (Bool × Nat)} : OutV sel .nilS (.sl none k' es') = (es' = []) := by cases es' <;> simp [OutV]
theorem v_int {k k' : IntKind} {n n' : Int} : (Value.int k n = Value.int k' n') = (k = k' ∧ n = n') := by simp
theorem v_bool {n n' : Bool} : (Value.bool n = Value.bool n') = (n = n') := by simp
theorem v_str {n n' : ByteArray} : (Value.string n = Value.string n') = (n = n') := by simp
end Go.Abs
namespace Go.Abs
open Go Go.RowKit
def ancOf : List Oper → List (List Nat) → List (List Nat)
  | [], acc => acc
  | o :: l, acc => ancOf l (acc ++ [(o.after.toList.filter (Region.binds .any)).flatMap fun e => e.on :: acc.getD e.on []])
/-- A region that draws its order, worked off in this one. -/
theorem AWP.regionO {E : Env} {st : St} {id : Nat} {l : List Oper} {Q : Exit → St → Prop} (is : List Nat) (ds : List Tmp) (hm : E.P.follows .mixedOrders = true)
    (hx : (let anc := ancOf l []; listedOK l.toArray anc && planOK E.P l.toArray anc true (Plan.ofList is) (Array.replicate l.toArray.size false) l.toArray.size && decide ds.Nodup) = true) {l' : List Oper} (hl : pickOps l is = some l') (h : AList E l.toArray l' (st.keep ds) (Done (Q .normal))) : AWP E (.region id l.toArray true) Q st := by
  simp only [Bool.and_eq_true, decide_eq_true_eq] at hx
  exact AWP.regionAs is (ancOf l []) ds hm (by simp only [Bool.and_eq_true]; exact hx.1) hx.2 hl h
end Go.Abs

/- A call whose contract speaks of the memory as it stands. -/
set_option linter.unusedVariables false
set_option linter.unusedSimpArgs false

namespace Go.Abs
open Go Go.RowKit
/-- A call whose contract speaks of this very memory. -/
theorem AWPL.callRaw {E : Env} {Q : Exit → St → Prop} {st : St} {ops : Array Oper} {l : List Oper} {g : FuncId} {caps : List AV} {dst : Option Tmp} {f : Operand} {xs : Array Operand} {tys : Array TypeId} {ty : TypeId} {pos : String} {after : Array Edge}
    (hc : callable E.P g = true) (he : st.ev f = .fn g caps)
    (h : ∀ (w0 : World) (im0 : Base) (cx : Ctx) (a : Act) (w : World) (vs : List Value), E.ok w0 → GOB E im0 → Rel w0 im0 cx st a w → Pw cx (xs.toList.map st.ev ++ caps) vs →
      Calls E.P g vs.toArray w fun e w' => ∃ v, e = .returned v ∧ ∃ cx' st' z, Rel w0 im0 cx' st' a w' ∧ VR cx' z v ∧ AWPL E ops l Q (st'.put dst z)) :
    AWPL E ops (⟨dst, .call ⟨.value f, xs, tys⟩, ty, pos, after, none⟩ :: l) Q st := by
  intro w0 im0 cx a w h0 hG r
  refine wpList_step (fun K' hK' => ?_)
  have hw : Region.wanted ⟨dst, .call ⟨.value f, xs, tys⟩, ty, pos, after, none⟩ (yielded ops a.tmps) = true := rfl
  rw [if_pos hw]
  have hv := r.ev f
  rw [he] at hv
  obtain ⟨us, hfe, hnu, hpu⟩ := hv.inv_fn
  have hargs : Pw cx (xs.toList.map st.ev ++ caps) (xs.toList.map a.eval ++ us) := by
    refine ⟨by simp [hnu], fun i x v h1 h2 => ?_⟩
    rcases getElem?_app _ _ _ _ h1 with ⟨l1, h1⟩ | ⟨l1, h1⟩
    · rw [List.getElem?_append_left (by simpa using l1)] at h2
      rw [List.getElem?_map] at h1 h2
      cases hc : xs.toList[i]? with
      | none => simp [hc] at h1
      | some z => simp only [hc, Option.map_some, Option.some.injEq] at h1 h2; subst h1; subst h2; exact r.ev z
    · rw [List.getElem?_append_right (by simpa using l1)] at h2
      have : (xs.toList.map a.eval).length = (xs.toList.map st.ev).length := by simp
      rw [this] at h2
      exact hpu _ _ _ h1 h2
  have hrun : (execOp a.eval ⟨dst, .call ⟨.value f, xs, tys⟩, ty, pos, after, none⟩).run E.P w = .ok (.enter g (xs.toList.map a.eval ++ us).toArray) w := by
    unfold callable at hc
    split at hc
    · rename_i fn hf
      simp only [Bool.and_eq_true, Bool.not_eq_true'] at hc
      obtain ⟨hn1, hn2⟩ := hc
      have hbn : fn.body.isNone = false := by
        cases hb : fn.body with
        | none => rw [hb] at hn2; simp at hn2
        | some b => rfl
      have harr : Array.map a.eval xs ++ us.toArray = (xs.toList.map a.eval ++ us).toArray := by
        apply Array.ext'
        simp
      have he' : a.eval f = .func (.func g) #[] us.toArray := hfe
      simp only [execOp, resolve, he', Deferred.ofValue, Sem.run_bind, Sem.run_pure, Result.andThen_ok, invoke, callFunc, run_program, hf, hn1, Bool.false_eq_true, if_false, hbn, Array.empty_append, harr]
    · simp at hc
  unfold Oper.wp
  rw [hrun]
  simp only [Oper.upon]
  refine (h w0 im0 cx a w _ h0 hG r hargs).mono ?_
  rintro e w' ⟨v, rfl, cx', st', z, r', hz, hk⟩
  exact hK' _ _ (hk w0 im0 cx' _ w' h0 hG (r'.put dst hz))
end Go.Abs
namespace Go.Abs
open Go Go.RowKit
/-- So many operations by rules; then the rest. -/
theorem AWPL.at (n k : Nat) {E : Env} {Q : Exit → St → Prop} {st : St} {ops : Array Oper} {l : List Oper} (hn : (l.length == n) = true) (h : AList E ops (l.take k) st (AWPL E ops (l.drop k) Q)) : AWPL E ops l Q st := by
  have := AWPL.app h
  rwa [List.take_append_drop] at this
end Go.Abs

/- Rows of one's own: begun at a nil slice; own blocks numbered anew, by rules. -/
set_option linter.unusedVariables false
set_option linter.unusedSimpArgs false
namespace Go.Abs
open Go Go.RowKit
/-- A nil slice in a slot: a row of one's own. -/
theorem AWP.nilMu {E : Env} {c : Code} {Q : Exit → St → Prop} {s : St} (i k : Nat) (h : s.tmps[i]? = some .nilS) (hw : AWP E c Q { s with tmps := s.tmps.set i (.mu s.own.length k 0 0 0), own := s.own ++ [some []] }) : AWP E c Q s := by
  intro w0 im0 cx a w h0 hG r
  obtain ⟨_, r'⟩ := r.addNil
  refine hw w0 im0 ⟨cx.β ++ [none], cx.tk, cx.im⟩ a w h0 hG ?_
  refine ⟨r'.defers, by simp [r'.size], fun j x v h1 h2 => ?_, r'.below, r'.imle, r'.imold, r'.imok, r'.ownlen, r'.own, r'.tklen, r'.tail, r'.tok, r'.apart, r'.glob, r'.up, r'.hole⟩
  rw [List.getElem?_set] at h1
  split at h1
  · rename_i hij
    subst hij
    split at h1
    · simp only [Option.some.injEq] at h1; subst h1
      have := r'.tmps i .nilS v h h2
      cases this.inv_nilS
      exact .muN
    · simp at h1
  · exact r'.tmps j x v h1 h2
theorem selAt_nil {n : Nat} : selAt [] n = none := by simp [selAt]
theorem selAt_cons {x n : Nat} {l : List Nat} : selAt (x :: l) n = if n = x then some 0 else (selAt l n).map (· + 1) := by
  unfold selAt
  by_cases h : n = x
  · subst h; simp
  · by_cases h2 : n ∈ l
    · have : ¬ x = n := fun e => h e.symm
      have hb : (x == n) = false := by simp [this]
      simp [h, h2, List.idxOf_cons, hb]
    · simp [h, h2]
theorem ren_row {α : Type} {f : α → AV} {σ : Nat → Option Nat} {l : List α} {k m : Nat} (h : ∀ x, AV.ren σ (f x) = f x) : (l.map f ++ spare k m).map (AV.ren σ) = l.map f ++ spare k m := by
  rw [List.map_append, List.map_map]
  congr 1
  · exact List.map_congr_left fun x _ => h x
  · simp [spare, AV.ren, AV.ren2, AV.ren1]
theorem ren_strs {σ : Nat → Option Nat} {l : List (List UInt8)} {m : Nat} : (l.map str ++ spare 1 m).map (AV.ren σ) = l.map str ++ spare 1 m := ren_row fun _ => rfl
attribute [go_sem] selAt_nil selAt_cons ren_strs Option.join_some Option.join_none
/-- Own blocks chosen and numbered anew, told. -/
theorem AWP.renum {E : Env} {c : Code} {Q : Exit → St → Prop} {s : St} (sel : List Nat) (hnd : sel.Nodup) (hrsv : s.rsv = none) (hup : s.up.map (AV.ren (selAt sel)) = s.up) (hw : AWP E c Q { s with tmps := s.tmps.map (AV.ren (selAt sel)), own := sel.map fun id => ((s.own[id]?).join).map (·.map (AV.ren (selAt sel))) }) : AWP E c Q s := AWP.norm sel hnd hrsv hup hw
attribute [go_sem] AV.ren AV.ren1 AV.ren2
end Go.Abs
namespace Go.Abs
open Go Go.RowKit
theorem bel_row {α : Type} {no nt k m : Nat} {f : α → AV} {l : List α} (h : ∀ x, ∀ z ∈ (f x).leaves, z.bel no nt = true) : ∀ es, some (l.map f ++ spare k m) = some es → ∀ e ∈ es, ∀ z ∈ e.leaves, z.bel no nt = true := by
  intro es he e hm z hz
  cases he
  rcases List.mem_append.1 hm with hm | hm
  · obtain ⟨x, _, rfl⟩ := List.mem_map.1 hm
    exact h x z hz
  · have := (List.mem_replicate.1 hm).2
    subst this
    have := (List.mem_replicate.1 hz).2
    subst this; rfl
theorem bel_strs {no nt m : Nat} {l : List (List UInt8)} : ∀ es, some (l.map str ++ spare 1 m) = some es → ∀ e ∈ es, ∀ z ∈ e.leaves, z.bel no nt = true := bel_row fun x z hz => by
  simp only [AV.leaves, List.mem_cons, List.not_mem_nil, or_false] at hz
  subst hz; rfl
end Go.Abs
namespace Go.Abs
open Go Go.RowKit
theorem oblA {no nt : Nat} {r : List AV} (h : (r.all fun e => e.leaves.all (AV.bel no nt)) = true) : ∀ es, some r = some es → ∀ e ∈ es, ∀ z ∈ e.leaves, z.bel no nt = true := by
  intro es he e hm z hz
  cases he
  exact List.all_eq_true.1 (List.all_eq_true.1 h e hm) z hz
end Go.Abs
namespace Go.Abs
structure Stop (p : Prop) : Prop where
  out : p
theorem Stop.at {p : Prop} (h : Stop p) : p := h.out
theorem Stop.go {p : Prop} (h : p) : Stop p := ⟨h⟩
end Go.Abs
namespace Go.Abs
open Go Go.RowKit
theorem astep_mono {E : Env} {ops : Array Oper} {i : Nat} {C D : St → Prop} {st : St} (hcd : ∀ s, C s → D s) (h : AStep E ops i C st) : AStep E ops i D st := by
  unfold AStep at h ⊢
  split at h
  · exact hcd _ h
  · obtain ⟨q, h1, h2, h3⟩ := h
    exact ⟨q, h1, fun hq => aop_mono (h2 hq) hcd, fun hq => hcd _ (h3 hq)⟩
theorem aplan_mono {E : Env} {ops : Array Oper} {K L : St → Prop} (hk : ∀ s, K s → L s) : ∀ {p : Plan} {st : St}, APlan E ops K p st → APlan E ops L p st
  | .done, _, h => hk _ h
  | .take i p, _, h => astep_mono (fun s hs => aplan_mono hk hs) h
  | .fork p, _, h => aplan_mono (p := p) hk h
  | .alt i p r, _, h => ⟨astep_mono (fun s hs => aplan_mono hk hs) h.1, aplan_mono hk h.2⟩
  | .ends, _, h => h
/-- A region that draws its order, all orders of which come to one state. -/
theorem AWP.regionAnyJ {E : Env} {st : St} {id : Nat} {l : List Oper} {Q : Exit → St → Prop} (x : Plan) (anc : List (List Nat)) (ds : List Tmp) (hm : E.P.follows .mixedOrders = true)
    (hx : (listedOK l.toArray anc && planOK E.P l.toArray anc true x (Array.replicate l.toArray.size false) l.toArray.size) = true) (hd : ds.Nodup) (S : St) (h : APlan E l.toArray (Done fun s => s = S) x (st.keep ds)) (hk : Q .normal S) : AWP E (.region id l.toArray true) Q st :=
  AWP.regionAny x anc ds hm hx hd (aplan_mono (fun s (hs : Done (fun s => s = S) s) => (show Q .normal { s with rsv := none } from by
    have : ({ s with rsv := none } : St) = S := hs
    rw [this]; exact hk)) h)
end Go.Abs
end
