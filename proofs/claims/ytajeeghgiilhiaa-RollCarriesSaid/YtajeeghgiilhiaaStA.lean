/- A stable sort in place, as plain functions over an array, row for row after the library's Go text; what it comes to is a permutation, and sorted. No program. -/
import Derived.Sort.LotA
set_option linter.unusedVariables false
set_option linter.unusedSimpArgs false
set_option linter.unusedSectionVars false
namespace Go.Stb
set_option linter.unusedSectionVars false
open Go.Sort
variable {α : Type} [Inhabited α]
def swpR (a b n i : Nat) (d : Array α) : Array α := if i < n then swpR a b n (i + 1) (swp d (a + i) (b + i)) else d
termination_by n - i
def rotL (m i j : Nat) (d : Array α) : Array α :=
  if h : i = 0 ∨ j = 0 then d
  else if i = j then swpR (m - i) m i 0 d
  else if j < i then rotL m (i - j) j (swpR (m - i) m j 0 d)
  else rotL m i (j - i) (swpR (m - i) (m + j - i) i 0 d)
termination_by i + j
decreasing_by all_goals omega
def bsG (q : Nat → Bool) (i j : Nat) : Nat := if i < j then (if q ((i + j) / 2) = true then bsG q ((i + j) / 2 + 1) j else bsG q i ((i + j) / 2)) else i
termination_by j - i
decreasing_by all_goals omega
def upS (k e : Nat) (d : Array α) : Array α := if k + 1 < e then upS (k + 1) e (swp d k (k + 1)) else d
termination_by e - k
def dnS (i : Nat) : Nat → Array α → Array α
  | 0, d => d
  | k + 1, d => if i < k + 1 then dnS i k (swp d (k + 1) k) else d
section
variable (lt : α → α → Bool)
def sCut (a m b : Nat) (d : Array α) : Nat := bsG (fun c => !lt d[(a + b) / 2 + m - 1 - c]! d[c]!) (if (a + b) / 2 < m then (a + b) / 2 + m - b else a) (if (a + b) / 2 < m then (a + b) / 2 else m)
def rotIf (a m b : Nat) (d : Array α) : Array α := if sCut lt a m b d < m ∧ m < (a + b) / 2 + m - sCut lt a m b d then rotL m (m - sCut lt a m b d) ((a + b) / 2 + m - sCut lt a m b d - m) d else d
def symM (a m b : Nat) (d : Array α) : Array α :=
  if m - a = 1 then upS a (bsG (fun h => lt d[h]! d[a]!) m b) d
  else if b - m = 1 then dnS (bsG (fun h => !lt d[m]! d[h]!) a m) m d
  else
    if h2 : (a + b) / 2 < (a + b) / 2 + m - sCut lt a m b d ∧ (a + b) / 2 + m - sCut lt a m b d < b then
      symM ((a + b) / 2) ((a + b) / 2 + m - sCut lt a m b d) b (if h1 : a < sCut lt a m b d ∧ sCut lt a m b d < (a + b) / 2 then symM a (sCut lt a m b d) ((a + b) / 2) (rotIf lt a m b d) else rotIf lt a m b d)
    else if h1 : a < sCut lt a m b d ∧ sCut lt a m b d < (a + b) / 2 then symM a (sCut lt a m b d) ((a + b) / 2) (rotIf lt a m b d) else rotIf lt a m b d
termination_by b - a
decreasing_by all_goals omega
def insB (n a b : Nat) (d : Array α) : Array α := if b ≤ n then insB n b (b + 20) (insertionSort lt d a b) else insertionSort lt d a n
termination_by n + 1 - b
def mrgP (n s a b : Nat) (d : Array α) : Array α :=
  if s = 0 then d else if b ≤ n then mrgP n s b (b + 2 * s) (symM lt a (a + s) b d) else if a + s < n then symM lt a (a + s) n d else d
termination_by n + 1 - b
def mrgL (n s : Nat) (d : Array α) : Array α := if h : 0 < s ∧ s < n then mrgL n (s * 2) (mrgP lt n s 0 (2 * s) d) else d
termination_by n - s
def stable (d : Array α) : Array α := mrgL lt d.size 20 (insB lt d.size 0 20 d)
end
theorem sg (d : Array α) {i j : Nat} (hi : i < d.size) (hj : j < d.size) (k : Nat) : (swp d i j)[k]! = if k = i then d[j]! else if k = j then d[i]! else d[k]! := by
  by_cases h1 : k = i
  · subst h1; rw [if_pos rfl]
    by_cases h2 : k = j
    · subst h2; exact swp_right d k k hj
    · exact swp_left d k j hi h2
  · rw [if_neg h1]
    by_cases h2 : k = j
    · subst h2; rw [if_pos rfl]; exact swp_right d i k hj
    · rw [if_neg h2]; exact swp_other d i j k h1 h2
theorem swpR_perm {a b n x y : Nat} : ∀ (r i : Nat) (d : Array α), n - i = r → x ≤ a → a + n ≤ y → x ≤ b → b + n ≤ y → y ≤ d.size → PermIn x y d (swpR a b n i d)
  | 0, i, d, hr, _, _, _, _, _ => by rw [swpR, if_neg (by omega)]; exact permIn_refl d x y
  | r + 1, i, d, hr, h1, h2, h3, h4, h5 => by
    rw [swpR, if_pos (by omega)]
    have h := swp_permIn d x y (a + i) (b + i) (by omega) (by omega) (by omega) (by omega) h5
    exact permIn_trans _ _ _ x y h (swpR_perm r (i + 1) _ (by omega) h1 h2 h3 h4 (by rw [size_swp]; exact h5))
theorem swpR_size (a b n : Nat) : ∀ (r i : Nat) (d : Array α), n - i = r → (swpR a b n i d).size = d.size
  | 0, i, d, hr => by rw [swpR, if_neg (by omega)]
  | r + 1, i, d, hr => by rw [swpR, if_pos (by omega), swpR_size a b n r (i + 1) _ (by omega), size_swp]
/-- Two ranges of n that don't meet are exchanged. -/
theorem swpR_get {a b n : Nat} (hab : a + n ≤ b) : ∀ (r i : Nat) (d : Array α), n - i = r → b + n ≤ d.size → ∀ k,
    (swpR a b n i d)[k]! = if a + i ≤ k ∧ k < a + n then d[k - a + b]! else if b + i ≤ k ∧ k < b + n then d[k - b + a]! else d[k]!
  | 0, i, d, hr, hb, k => by rw [swpR, if_neg (by omega), if_neg (by omega), if_neg (by omega)]
  | r + 1, i, d, hr, hb, k => by
    rw [swpR, if_pos (by omega), swpR_get hab r (i + 1) _ (by omega) (by rw [size_swp]; exact hb)]
    have g := sg d (i := a + i) (j := b + i) (by omega) (by omega)
    rw [g, g, g]
    by_cases h1 : a + (i + 1) ≤ k ∧ k < a + n
    · rw [if_pos h1, if_neg (by omega), if_neg (by omega), if_pos (by omega)]
    · rw [if_neg h1]
      by_cases h2 : b + (i + 1) ≤ k ∧ k < b + n
      · rw [if_pos h2, if_neg (by omega), if_neg (by omega), if_neg (by omega), if_pos (by omega)]
      · rw [if_neg h2]
        by_cases h3 : k = a + i
        · subst h3; rw [if_pos rfl, if_pos (by omega)]; congr 1; omega
        · rw [if_neg h3]
          by_cases h4 : k = b + i
          · subst h4; rw [if_pos rfl, if_neg (by omega), if_pos (by omega)]; congr 1; omega
          · rw [if_neg h4, if_neg (by omega), if_neg (by omega)]
theorem rotL_perm {m x y : Nat} : ∀ (r i j : Nat) (d : Array α), i + j ≤ r → x + i ≤ m → m + j ≤ y → y ≤ d.size → PermIn x y d (rotL m i j d)
  | r, i, j, d, hr, h1, h2, h3 => by
    rw [rotL]
    split
    · exact permIn_refl d x y
    · rename_i h0
      split
      · exact swpR_perm _ 0 d rfl (by omega) (by omega) (by omega) (by omega) h3
      · split
        · rename_i hn hj
          match r, hr with
          | r + 1, hr => exact permIn_trans _ _ _ x y (swpR_perm _ 0 d rfl (by omega) (by omega) (by omega) (by omega) h3) (rotL_perm r (i - j) j _ (by omega) (by omega) h2 (by rw [swpR_size _ _ _ _ 0 d rfl]; exact h3))
          | 0, hr => omega
        · rename_i hn hj
          match r, hr with
          | r + 1, hr => exact permIn_trans _ _ _ x y (swpR_perm _ 0 d rfl (by omega) (by omega) (by omega) (by omega) h3) (rotL_perm r i (j - i) _ (by omega) h1 (by omega) (by rw [swpR_size _ _ _ _ 0 d rfl]; exact h3))
          | 0, hr => omega
/-- [m-i, m) and [m, m+j) change places. -/
theorem rotL_get {m : Nat} : ∀ (r i j : Nat) (d : Array α), i + j ≤ r → i ≤ m → m + j ≤ d.size → 0 < i → 0 < j → ∀ k,
    (rotL m i j d)[k]! = if m - i ≤ k ∧ k < m - i + j then d[k + i]! else if m - i + j ≤ k ∧ k < m + j then d[k - j]! else d[k]!
  | r, i, j, d, hr, h1, h2, hi, hj, k => by
    rw [rotL, dif_neg (by omega)]
    by_cases e : i = j
    · subst e
      rw [if_pos rfl, swpR_get (by omega) _ 0 d rfl (by omega)]
      by_cases q1 : m - i ≤ k ∧ k < m - i + i
      · rw [if_pos (by omega), if_pos q1]; congr 1; omega
      · rw [if_neg (by omega), if_neg q1]
        by_cases q2 : m - i + i ≤ k ∧ k < m + i
        · rw [if_pos (by omega), if_pos q2]; congr 1; omega
        · rw [if_neg (by omega), if_neg q2]
    · rw [if_neg e]
      by_cases l : j < i
      · rw [if_pos l]
        match r, hr with
        | 0, hr => omega
        | r + 1, hr =>
          rw [rotL_get r (i - j) j _ (by omega) (by omega) (by rw [swpR_size _ _ _ _ 0 d rfl]; exact h2) (by omega) hj]
          simp only [swpR_get (a := m - i) (b := m) (n := j) (by omega) _ 0 d rfl (by omega)]
          by_cases q1 : m - i ≤ k ∧ k < m - i + j
          · rw [if_neg (by omega), if_neg (by omega), if_pos (by omega), if_pos q1]; congr 1; omega
          · by_cases q2 : m - i + j ≤ k ∧ k < m + j
            · rw [if_neg q1, if_pos q2]
              by_cases q3 : m - (i - j) ≤ k ∧ k < m - (i - j) + j
              · rw [if_pos q3]
                by_cases q4 : k + (i - j) < m
                · omega
                · rw [if_neg (by omega), if_pos (by omega)]; congr 1; omega
              · rw [if_neg q3, if_pos (by omega), if_neg (by omega), if_neg (by omega)]
            · rw [if_neg q1, if_neg q2, if_neg (by omega), if_neg (by omega), if_neg (by omega), if_neg (by omega)]
      · rw [if_neg l]
        match r, hr with
        | 0, hr => omega
        | r + 1, hr =>
          rw [rotL_get r i (j - i) _ (by omega) (by omega) (by rw [swpR_size _ _ _ _ 0 d rfl]; omega) hi (by omega)]
          simp only [swpR_get (a := m - i) (b := m + j - i) (n := i) (by omega) _ 0 d rfl (by omega)]
          by_cases q1 : m - i ≤ k ∧ k < m - i + j
          · rw [if_pos q1]
            by_cases q3 : k < m - i + (j - i)
            · rw [if_pos (by omega), if_neg (by omega), if_neg (by omega)]
            · by_cases q5 : k < m
              · rw [if_neg (by omega), if_pos (by omega)]
                by_cases q4 : m - i ≤ k - (j - i) ∧ k - (j - i) < m - i + i
                · rw [if_pos (by omega)]; congr 1; omega
                · omega
              · rw [if_neg (by omega), if_pos (by omega), if_pos (by omega)]; congr 1; omega
          · by_cases q2 : m - i + j ≤ k ∧ k < m + j
            · rw [if_neg q1, if_pos q2, if_neg (by omega), if_neg (by omega), if_neg (by omega), if_pos (by omega)]; congr 1; omega
            · rw [if_neg q1, if_neg q2, if_neg (by omega), if_neg (by omega), if_neg (by omega), if_neg (by omega)]
theorem bsG_spec {q : Nat → Bool} {lo hi : Nat} (mono : ∀ x y, lo ≤ x → x ≤ y → y < hi → q y = true → q x = true) : ∀ (r i j : Nat), j - i ≤ r → lo ≤ i → i ≤ j → j ≤ hi → (∀ x, lo ≤ x → x < i → q x = true) → (∀ x, j ≤ x → x < hi → q x = false) →
    i ≤ bsG q i j ∧ bsG q i j ≤ j ∧ (∀ x, lo ≤ x → x < bsG q i j → q x = true) ∧ (∀ x, bsG q i j ≤ x → x < hi → q x = false)
  | r, i, j, hr, h1, h2, h3, h4, h5 => by
    rw [bsG]
    by_cases hij : i < j
    · rw [if_pos hij]
      match r, hr with
      | 0, hr => omega
      | r + 1, hr =>
        by_cases hq : q ((i + j) / 2) = true
        · rw [if_pos hq]
          have := bsG_spec mono r ((i + j) / 2 + 1) j (by omega) (by omega) (by omega) h3 (fun x a b => mono x _ a (by omega) (by omega) hq) h5
          exact ⟨by omega, this.2.1, this.2.2⟩
        · rw [if_neg hq]
          have := bsG_spec mono r i ((i + j) / 2) (by omega) h1 (by omega) (by omega) h4 (fun x a b => by
            cases hx : q x with
            | false => rfl
            | true => exact absurd (mono _ x (by omega) a b hx) hq)
          exact ⟨this.1, by omega, this.2.2⟩
    · rw [if_neg hij]
      exact ⟨Nat.le_refl _, h2, h4, fun x a b => h5 x (by omega) b⟩
theorem upS_perm {x y e : Nat} : ∀ (r k : Nat) (d : Array α), e - k ≤ r → x ≤ k → e ≤ y → y ≤ d.size → PermIn x y d (upS k e d)
  | r, k, d, hr, h1, h2, h3 => by
    rw [upS]
    split
    · match r, hr with
      | 0, hr => omega
      | r + 1, hr => exact permIn_trans _ _ _ x y (swp_permIn d x y k (k + 1) h1 (by omega) (by omega) (by omega) h3) (upS_perm r (k + 1) _ (by omega) (by omega) h2 (by rw [size_swp]; exact h3))
    · exact permIn_refl d x y
theorem upS_get {e : Nat} : ∀ (r k : Nat) (d : Array α), e - k ≤ r → e ≤ d.size → ∀ x, (upS k e d)[x]! = if k ≤ x ∧ x + 1 < e then d[x + 1]! else if k ≤ x ∧ x + 1 = e then d[k]! else d[x]!
  | r, k, d, hr, h, x => by
    rw [upS]
    by_cases hk : k + 1 < e
    · rw [if_pos hk]
      match r, hr with
      | 0, hr => omega
      | r + 1, hr =>
        rw [upS_get r (k + 1) _ (by omega) (by rw [size_swp]; exact h)]
        simp only [sg d (i := k) (j := k + 1) (by omega) (by omega)]
        by_cases q1 : k + 1 ≤ x ∧ x + 1 < e
        · rw [if_pos q1, if_neg (by omega), if_neg (by omega), if_pos (by omega)]
        · rw [if_neg q1]
          by_cases q2 : k + 1 ≤ x ∧ x + 1 = e
          · rw [if_pos q2, if_neg (by omega), if_pos trivial, if_neg (by omega), if_pos (by omega)]
          · rw [if_neg q2]
            by_cases q3 : x = k
            · subst q3; rw [if_pos rfl, if_pos (by omega)]
            · rw [if_neg q3, if_neg (by omega), if_neg (by omega), if_neg (by omega)]
    · rw [if_neg hk, if_neg (by omega)]
      by_cases q : k ≤ x ∧ x + 1 = e
      · rw [if_pos q]; congr 1; omega
      · rw [if_neg q]
theorem dnS_perm {x y i : Nat} : ∀ (k : Nat) (d : Array α), x ≤ i → k < y → y ≤ d.size → PermIn x y d (dnS i k d)
  | 0, d, _, _, _ => permIn_refl d x y
  | k + 1, d, h1, h2, h3 => by
    unfold dnS
    split
    · exact permIn_trans _ _ _ x y (swp_permIn d x y (k + 1) k (by omega) h2 (by omega) (by omega) h3) (dnS_perm k _ h1 (by omega) (by rw [size_swp]; exact h3))
    · exact permIn_refl d x y
theorem dnS_get {i : Nat} : ∀ (k : Nat) (d : Array α), k < d.size → ∀ x, (dnS i k d)[x]! = if i < x ∧ x ≤ k then d[x - 1]! else if x = i ∧ i ≤ k then d[k]! else d[x]!
  | 0, d, h, x => by
    unfold dnS
    rw [if_neg (by omega)]
    by_cases q : x = i ∧ i ≤ 0
    · rw [if_pos q]; congr 1; omega
    · rw [if_neg q]
  | k + 1, d, h, x => by
    unfold dnS
    by_cases hk : i < k + 1
    · rw [if_pos hk, dnS_get k _ (by rw [size_swp]; omega)]
      simp only [sg d (i := k + 1) (j := k) (by omega) (by omega)]
      by_cases q1 : i < x ∧ x ≤ k
      · rw [if_pos q1, if_neg (by omega), if_neg (by omega), if_pos (by omega)]
      · rw [if_neg q1]
        by_cases q2 : x = i ∧ i ≤ k
        · rw [if_pos q2, if_neg (by omega), if_pos trivial, if_neg (by omega), if_pos (by omega)]
        · rw [if_neg q2]
          by_cases q3 : x = k + 1
          · subst q3; rw [if_pos rfl, if_pos (by omega)]; rfl
          · rw [if_neg q3, if_neg (by omega), if_neg (by omega), if_neg (by omega)]
    · rw [if_neg hk, if_neg (by omega)]
      by_cases q : x = i ∧ i ≤ k + 1
      · rw [if_pos q]; congr 1; omega
      · rw [if_neg q]
section
variable {lt : α → α → Bool}
theorem asym (h : SWO lt) {x y : α} (hxy : lt x y = true) : lt y x = false := by
  cases hyx : lt y x with
  | false => rfl
  | true => have := h.trans x y x hxy hyx; rw [h.irrefl] at this; cases this
theorem srt_congr {a b : Nat} {d d' : Array α} (hs : SortedIn lt a b d) (h : ∀ i, a ≤ i → i < b → d'[i]! = d[i]!) : SortedIn lt a b d' := fun i j hi hij hj => by
  rw [h i hi (by omega), h j (by omega) hj]
  exact hs i j hi hij hj
theorem one1 (hS : SWO lt) {a b : Nat} {d : Array α} (hb : b ≤ d.size) (hab : a + 1 < b) (h2 : SortedIn lt (a + 1) b d) :
    PermIn a b d (upS a (bsG (fun h => lt d[h]! d[a]!) (a + 1) b) d) ∧ SortedIn lt a b (upS a (bsG (fun h => lt d[h]! d[a]!) (a + 1) b) d) := by
  obtain ⟨b1, b2, b3, b4⟩ := bsG_spec (q := fun h => lt d[h]! d[a]!) (lo := a + 1) (hi := b) (fun x y h1 hxy hy hq => by
    cases hx : lt d[x]! d[a]! with
    | true => rfl
    | false =>
      rcases Nat.lt_or_ge x y with h | h
      · have := hS.ntrans _ _ _ (h2 x y h1 h hy) hx
        simp only [this] at hq; cases hq
      · have : x = y := by omega
        subst this; simp only [hx] at hq; cases hq) _ (a + 1) b (Nat.le_refl _) (Nat.le_refl _) (by omega) (Nat.le_refl _) (fun x h1 h2 => by omega) (fun x h1 h2 => by omega)
  generalize bsG (fun h => lt d[h]! d[a]!) (a + 1) b = i at *
  refine ⟨upS_perm _ a d (Nat.le_refl _) (Nat.le_refl _) b2 hb, fun p q hp hpq hq => ?_⟩
  simp only [upS_get (e := i) _ a d (Nat.le_refl _) (by omega)]
  by_cases c1 : q + 1 < i
  · rw [if_pos (by omega), if_pos (by omega)]; exact h2 _ _ (by omega) (by omega) (by omega)
  · by_cases c2 : q + 1 = i
    · rw [if_neg (by omega), if_pos (by omega), if_pos (by omega)]
      exact asym hS (b3 (p + 1) (by omega) (by omega))
    · rw [if_neg (by omega), if_neg (by omega)]
      by_cases c3 : p + 1 < i
      · rw [if_pos (by omega)]; exact h2 _ _ (by omega) (by omega) (by omega)
      · rw [if_neg (by omega)]
        by_cases c4 : p + 1 = i
        · rw [if_pos (by omega)]; exact b4 q (by omega) hq
        · rw [if_neg (by omega)]; exact h2 _ _ (by omega) (by omega) (by omega)
theorem one2 (hS : SWO lt) {a m : Nat} {d : Array α} (hb : m + 1 ≤ d.size) (hab : a < m) (h2 : SortedIn lt a m d) :
    PermIn a (m + 1) d (dnS (bsG (fun h => !lt d[m]! d[h]!) a m) m d) ∧ SortedIn lt a (m + 1) (dnS (bsG (fun h => !lt d[m]! d[h]!) a m) m d) := by
  obtain ⟨b1, b2, b3, b4⟩ := bsG_spec (q := fun h => !lt d[m]! d[h]!) (lo := a) (hi := m) (fun x y h1 hxy hy hq => by
    simp only [Bool.not_eq_true'] at hq ⊢
    rcases Nat.lt_or_ge x y with h | h
    · exact hS.ntrans _ _ _ hq (h2 x y h1 h hy)
    · have : x = y := by omega
      subst this; exact hq) _ a m (Nat.le_refl _) (Nat.le_refl _) (by omega) (Nat.le_refl _) (fun x h1 h2 => by omega) (fun x h1 h2 => by omega)
  generalize bsG (fun h => !lt d[m]! d[h]!) a m = i at *
  simp only [Bool.not_eq_true', Bool.not_eq_false'] at b3 b4
  refine ⟨dnS_perm m d b1 (by omega) hb, fun p q hp hpq hq => ?_⟩
  simp only [dnS_get (i := i) m d (by omega)]
  by_cases c1 : q < i
  · rw [if_neg (by omega), if_neg (by omega), if_neg (by omega), if_neg (by omega)]; exact h2 _ _ hp hpq (by omega)
  · by_cases c2 : q = i
    · rw [if_neg (by omega), if_pos (by omega), if_neg (by omega), if_neg (by omega)]; exact b3 p hp (by omega)
    · rw [if_pos (by omega)]
      by_cases c3 : p < i
      · rw [if_neg (by omega), if_neg (by omega)]; exact h2 _ _ hp (by omega) (by omega)
      · by_cases c4 : p = i
        · rw [if_neg (by omega), if_pos (by omega)]; exact asym hS (b4 (q - 1) (by omega) (by omega))
        · rw [if_pos (by omega)]; exact h2 _ _ (by omega) (by omega) (by omega)
theorem cut_spec (hS : SWO lt) {a m b : Nat} {d : Array α} (ham : a < m) (hmb : m < b) (h1 : SortedIn lt a m d) (h2 : SortedIn lt m b d) :
    a ≤ sCut lt a m b d ∧ sCut lt a m b d ≤ m ∧ sCut lt a m b d ≤ (a + b) / 2 ∧ (a + b) / 2 + m - sCut lt a m b d ≤ b ∧
    (∀ i j, a ≤ i → i < sCut lt a m b d → (a + b) / 2 + m - sCut lt a m b d ≤ j → j < b → lt d[j]! d[i]! = false) ∧
    (∀ i j, m ≤ i → i < (a + b) / 2 + m - sCut lt a m b d → sCut lt a m b d ≤ j → j < m → lt d[j]! d[i]! = false) := by
  have key : ∀ mid s0 r0, mid = (a + b) / 2 → a ≤ s0 → s0 ≤ r0 → r0 ≤ m → r0 ≤ mid → mid + m ≤ b + s0 → (s0 = a ∨ mid + m = b + s0) → (r0 = m ∨ r0 = mid) →
      ∀ s, s = bsG (fun c => !lt d[mid + m - 1 - c]! d[c]!) s0 r0 → a ≤ s ∧ s ≤ m ∧ s ≤ mid ∧ mid + m - s ≤ b ∧
      (∀ i j, a ≤ i → i < s → mid + m - s ≤ j → j < b → lt d[j]! d[i]! = false) ∧ (∀ i j, m ≤ i → i < mid + m - s → s ≤ j → j < m → lt d[j]! d[i]! = false) := by
    intro mid s0 r0 hmid e1 e2 e3 e4 e5 e6 e7 s hs
    obtain ⟨b1, b2, b3, b4⟩ := bsG_spec (q := fun c => !lt d[mid + m - 1 - c]! d[c]!) (lo := s0) (hi := r0) (fun x y hx hxy hy hq => by
      simp only [Bool.not_eq_true'] at hq ⊢
      rcases Nat.lt_or_ge x y with h | h
      · have q1 := h1 x y (by omega) h (by omega)
        have q2 := h2 (mid + m - 1 - y) (mid + m - 1 - x) (by omega) (by omega) (by omega)
        exact hS.ntrans _ _ _ (hS.ntrans _ _ _ q2 hq) q1
      · have : x = y := by omega
        subst this; exact hq) _ s0 r0 (Nat.le_refl _) (Nat.le_refl _) e2 (Nat.le_refl _) (fun x h1 h2 => by omega) (fun x h1 h2 => by omega)
    rw [← hs] at b1 b2 b3 b4
    simp only [Bool.not_eq_true', Bool.not_eq_false'] at b3 b4
    refine ⟨by omega, by omega, by omega, by omega, fun i j hi his hj hjb => ?_, fun i j hi hie hj hjm => ?_⟩
    · have q := b3 (s - 1) (by omega) (by omega)
      rw [show mid + m - 1 - (s - 1) = mid + m - s by omega] at q
      have q1 : lt d[s - 1]! d[i]! = false := by
        rcases Nat.lt_or_ge i (s - 1) with h | h
        · exact h1 i (s - 1) hi h (by omega)
        · have : i = s - 1 := by omega
          subst this; exact hS.irrefl _
      have q2 : lt d[j]! d[mid + m - s]! = false := by
        rcases Nat.lt_or_ge (mid + m - s) j with h | h
        · exact h2 _ j (by omega) h hjb
        · have : j = mid + m - s := by omega
          subst this; exact hS.irrefl _
      exact hS.ntrans _ _ _ q2 (hS.ntrans _ _ _ q q1)
    · have q := asym hS (b4 s (Nat.le_refl _) (by omega))
      rw [show mid + m - 1 - s = mid + m - s - 1 by omega] at q
      have q1 : lt d[mid + m - s - 1]! d[i]! = false := by
        rcases Nat.lt_or_ge i (mid + m - s - 1) with h | h
        · exact h2 i _ hi h (by omega)
        · have : i = mid + m - s - 1 := by omega
          subst this; exact hS.irrefl _
      have q2 : lt d[j]! d[s]! = false := by
        rcases Nat.lt_or_ge s j with h | h
        · exact h1 s j (by omega) h hjm
        · have : j = s := by omega
          subst this; exact hS.irrefl _
      exact hS.ntrans _ _ _ q2 (hS.ntrans _ _ _ q q1)
  unfold sCut
  by_cases c : (a + b) / 2 < m
  · simp only [if_pos c]
    exact key _ _ _ rfl (by omega) (by omega) (by omega) (by omega) (by omega) (.inr (by omega)) (.inr rfl) _ rfl
  · simp only [if_neg c]
    exact key _ _ _ rfl (by omega) (by omega) (by omega) (by omega) (by omega) (.inl rfl) (.inl rfl) _ rfl
theorem rotIf_spec {a m b : Nat} {d : Array α} (hb : b ≤ d.size) {s mid : Nat} (hs : s = sCut lt a m b d) (hmid : mid = (a + b) / 2) (h1 : a ≤ s) (h2 : s ≤ m) (h3 : s ≤ mid) (h4 : mid + m - s ≤ b) :
    PermIn a b d (rotIf lt a m b d) ∧ ∀ k, (rotIf lt a m b d)[k]! = if s ≤ k ∧ k < mid then d[k + (m - s)]! else if mid ≤ k ∧ k < mid + m - s then d[k - (mid - s)]! else d[k]! := by
  unfold rotIf
  rw [← hs, ← hmid]
  by_cases c : s < m ∧ m < mid + m - s
  · rw [if_pos c]
    refine ⟨rotL_perm _ _ _ d (Nat.le_refl _) (by omega) (by omega) hb, fun k => ?_⟩
    rw [rotL_get _ _ _ d (Nat.le_refl _) (by omega) (by omega) (by omega) (by omega)]
    by_cases q1 : s ≤ k ∧ k < mid
    · rw [if_pos (by omega), if_pos q1]
    · rw [if_neg (by omega), if_neg q1]
      by_cases q2 : mid ≤ k ∧ k < mid + m - s
      · rw [if_pos (by omega), if_pos q2]; congr 1; omega
      · rw [if_neg (by omega), if_neg q2]
  · rw [if_neg c]
    refine ⟨permIn_refl d a b, fun k => ?_⟩
    by_cases q1 : s ≤ k ∧ k < mid
    · rw [if_pos q1]; congr 1; omega
    · rw [if_neg q1]
      by_cases q2 : mid ≤ k ∧ k < mid + m - s
      · rw [if_pos q2]; congr 1; omega
      · rw [if_neg q2]
theorem symM_spec (hS : SWO lt) : ∀ (r a m b : Nat) (d : Array α), b - a ≤ r → a < m → m < b → b ≤ d.size → SortedIn lt a m d → SortedIn lt m b d → PermIn a b d (symM lt a m b d) ∧ SortedIn lt a b (symM lt a m b d)
  | r, a, m, b, d, hr, ham, hmb, hb, h1, h2 => by
    rw [symM]
    by_cases c1 : m - a = 1
    · rw [if_pos c1]
      obtain rfl : m = a + 1 := by omega
      exact one1 hS hb (by omega) h2
    · rw [if_neg c1]
      by_cases c2 : b - m = 1
      · rw [if_pos c2]
        obtain rfl : b = m + 1 := by omega
        exact one2 hS hb ham h1
      · rw [if_neg c2]
        obtain ⟨s1, s2, s3, s4, x1, x2⟩ := cut_spec hS ham hmb h1 h2
        obtain ⟨s, hs⟩ : ∃ s, s = sCut lt a m b d := ⟨_, rfl⟩
        obtain ⟨mid, hmid⟩ : ∃ mid, mid = (a + b) / 2 := ⟨_, rfl⟩
        rw [← hs] at s1 s2 s3 s4 x1 x2
        rw [← hmid] at s3 s4 x1 x2
        obtain ⟨p1, g1⟩ := rotIf_spec hb hs hmid s1 s2 s3 s4
        rw [← hs, ← hmid]
        generalize rotIf lt a m b d = d1 at p1 g1 ⊢
        have z1 : d1.size = d.size := p1.1
        have L1 : SortedIn lt a s d1 := srt_congr (fun i j x y z => h1 i j x y (by omega)) fun i x y => by rw [g1, if_neg (by omega), if_neg (by omega)]
        have L2 : SortedIn lt s mid d1 := fun i j x y z => by
          rw [g1, g1, if_pos (by omega), if_pos (by omega)]; exact h2 _ _ (by omega) (by omega) (by omega)
        have L3 : SortedIn lt mid (mid + m - s) d1 := fun i j x y z => by
          rw [g1, g1, if_neg (by omega), if_pos (by omega), if_neg (by omega), if_pos (by omega)]; exact h1 _ _ (by omega) (by omega) (by omega)
        have L4 : SortedIn lt (mid + m - s) b d1 := fun i j x y z => by
          rw [g1, g1, if_neg (by omega), if_neg (by omega), if_neg (by omega), if_neg (by omega)]; exact h2 _ _ (by omega) y z
        have X : ∀ i j, a ≤ i → i < mid → mid ≤ j → j < b → lt d1[j]! d1[i]! = false := fun i j q1 q2 q3 q4 => by
          rw [g1, g1]
          by_cases u : s ≤ i ∧ i < mid
          · rw [if_neg (by omega), if_pos u]
            by_cases v : mid ≤ j ∧ j < mid + m - s
            · rw [if_pos v]; exact x2 _ _ (by omega) (by omega) (by omega) (by omega)
            · rw [if_neg v]; exact h2 _ _ (by omega) (by omega) q4
          · rw [if_neg (by omega), if_neg u, if_neg (by omega : ¬ (mid ≤ i ∧ i < mid + m - s))]
            by_cases v : mid ≤ j ∧ j < mid + m - s
            · rw [if_pos v]; exact h1 _ _ q1 (by omega) (by omega)
            · rw [if_neg v]; exact x1 _ _ q1 (by omega) (by omega) q4
        have hm2 : a < mid := by omega
        have hm3 : mid < b := by omega
        have D2 : PermIn a mid d1 (if h1 : a < s ∧ s < mid then symM lt a s mid d1 else d1) ∧ SortedIn lt a mid (if h1 : a < s ∧ s < mid then symM lt a s mid d1 else d1) := by
          by_cases c : a < s ∧ s < mid
          · rw [dif_pos c]
            match r, hr with
            | 0, hr => omega
            | r + 1, hr => exact symM_spec hS r a s mid d1 (by omega) c.1 c.2 (by omega) L1 L2
          · rw [dif_neg c]
            refine ⟨permIn_refl d1 a mid, ?_⟩
            rcases Nat.lt_or_ge a s with h | h
            · have : s = mid := by omega
              subst this; exact L1
            · have : s = a := by omega
              subst this; exact L2
        generalize (if h1 : a < s ∧ s < mid then symM lt a s mid d1 else d1) = d2 at D2 ⊢
        obtain ⟨p2, o2⟩ := D2
        have z2 : d2.size = d1.size := p2.1
        have M3 : SortedIn lt mid (mid + m - s) d2 := srt_congr L3 fun i x y => p2.2.1 i (.inr x)
        have M4 : SortedIn lt (mid + m - s) b d2 := srt_congr L4 fun i x y => p2.2.1 i (.inr (by omega))
        have D3 : PermIn mid b d2 (if h2 : mid < mid + m - s ∧ mid + m - s < b then symM lt mid (mid + m - s) b d2 else d2) ∧ SortedIn lt mid b (if h2 : mid < mid + m - s ∧ mid + m - s < b then symM lt mid (mid + m - s) b d2 else d2) := by
          by_cases c : mid < mid + m - s ∧ mid + m - s < b
          · rw [dif_pos c]
            match r, hr with
            | 0, hr => omega
            | r + 1, hr => exact symM_spec hS r mid (mid + m - s) b d2 (by omega) c.1 c.2 (by omega) M3 M4
          · rw [dif_neg c]
            refine ⟨permIn_refl d2 mid b, ?_⟩
            rcases Nat.lt_or_ge mid (mid + m - s) with h | h
            · have : mid + m - s = b := by omega
              rw [this] at M3; exact M3
            · have : mid + m - s = mid := by omega
              rw [this] at M4; exact M4
        show PermIn a b d (if h2 : mid < mid + m - s ∧ mid + m - s < b then symM lt mid (mid + m - s) b d2 else d2) ∧ SortedIn lt a b (if h2 : mid < mid + m - s ∧ mid + m - s < b then symM lt mid (mid + m - s) b d2 else d2)
        generalize (if h2 : mid < mid + m - s ∧ mid + m - s < b then symM lt mid (mid + m - s) b d2 else d2) = d3 at D3 ⊢
        obtain ⟨p3, o3⟩ := D3
        refine ⟨permIn_trans _ _ _ a b p1 (permIn_trans _ _ _ a b (permIn_mono d1 d2 a mid a b (Nat.le_refl _) (by omega) (by omega) p2) (permIn_mono d2 d3 mid b a b (by omega) (Nat.le_refl _) (by omega) p3)), fun i j q1 q2 q3 => ?_⟩
        rcases Nat.lt_or_ge j mid with c | c
        · rw [p3.2.1 i (.inl (by omega)), p3.2.1 j (.inl c)]; exact o2 i j q1 q2 c
        · rcases Nat.lt_or_ge i mid with c' | c'
          · rw [p3.2.1 i (.inl c')]
            refine permIn_all d2 d3 mid b (fun y => lt y d2[i]! = false) (by omega) p3 (fun k k1 k2 => ?_) j c q3
            rw [p2.2.1 k (.inr k1)]
            exact permIn_all d1 d2 a mid (fun x => lt d1[k]! x = false) (by omega) p2 (fun t t1 t2 => X t k t1 t2 k1 k2) i q1 c'
          · exact o3 i j c' q2 q3
inductive Ch (lt : α → α → Bool) (s n : Nat) (d : Array α) : Nat → Prop
  | done {a : Nat} (h : n ≤ a) : Ch lt s n d a
  | step {a : Nat} (h : SortedIn lt a (min (a + s) n) d) (hn : Ch lt s n d (a + s)) : Ch lt s n d a
theorem Ch.congr {s n a : Nat} {d d' : Array α} (h : Ch lt s n d a) (e : ∀ i, a ≤ i → d'[i]! = d[i]!) : Ch lt s n d' a := by
  induction h with
  | done h => exact .done h
  | step h _ ih => exact .step (srt_congr h fun i x y => e i x) (ih fun i hi => e i (by omega))
theorem Ch.head {s n a : Nat} {d : Array α} (h : Ch lt s n d a) : SortedIn lt a (min (a + s) n) d := by
  cases h with
  | done h => exact fun i j x y z => by omega
  | step h _ => exact h
theorem Ch.tail {s n a : Nat} {d : Array α} (h : Ch lt s n d a) : Ch lt s n d (a + s) := by
  cases h with
  | done h => exact .done (by omega)
  | step _ h => exact h
theorem insB_spec (hS : SWO lt) {n : Nat} : ∀ (r a : Nat) (d : Array α), n - a ≤ r → a ≤ n → n ≤ d.size → PermIn a n d (insB lt n a (a + 20) d) ∧ Ch lt 20 n (insB lt n a (a + 20) d) a
  | r, a, d, hr, ha, hn => by
    rw [insB]
    by_cases c : a + 20 ≤ n
    · rw [if_pos c]
      obtain ⟨p1, o1⟩ := insertionSort_holds (lt := lt) hS d a (a + 20) (by omega) (by omega)
      generalize insertionSort lt d a (a + 20) = d1 at p1 o1 ⊢
      have z1 : d1.size = d.size := p1.1
      match r, hr with
      | 0, hr => omega
      | r + 1, hr =>
        obtain ⟨p2, o2⟩ := insB_spec hS r (a + 20) d1 (by omega) c (by omega)
        generalize insB lt n (a + 20) (a + 20 + 20) d1 = d2 at p2 o2 ⊢
        refine ⟨permIn_trans _ _ _ a n (permIn_mono d d1 a (a + 20) a n (Nat.le_refl _) c hn p1) (permIn_mono d1 d2 (a + 20) n a n (by omega) (Nat.le_refl _) (by omega) p2), .step (srt_congr (by rw [Nat.min_eq_left c]; exact o1) fun i x y => p2.2.1 i (.inl (by omega))) o2⟩
    · rw [if_neg c]
      obtain ⟨p1, o1⟩ := insertionSort_holds (lt := lt) hS d a n ha hn
      exact ⟨p1, .step (by rw [Nat.min_eq_right (by omega)]; exact o1) (.done (by omega))⟩
theorem mrgP_spec (hS : SWO lt) {n s : Nat} (hs : 0 < s) : ∀ (r a : Nat) (d : Array α), n - a ≤ r → a ≤ n → n ≤ d.size → Ch lt s n d a → PermIn a n d (mrgP lt n s a (a + 2 * s) d) ∧ Ch lt (2 * s) n (mrgP lt n s a (a + 2 * s) d) a
  | r, a, d, hr, ha, hn, hc => by
    rw [mrgP, if_neg (by omega)]
    by_cases c : a + 2 * s ≤ n
    · rw [if_pos c]
      have q1 := hc.head; rw [Nat.min_eq_left (by omega)] at q1
      have q2 := hc.tail.head; rw [Nat.min_eq_left (by omega), show a + s + s = a + 2 * s by omega] at q2
      have q3 := hc.tail.tail; rw [show a + s + s = a + 2 * s by omega] at q3
      obtain ⟨p1, o1⟩ := symM_spec hS _ a (a + s) (a + 2 * s) d (Nat.le_refl _) (by omega) (by omega) (by omega) q1 q2
      generalize symM lt a (a + s) (a + 2 * s) d = d1 at p1 o1 ⊢
      have z1 : d1.size = d.size := p1.1
      match r, hr with
      | 0, hr => omega
      | r + 1, hr =>
        obtain ⟨p2, o2⟩ := mrgP_spec hS hs r (a + 2 * s) d1 (by omega) c (by omega) (q3.congr fun i hi => p1.2.1 i (.inr hi))
        generalize mrgP lt n s (a + 2 * s) (a + 2 * s + 2 * s) d1 = d2 at p2 o2 ⊢
        exact ⟨permIn_trans _ _ _ a n (permIn_mono d d1 a (a + 2 * s) a n (Nat.le_refl _) c hn p1) (permIn_mono d1 d2 (a + 2 * s) n a n (by omega) (Nat.le_refl _) (by omega) p2), .step (srt_congr (by rw [Nat.min_eq_left c]; exact o1) fun i x y => p2.2.1 i (.inl (by omega))) o2⟩
    · rw [if_neg c]
      by_cases c2 : a + s < n
      · rw [if_pos c2]
        have q1 := hc.head; rw [Nat.min_eq_left (by omega)] at q1
        have q2 := hc.tail.head; rw [Nat.min_eq_right (by omega)] at q2
        obtain ⟨p1, o1⟩ := symM_spec hS _ a (a + s) n d (Nat.le_refl _) (by omega) (by omega) (by omega) q1 q2
        exact ⟨p1, .step (by rw [Nat.min_eq_right (by omega)]; exact o1) (.done (by omega))⟩
      · rw [if_neg c2]
        refine ⟨permIn_refl d a n, .step ?_ (.done (by omega))⟩
        have q1 := hc.head; rw [Nat.min_eq_right (by omega)] at q1
        rw [Nat.min_eq_right (by omega)]; exact q1
theorem mrgL_spec (hS : SWO lt) {n : Nat} : ∀ (r s : Nat) (d : Array α), n - s ≤ r → 0 < s → n ≤ d.size → Ch lt s n d 0 → PermIn 0 n d (mrgL lt n s d) ∧ SortedIn lt 0 n (mrgL lt n s d)
  | r, s, d, hr, hs, hn, hc => by
    rw [mrgL]
    by_cases c : 0 < s ∧ s < n
    · rw [dif_pos c]
      have h := mrgP_spec hS hs _ 0 d (Nat.le_refl _) (Nat.zero_le _) hn hc
      rw [Nat.zero_add] at h
      obtain ⟨p1, o1⟩ := h
      generalize mrgP lt n s 0 (2 * s) d = d1 at p1 o1 ⊢
      match r, hr with
      | 0, hr => omega
      | r + 1, hr =>
        obtain ⟨p2, o2⟩ := mrgL_spec (n := n) hS r (s * 2) d1 (by omega) (by omega) (by rw [p1.1]; exact hn) (by rw [Nat.mul_comm]; exact o1)
        exact ⟨permIn_trans _ _ _ 0 n p1 p2, o2⟩
    · rw [dif_neg c]
      have q1 := hc.head; rw [Nat.min_eq_right (by omega)] at q1
      exact ⟨permIn_refl d 0 n, q1⟩
/-- What the stable sort comes to: a permutation, and sorted. -/
theorem stable_spec (hS : SWO lt) (d : Array α) : PermIn 0 d.size d (stable lt d) ∧ SortedIn lt 0 d.size (stable lt d) := by
  unfold stable
  have h := insB_spec hS _ 0 d (Nat.le_refl _) (Nat.zero_le _) (Nat.le_refl _)
  rw [Nat.zero_add] at h
  obtain ⟨p1, o1⟩ := h
  generalize insB lt d.size 0 20 d = d1 at p1 o1 ⊢
  obtain ⟨p2, o2⟩ := mrgL_spec hS _ 20 d1 (Nat.le_refl _) (by omega) (by rw [p1.1]; exact Nat.le_refl _) o1
  exact ⟨permIn_trans _ _ _ 0 d.size p1 p2, o2⟩
end
end Go.Stb
