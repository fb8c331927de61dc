/- The layer, the plain facts: several texts of one chain, put together (FrmE). -/
import Derived.Test.YtgiomlgkccjhfaaDoorPl
/- Sums of bytes with one turned; what a feed tells in pieces; no program in sight. -/
set_option linter.unusedVariables false
set_option linter.unusedSimpArgs false
namespace Go.Fld
open Go

theorem sum_cut {l : Bs} {q : Nat} {c : UInt8} (h : l[q]? = some c) : sumF l = (sumF (l.take q) + c.toNat + sumF (l.drop (q + 1))) % 256 := by
  have e : l = l.take q ++ [c] ++ l.drop (q + 1) := by
    rw [← take_next h, List.take_append_drop]
  conv => lhs; rw [e]
  rw [sumF_app, sumF_snoc]
  have := sumF_lt (l.take q)
  omega
theorem sum_set {l : Bs} {q : Nat} {c : UInt8} (h : l[q]? = some c) (d : UInt8) : sumF (l.set q d) = (sumF (l.take q) + d.toNat + sumF (l.drop (q + 1))) % 256 := by
  have hq := get_lt h
  have h2 : (l.set q d)[q]? = some d := by rw [List.getElem?_set_self (by exact hq)]
  rw [sum_cut h2]
  have e1 : (l.set q d).take q = l.take q := by
    rw [List.take_set_of_le (Nat.le_refl _)]
  have e2 : (l.set q d).drop (q + 1) = l.drop (q + 1) := by
    rw [List.drop_set_of_lt (Nat.lt_succ_self _)]
  rw [e1, e2]
theorem sum_turn {l : Bs} {q : Nat} {c d : UInt8} (h : l[q]? = some c) : decide (sumF (l.set q (c + d)) = sumF l) = decide (d = 0) := by
  rw [Bool.eq_iff_iff, decide_eq_true_eq, decide_eq_true_eq, sum_set h, sum_cut h, UInt8.toNat_add]
  have hc := c.toNat_lt; have hd := d.toNat_lt
  constructor
  · intro e
    apply UInt8.toNat_inj.1
    show d.toNat = 0
    omega
  · rintro rfl
    show (_ + (c.toNat + 0) % 256 + _) % 256 = _
    omega
theorem sum_mod (a b : Bs) : Int.tmod (IntKind.i64.wrap ((sumF a : Nat) + (sumF b : Nat))) 256 = ((sumF (a ++ b) : Nat) : Int) := by
  have ha := sumF_lt a; have hb := sumF_lt b
  have e : IntKind.i64.wrap (((sumF a : Nat) : Int) + ((sumF b : Nat) : Int)) = ((sumF a + sumF b : Nat) : Int) := by rw [IntKind.wrap_i64]; omega
  rw [e, sumF_app]; rfl

/-! ### the feed, step by step -/
/-- What is told so far, and what is left. -/
def FS (all rest : Bs) (bodies : List Bs) (junk : Nat) : Prop := runB all = ((runB rest).1, bodies ++ (runB rest).2.1, junk + (runB rest).2.2)
theorem FS.start (all : Bs) : FS all all [] 0 := by unfold FS; simp
theorem FS.junk {all rest : Bs} {bodies : List Bs} {j : Nat} (h : FS all rest bodies j) (hk : kF rest = .junk) : FS all (rest.drop (junkF rest)) bodies (j + junkF rest) := by
  unfold FS at h ⊢
  rw [h, runB_skip hk]
  refine Prod.ext rfl (Prod.ext rfl ?_)
  show j + ((runB (rest.drop (junkF rest))).2.2 + junkF rest) = j + junkF rest + (runB (rest.drop (junkF rest))).2.2
  omega
theorem FS.frame {all rest : Bs} {bodies : List Bs} {j s n : Nat} (h : FS all rest bodies j) (hk : kF rest = .frame s n) : FS all (rest.drop (s + n + 7)) (bodies ++ [(rest.drop s).take n]) j := by
  unfold FS at h ⊢
  rw [h, runB_frame hk]
  refine Prod.ext rfl (Prod.ext ?_ rfl)
  show bodies ++ ((rest.drop s).take n :: (runB (rest.drop (s + n + 7))).2.1) = bodies ++ [(rest.drop s).take n] ++ (runB (rest.drop (s + n + 7))).2.1
  simp
theorem FS.done {all rest : Bs} {bodies : List Bs} {j : Nat} (h : FS all rest bodies j) (hk : kF rest = .need) : runB all = (rest, bodies, j) := by
  unfold FS at h
  rw [h, runB_need hk]
  simp
theorem FS.done0 {all : Bs} {bodies : List Bs} {j : Nat} (h : FS all [] bodies j) : runB all = ([], bodies, j) := h.done kF_nil
theorem run_piece {st : Bs} {a b : Nat} (hab : a ≤ b) : runB (st.take b) = ((runB ((runB (st.take a)).1 ++ (st.take b).drop a)).1, (runB (st.take a)).2.1 ++ (runB ((runB (st.take a)).1 ++ (st.take b).drop a)).2.1, (runB (st.take a)).2.2 + (runB ((runB (st.take a)).1 ++ (st.take b).drop a)).2.2) := by
  have e : st.take b = st.take a ++ (st.take b).drop a := by
    conv => lhs; rw [← List.take_append_drop a (st.take b)]
    rw [List.take_take, show min a b = a by omega]
  conv => lhs; rw [e]
  exact runB_app _ _
theorem frSum_next {l : List Bs} {i : Nat} {x : Bs} (h : l[i]? = some x) : frSum (l.take (i + 1)) = frSum (l.take i) + (putB x).1.length := by
  rw [take_next h, frSum_snoc]; rfl
theorem run_junk_frame {a x b : Bs} (ha : (56 : UInt8) ∉ a) (hb : (56 : UInt8) ∉ b) (hx : (putB x).2 = 0) : runB (a ++ (putB x).1 ++ b) = ([], [x], a.length + b.length) := by
  rw [List.append_assoc, runB_app, junk_no8 ha]
  show _ = _
  rw [List.nil_append, run_put hx, junk_no8 hb]
  rfl
end Go.Fld
