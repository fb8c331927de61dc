/- GateShuts: while all is stopped, or a venue is not Normal, nothing comes in that raises the worst there; cancels are always handed on; once all is well, what is within its limits comes in: the law answers true for every input. No condition. -/
import Derived.Test.YtajeeghgiilhiaaGreatKuP
import Derived.Test.YtajeeghgiilhiaaGreatKuN
import Derived.Test.YtajeeghgiilhiaaGreatKuO
import Derived.Test.YtajeeghgiilhiaaGreatKuL
import Derived.Test.YtajeeghgiilhiaaGreatKuK
import Derived.Shelf.SlGeneric
import Derived.Shelf.SlSortCmp.WholeK
import Derived.Ground.SlsfProg
import Derived.Test.YtajeeghgiilhiaaGreatProg
import Derived.Test.YtajeeghgiilhiaaGreatKuJ
import Derived.Shelf.GgSortFunc.InsertionK
import Derived.Test.YtajeeghgiilhiaaGreatKuM
import Derived.Shelf.SlSortCmp.NoneTotal
import Derived.Test.YtajeeghgiilhiaaGreatRows
import Derived.Test.YtajeeghgiilhiaaGreatKuD
import Derived.ProofKit
import Derived.LaidMore
import Derived.OpenShut
import Derived.Stop.Joined
import Derived.HandedShaped
import Derived.Lib.SmallJoins
set_option linter.unusedVariables false
set_option linter.unusedSimpArgs false
section
namespace Go.Proofs.YtajeeghgiilhiaaGreat
open Go Go.Abs Go.RowKit Go.Bk
theorem eq_noL1 {α : Type} [DecidableEq α] {a b : List α} (h : ¬ a.length = b.length) : decide (a = b) = false := decide_eq_false fun e => h (by rw [e])
theorem eq_noL2 {α : Type} [DecidableEq α] {a b : List α} {i : Nat} {x y : α} (h1 : a[i]? = some x) (h2 : b[i]? = some y) (h : x ≠ y) : decide (a = b) = false := decide_eq_false fun e => h (by rw [e, h2, Option.some.injEq] at h1; exact h1.symm)
theorem eq_yesL {α : Type} [DecidableEq α] {a b : List α} {i : Nat} (h0 : a.length = b.length) (hi : a.length ≤ i) (h : a.take i = b.take i) : decide (a = b) = true := by
 rw [List.take_of_length_le hi, List.take_of_length_le (by omega)] at h
 exact decide_eq_true h
theorem eq_nextL {α : Type} {a b : List α} {i : Nat} {x y : α} (h1 : a[i]? = some x) (h2 : b[i]? = some y) (h : x = y) (h3 : a.take i = b.take i) : a.take (i + 1) = b.take (i + 1) := by
 rw [List.take_add_one, List.take_add_one, h1, h2, h3, h]
theorem lm_of {x y : Lm} (h : x.acc = y.acc ∧ x.sym = y.sym ∧ x.long = y.long ∧ x.short = y.short ∧ x.qty = y.qty ∧ x.value = y.value) : x = y := by
 cases x; cases y; simp only at h; obtain ⟨rfl, rfl, rfl, rfl, rfl, rfl⟩ := h; rfl
theorem lm_ne {x y : Lm} (h : x.acc = y.acc → x.sym = y.sym → x.long = y.long → x.short = y.short → x.qty = y.qty → ¬ x.value = y.value) : x ≠ y := by
 rintro rfl; exact h rfl rfl rfl rfl rfl rfl
section
variable {l : List Od} {acc sym : Bs} {j : Nat} {o : Od} {u : Ws}
end
set_option maxHeartbeats 4000000 in
set_option maxRecDepth 8000 in
theorem r17same_c (p q : List Lm) (hl : p.length ≤ 9223372036854775807) : ACalls E 93 [lmsV p, lmsV q] (fun r t => r = bl (decide (p = q)) ∧ t = []) := by
 refine ACalls.of_awp (n := 26) (rs := [.tmp 4]) Tryz.func93 rfl Tryz.ntmps93 rfl ?_
 repeat' (first
 | refine AWP.seqk fun K hK => ?_
 | (
  refine AWP.here 6 17 9 rfl ?_
  obtain ⟨x, hx⟩ : ∃ x, p[i]? = some x := ⟨_, List.getElem?_eq_getElem (by omega)⟩
  obtain ⟨y, hy⟩ : ∃ y, q[i]? = some y := ⟨_, List.getElem?_eq_getElem (by omega)⟩
  refine AWP.regionO [0, 1, 2, 3, 4, 5, 6, 7, 8] [] (by kernel_rfl) (by kernel_rfl) rfl ?_; simp only [go_sem])
 | (refine AWP.region ?_; simp only [go_sem])
 | (refine hK _ ?_; clear hK K)
 | refine AWP.block ?_
 | refine AWP.cond rfl (fun c => ?_) (fun c => ?_) <;> first | (try simp only [dD] at c)
 | refine AWP.skip ?_
 | (refine AWP.exit ?_; simp only [go_sem])
 | (refine AGet.haveM (by assumption) ?_; (try simp only [go_sem]))
 | ((first | with_reducible refine And.intro ?_ ?_); (focus (first | (simp; done) | fail)); (try simp only [hb, go_sem]))
 | (
  refine AWP.here 4 11 4 rfl ?_
  refine AWP.loopN (ι := Nat) [4, 11, 12, 13, 14, 15, 16, 17, 18, 19, 20, 21, 22, 23, 24, 25] (fun (i : Nat) => [(5, i64 i)]) (fun (i : Nat) => i ≤ p.length ∧ p.length = q.length ∧ p.take i = q.take i) (fun (i : Nat) => p.length - i) (0) ?_ ?_ ?_
  · (try simp only [go_sem]); (repeat' (first | fail)); done
  · exact ⟨by omega, by omega, by simp⟩
  rintro i ⟨h1, h2, h3⟩
  simp only [go_sem])
 | (
  refine ⟨i + 1, ?_, ?_, ?_⟩
  · (try simp only [go_sem]); (try rw [wrap64_id (by omega) (by omega)]); (repeat' (first | exact .inr rfl | fail)); done
  · exact ⟨by omega, by omega, eq_nextL hx hy (by simpa using lm_of (by assumption)) h3⟩
  · (try simp only []); omega)
 | (
  refine AWP.ret ?_
  refine AEnd.is ?_; simp only [go_sem, out_v, out_s, out_n, v_int, v_bool, v_str] <;> (first | (rw [eq_noL1 (by omega)]; done) | (rw [eq_noL2 hx hy (lm_ne (by assumption))]; done) | (rw [eq_yesL h2 (by omega) h3]; done) | fail))
 | refine AWP.fin (by assumption) ?_
 | fail)
set_option maxHeartbeats 4000000 in
set_option maxRecDepth 8000 in
theorem r17short_c (l : List Lm) : ACalls E 43 [lmsV l] (fun r t => r = bl (decide (l.length ≤ 40) && l.all (fun x : Lm => decide (x.acc.length ≤ 100) && decide (x.sym.length ≤ 100))) ∧ t = []) := by
 refine ACalls.of_awp (n := 29) (rs := [.tmp 2]) Tryz.func43 rfl Tryz.ntmps43 rfl ?_
 repeat' (first
 | refine AWP.seqk fun K hK => ?_
 | (refine AWP.region ?_; simp only [go_sem])
 | (refine hK _ ?_; clear hK K)
 | refine AWP.block ?_
 | refine AWP.cond rfl (fun c => ?_) (fun c => ?_) <;> first | exact Bool.noConfusion c | (try simp only [dD] at c)
 | refine AWP.skip ?_
 | (refine AWP.exit ?_; simp only [go_sem])
 | (refine AGuard.splitN (fun h => ?_) (fun h => ?_) <;> simp only [h, go_sem] <;> (try simp only [dD] at h))
 | (refine AGet.haveM (by assumption) ?_; (try simp only [go_sem]))
 | ((first | refine AGet.nth ?_ (fun b hb => ?_) | with_reducible refine And.intro ?_ ?_); (focus (first | omega | (simp; done) | fail)); (try simp only [hb, go_sem]))
 | (
  refine AWP.here 4 7 4 rfl ?_
  refine AWP.loopN (ι := Nat) [2, 7, 8, 9, 10, 11, 12, 13, 14, 15, 16, 17, 18, 19, 20, 21, 22, 23, 24, 25, 26, 27, 28] (fun (i : Nat) => [(3, i64 i)]) (fun (i : Nat) => i ≤ l.length ∧ l.length ≤ 40 ∧ (l.take i).all (fun x : Lm => decide (x.acc.length ≤ 100) && decide (x.sym.length ≤ 100)) = true) (fun (i : Nat) => l.length - i) (0) ?_ ?_ ?_
  · (try simp only [go_sem]); (repeat' (first | fail)); done
  · exact ⟨Nat.zero_le _, by omega, by simp⟩
  rintro i ⟨h1, h2, h3⟩
  simp only [go_sem])
 | (
  refine ⟨i + 1, ?_, ?_, ?_⟩
  · (try simp only [go_sem]); (try rw [wrap64_id (by omega) (by omega)]); (repeat' (first | exact .inr rfl | fail)); done
  · exact ⟨by omega, h2, all_take hb h3 (by simp; omega)⟩
  · (try simp only []); omega)
 | (
  refine AWP.ret ?_
  refine AEnd.is ?_; simp only [go_sem, out_v, out_s, out_n, v_int, v_bool, v_str] <;> (first
  | (rw [decide_eq_false (by omega)]; rfl)
  | (rw [all_no hb (by simp; omega), Bool.and_false]; done)
  | (rw [List.take_of_length_le (by omega)] at h3; rw [h3, decide_eq_true (by omega)]; rfl)
  | fail))
 | refine AWP.fin (by assumption) ?_
 | fail)
end Go.Proofs.YtajeeghgiilhiaaGreat
end
section
namespace Go.Bk
open Go Go.Abs
structure Ac where
 kind : Int
 venue : Int
 ord : Od
 id : Bs
 ex : Ex
 more : Int
 on : Bool
 lim : Lm
def okAc (a : Ac) : Prop := 0 ≤ a.kind ∧ a.kind < 256 ∧ 0 ≤ a.more ∧ a.more < 256
def shortO (l : List Od) : Bool := decide (l.length ≤ 80) && l.all (fun o : Od => decide (o.id.length ≤ 100) && decide (o.acc.length ≤ 100) && decide (o.sym.length ≤ 100))
def shortL (l : List Lm) : Bool := decide (l.length ≤ 40) && l.all (fun x : Lm => decide (x.acc.length ≤ 100) && decide (x.sym.length ≤ 100))
def shortA (a : Ac) : Bool := decide (a.id.length ≤ 100) && shortO [a.ord] && decide (a.ex.ord.length ≤ 300) && shortL [a.lim]
def laterF (now more : Int) : Int := if now < 0 ∨ 4611686018427386904 < now then now else now + more
def doG (g : Gt) (a : Ac) : Gt × Int × Int :=
 if a.kind % 8 = 0 then orderG g a.venue a.ord
 else if a.kind % 8 = 1 then changeG g a.venue a.id a.ord.id a.ord.qty a.ord.price
 else if a.kind % 8 = 2 then toldG g a.venue a.ex
 else if a.kind % 8 = 3 then ((tickG g (laterF g.now a.more)).1, 0, (tickG g (laterF g.now a.more)).2)
 else if a.kind % 8 = 4 then ((killG g a.on).1, 0, (killG g a.on).2)
 else if a.kind % 8 = 5 then ((gapG g a.venue a.on).1, 0, (gapG g a.venue a.on).2)
 else if a.kind % 8 = 6 then ((resetG g a.venue).1, 0, (resetG g a.venue).2)
 else ((limitG g a.lim).1, 0, (limitG g a.lim).2)
theorem do_0 {g : Gt} {a : Ac} (h : a.kind % 8 = 0) : doG g a = orderG g a.venue a.ord := if_pos h
theorem do_1 {g : Gt} {a : Ac} (h : a.kind % 8 = 1) : doG g a = changeG g a.venue a.id a.ord.id a.ord.qty a.ord.price := by unfold doG; rw [h]; rfl
theorem do_2 {g : Gt} {a : Ac} (h : a.kind % 8 = 2) : doG g a = toldG g a.venue a.ex := by unfold doG; rw [h]; rfl
theorem do_3 {g : Gt} {a : Ac} (h : a.kind % 8 = 3) : doG g a = ((tickG g (laterF g.now a.more)).1, 0, (tickG g (laterF g.now a.more)).2) := by unfold doG; rw [h]; rfl
theorem do_4 {g : Gt} {a : Ac} (h : a.kind % 8 = 4) : doG g a = ((killG g a.on).1, 0, (killG g a.on).2) := by unfold doG; rw [h]; rfl
theorem do_5 {g : Gt} {a : Ac} (h : a.kind % 8 = 5) : doG g a = ((gapG g a.venue a.on).1, 0, (gapG g a.venue a.on).2) := by unfold doG; rw [h]; rfl
theorem do_6 {g : Gt} {a : Ac} (h : a.kind % 8 = 6) : doG g a = ((resetG g a.venue).1, 0, (resetG g a.venue).2) := by unfold doG; rw [h]; rfl
theorem do_7 {g : Gt} {a : Ac} (h : a.kind % 8 = 7) : doG g a = ((limitG g a.lim).1, 0, (limitG g a.lim).2) := by unfold doG; rw [h]; rfl
theorem do_right {g : Gt} {a : Ac} (h : rightG g = true) : rightG (doG g a).1 = true := by
 unfold doG
 split; exact order_right h
 split; exact change_right h
 split; exact told_right h
 split; exact tick_right h
 split; exact kill_right h
 split; exact gap_right h
 split; exact reset_right h
 exact limit_right h
theorem right_sm {g : Gt} (h : rightG g = true) : GtSm g := by
 obtain ⟨h1, h2, h3, h4, h5, h6⟩ := right_lens h
 refine ⟨by omega, by have := (rightL_iff.1 h3).1; omega, fun v hv => ?_⟩
 obtain ⟨f1, f2, f3, f4, f5, f6⟩ := rightV_facts (h6 v hv)
 obtain ⟨⟨a1, a2, a3, _⟩, _⟩ := rightBk_iff.1 f1
 exact ⟨by omega, by omega, by omega, by omega⟩
section
variable {g : Gt} {k : Nat} {o : Od} {v : Vn}
theorem at_yes (h : rightG g = true) (hx : g.venues[k]? = some v) : isAtB g (k : Int) = true := by
 have := get_lt hx
 rw [isAt_eq (by omega) (by omega)]; exact h
theorem order_cases (h : rightG g = true) (hx : g.venues[k]? = some v) :
   (orderG g (k : Int) o = (g, 0, 1) ∨ orderG g (k : Int) o = (g, 0, 7)) ∨ (¬ whyG g v (openO o) = 0 ∧ orderG g (k : Int) o = (g, whyG g v (openO o), 0)) ∨
   (whyG g v (openO o) = 0 ∧ orderG g (k : Int) o = (withG g k (sendV v (openO o)), 0, 0)) := by
 have hi := at_yes h hx
 cases hm : mayB (openO o) with
 | false => exact .inl (.inl (order_may hm))
 | true =>
   cases hk : knownB v o.id with
   | true => exact .inl (.inr (order_twice hi hm hx hk))
   | false =>
     by_cases hw : whyG g v (openO o) = 0
     · exact .inr (.inr ⟨hw, order_in hi hm hx hk hw⟩)
     · exact .inr (.inl ⟨hw, order_why hi hm hx hk hw⟩)
theorem why_shut (h : g.kill = true ∨ ¬ stateV v g.now g.pat = 0) : whyG g v o = if g.kill then 8 else 16 + stateV v g.now g.pat := by
 unfold whyG
 cases hk : g.kill with
 | true => rfl
 | false =>
   rw [hk] at h
   simp only [Bool.false_eq_true, false_or, if_false] at h ⊢
   rw [if_pos h]
theorem why_well (h : g.kill = false) (h2 : stateV v g.now g.pat = 0) : whyG g v (openO o) = whyL g.limits o (worstG g o.acc o.sym) := by
 unfold whyG
 rw [h, h2]
 rfl
theorem sent_there (h : rightG g = true) (hx : g.venues[k]? = some v) (hr : rightG (withG g k (sendV v (openO o))) = true) : cancelG (withG g k (sendV v (openO o))) (k : Int) o.id = (true, 0) := by
 have hlt := get_lt hx
 have hx' : (withG g k (sendV v (openO o))).venues[k]? = some (sendV v (openO o)) := by
   show (g.venues.set k _)[k]? = _
   rw [List.getElem?_set_self hlt]
 rw [cancel_yes (at_yes hr hx') hx']
 have e : openB (sendV v (openO o)).sent o.id = true := by
   unfold openB sendV
   rw [List.any_append]
   simp [openO]
 rw [e, Bool.or_true]
end
end Go.Bk
end
section
namespace Go.Proofs.YtajeeghgiilhiaaGreat
open Go Go.Abs Go.RowKit Go.Bk
abbrev acV (a : Ac) : AV := .agg [.v (.int .u8 a.kind), i64 a.venue, str a.ord.id, str a.ord.acc, str a.ord.sym, bl a.ord.buy, i64 a.ord.qty, i64 a.ord.price, i64 a.ord.done, bl a.ord.opn, str a.id, str a.ex.id, str a.ex.ref, str a.ex.ord, str a.ex.acc, str a.ex.sym, i64 a.ex.kind, bl a.ex.buy, i64 a.ex.qty, i64 a.ex.price, i64 a.ex.time, .v (.int .u8 a.more), bl a.on, str a.lim.acc, str a.lim.sym, i64 a.lim.long, i64 a.lim.short, i64 a.lim.qty, i64 a.lim.value]
abbrev acsV (l : List Ac) : AV := .sl none 29 (l.map acV)
theorem shortO_c (l : List Od) : ACalls E 32 [odsV l] (fun r t => r = bl (shortO l) ∧ t = []) := r11short_c l
theorem shortL_c (l : List Lm) : ACalls E 43 [lmsV l] (fun r t => r = bl (shortL l) ∧ t = []) := r17short_c l
theorem glimitA_c (g : Gt) (x : Lm) (hg : GtSm g) : ACalls E 28 [gtV g, lmV x] (fun r t => r = .tup [gtV (limitG g x).1, i64 (limitG g x).2] ∧ t = []) := glimit_c g x hg (lset_c g.limits x hg.2.1)
set_option maxHeartbeats 4000000 in
set_option maxRecDepth 8000 in
theorem short_c (a : Ac) : ACalls E 33 [acV a] (fun r t => r = bl (shortA a) ∧ t = []) := by
 refine ACalls.of_awp (n := 26) (rs := [.tmp 2]) Tryz.func33 rfl Tryz.ntmps33 rfl ?_
 repeat' (first
 | refine AWP.seqk fun K hK => ?_
 | (refine AWP.region ?_; simp only [go_sem])
 | (refine hK _ ?_; clear hK K)
 | (refine ACall.one (shortO_c [a.ord]) (by kernel_rfl) rfl ?_; simp only [go_sem])
 | (refine ACall.one (shortL_c [a.lim]) (by kernel_rfl) rfl ?_; simp only [go_sem])
 | (refine AGuard.split (fun h => ?_) (fun h => ?_) <;> simp only [h, go_sem] <;> (try simp only [dD] at h))
 | (
  refine AWP.ret ?_
  refine AEnd.is ?_; simp only [go_sem, out_v, out_s, out_n, v_int, v_bool, v_str] <;> (first | (unfold shortA; rw [decide_eq_true (p := a.id.length ≤ 100) (by omega), ‹shortO [a.ord] = true›, decide_eq_true (p := a.ex.ord.length ≤ 300) (by omega)]; rfl) | (unfold shortA; rw [decide_eq_false (p := a.ex.ord.length ≤ 300) (by omega), Bool.and_false]; rfl) | (unfold shortA; rw [decide_eq_false (p := a.id.length ≤ 100) (by omega)]; rfl) | (simp_all [shortA]; done)))
 | fail)
set_option maxHeartbeats 4000000 in
set_option maxRecDepth 8000 in
theorem later_c (now more : Int) (hm : 0 ≤ more ∧ more < 256) : ACalls E 87 [i64 now, .v (.int .u8 more)] (fun r t => r = i64 (laterF now more) ∧ t = []) := by
 refine ACalls.of_awp (n := 16) (rs := [.tmp 4]) Tryz.func87 rfl Tryz.ntmps87 rfl ?_
 repeat' (first
 | refine AWP.seqk fun K hK => ?_
 | (refine AWP.region ?_; simp only [go_sem])
 | (refine hK _ ?_; clear hK K)
 | refine AWP.cond rfl (fun c => ?_) (fun c => ?_) <;> first | exact Bool.noConfusion c | (try simp only [dD] at c)
 | refine AWP.skip ?_
 | (refine AGuard.splitN (fun h => ?_) (fun h => ?_) <;> simp only [h, go_sem] <;> (try simp only [dD] at h))
 | (
  refine AWP.ret ?_
  refine AEnd.is ?_; simp only [go_sem, out_v, out_s, out_n, v_int, v_bool, v_str] <;> ((unfold laterF); (first | (rw [if_pos (by omega)]; done) | (rw [if_neg (by omega), wrap64_id (x := more) (by omega) (by omega), wrap64_id (by omega) (by omega)]; done) | fail)))
 | fail)
set_option maxHeartbeats 4000000 in
set_option maxRecDepth 8000 in
theorem do0_c (g : Gt) (a : Ac) (hg : GtSm g) (hk : 0 ≤ a.kind) (hm : 0 ≤ a.more ∧ a.more < 256) (hj : a.kind % 8 = 0) : ACalls E 34 [gtV g, acV a] (fun r t => r = .tup [gtV (doG g a).1, i64 (doG g a).2.1, i64 (doG g a).2.2] ∧ t = []) := by
 have hw : a.kind.tmod 8 = 0 := (Int.tmod_eq_emod_of_nonneg hk).trans hj
 refine ACalls.of_awp (n := 105) (rs := [.cell 4 58, .tmp 5, .tmp 6]) Tryz.func34 rfl Tryz.ntmps34 rfl ?_
 repeat' (first
 | refine AWP.seqk fun K hK => ?_
 | (refine AWP.region ?_; simp only [go_sem, hw])
 | (refine hK _ ?_; clear hK K)
 | refine AWP.block ?_
 | refine AWP.cond rfl (fun c => ?_) (fun c => ?_) <;> first | exact Bool.noConfusion c | (try simp only [dD] at c)
 | (refine ACall.one (gorder_c g a.venue a.ord hg) (by kernel_rfl) rfl ?_; simp only [go_sem, hw])
 | (
  refine AWP.ret ?_
  refine AEnd.is ?_; simp only [go_sem, out_v, out_s, out_n, v_int, v_bool, v_str] <;> (simp [do_0 hj]; done))
 | fail)
set_option maxHeartbeats 4000000 in
set_option maxRecDepth 8000 in
theorem do1_c (g : Gt) (a : Ac) (hg : GtSm g) (hk : 0 ≤ a.kind) (hm : 0 ≤ a.more ∧ a.more < 256) (hj : a.kind % 8 = 1) : ACalls E 34 [gtV g, acV a] (fun r t => r = .tup [gtV (doG g a).1, i64 (doG g a).2.1, i64 (doG g a).2.2] ∧ t = []) := by
 have hw : a.kind.tmod 8 = 1 := (Int.tmod_eq_emod_of_nonneg hk).trans hj
 refine ACalls.of_awp (n := 105) (rs := [.cell 4 58, .tmp 5, .tmp 6]) Tryz.func34 rfl Tryz.ntmps34 rfl ?_
 repeat' (first
 | refine AWP.seqk fun K hK => ?_
 | (refine AWP.region ?_; simp only [go_sem, hw])
 | (refine hK _ ?_; clear hK K)
 | refine AWP.block ?_
 | refine AWP.cond rfl (fun c => ?_) (fun c => ?_) <;> first | exact Bool.noConfusion c | (try simp only [dD] at c)
 | (refine ACall.one (gchange_c g a.venue a.id a.ord.id a.ord.qty a.ord.price hg) (by kernel_rfl) rfl ?_; simp only [go_sem, hw])
 | (
  refine AWP.ret ?_
  refine AEnd.is ?_; simp only [go_sem, out_v, out_s, out_n, v_int, v_bool, v_str] <;> (simp [do_1 hj]; done))
 | fail)
set_option maxHeartbeats 4000000 in
set_option maxRecDepth 8000 in
theorem do2_c (g : Gt) (a : Ac) (hg : GtSm g) (hk : 0 ≤ a.kind) (hm : 0 ≤ a.more ∧ a.more < 256) (hj : a.kind % 8 = 2) : ACalls E 34 [gtV g, acV a] (fun r t => r = .tup [gtV (doG g a).1, i64 (doG g a).2.1, i64 (doG g a).2.2] ∧ t = []) := by
 have hw : a.kind.tmod 8 = 2 := (Int.tmod_eq_emod_of_nonneg hk).trans hj
 refine ACalls.of_awp (n := 105) (rs := [.cell 4 58, .tmp 5, .tmp 6]) Tryz.func34 rfl Tryz.ntmps34 rfl ?_
 repeat' (first
 | refine AWP.seqk fun K hK => ?_
 | (refine AWP.region ?_; simp only [go_sem, hw])
 | (refine hK _ ?_; clear hK K)
 | refine AWP.block ?_
 | refine AWP.cond rfl (fun c => ?_) (fun c => ?_) <;> first | exact Bool.noConfusion c | (try simp only [dD] at c)
 | (refine ACall.one (gtold_c g a.venue a.ex hg) (by kernel_rfl) rfl ?_; simp only [go_sem, hw])
 | (
  refine AWP.ret ?_
  refine AEnd.is ?_; simp only [go_sem, out_v, out_s, out_n, v_int, v_bool, v_str] <;> (simp [do_2 hj]; done))
 | fail)
set_option maxHeartbeats 4000000 in
set_option maxRecDepth 8000 in
theorem do3_c (g : Gt) (a : Ac) (hg : GtSm g) (hk : 0 ≤ a.kind) (hm : 0 ≤ a.more ∧ a.more < 256) (hj : a.kind % 8 = 3) : ACalls E 34 [gtV g, acV a] (fun r t => r = .tup [gtV (doG g a).1, i64 (doG g a).2.1, i64 (doG g a).2.2] ∧ t = []) := by
 have hw : a.kind.tmod 8 = 3 := (Int.tmod_eq_emod_of_nonneg hk).trans hj
 refine ACalls.of_awp (n := 105) (rs := [.cell 4 58, .tmp 5, .tmp 6]) Tryz.func34 rfl Tryz.ntmps34 rfl ?_
 repeat' (first
 | refine AWP.seqk fun K hK => ?_
 | (refine AWP.region ?_; simp only [go_sem, hw])
 | (refine AWP.here 11 65 12 rfl ?_; refine AWP.regionO [0, 1, 2, 3, 4, 5, 6, 7, 8, 9, 10, 11] [] (by kernel_rfl) (by kernel_rfl) rfl ?_; simp only [go_sem, hw])
 | (refine hK _ ?_; clear hK K)
 | refine AWP.block ?_
 | refine AWP.cond rfl (fun c => ?_) (fun c => ?_) <;> first | exact Bool.noConfusion c | (try simp only [dD] at c)
 | (refine ACall.one (later_c g.now a.more hm) (by kernel_rfl) rfl ?_; simp only [go_sem, hw])
 | (refine ACall.one (gtick_c g (laterF g.now a.more) hg) (by kernel_rfl) rfl ?_; simp only [go_sem, hw])
 | (
  refine AWP.ret ?_
  refine AEnd.is ?_; simp only [go_sem, out_v, out_s, out_n, v_int, v_bool, v_str] <;> (simp [do_3 hj]; done))
 | fail)
set_option maxHeartbeats 4000000 in
set_option maxRecDepth 8000 in
theorem do4_c (g : Gt) (a : Ac) (hg : GtSm g) (hk : 0 ≤ a.kind) (hm : 0 ≤ a.more ∧ a.more < 256) (hj : a.kind % 8 = 4) : ACalls E 34 [gtV g, acV a] (fun r t => r = .tup [gtV (doG g a).1, i64 (doG g a).2.1, i64 (doG g a).2.2] ∧ t = []) := by
 have hw : a.kind.tmod 8 = 4 := (Int.tmod_eq_emod_of_nonneg hk).trans hj
 refine ACalls.of_awp (n := 105) (rs := [.cell 4 58, .tmp 5, .tmp 6]) Tryz.func34 rfl Tryz.ntmps34 rfl ?_
 repeat' (first
 | refine AWP.seqk fun K hK => ?_
 | (refine AWP.region ?_; simp only [go_sem, hw])
 | (refine hK _ ?_; clear hK K)
 | refine AWP.block ?_
 | refine AWP.cond rfl (fun c => ?_) (fun c => ?_) <;> first | exact Bool.noConfusion c | (try simp only [dD] at c)
 | (refine ACall.one (gkill_c g a.on hg) (by kernel_rfl) rfl ?_; simp only [go_sem, hw])
 | (
  refine AWP.ret ?_
  refine AEnd.is ?_; simp only [go_sem, out_v, out_s, out_n, v_int, v_bool, v_str] <;> (simp [do_4 hj]; done))
 | fail)
set_option maxHeartbeats 4000000 in
set_option maxRecDepth 8000 in
theorem do5_c (g : Gt) (a : Ac) (hg : GtSm g) (hk : 0 ≤ a.kind) (hm : 0 ≤ a.more ∧ a.more < 256) (hj : a.kind % 8 = 5) : ACalls E 34 [gtV g, acV a] (fun r t => r = .tup [gtV (doG g a).1, i64 (doG g a).2.1, i64 (doG g a).2.2] ∧ t = []) := by
 have hw : a.kind.tmod 8 = 5 := (Int.tmod_eq_emod_of_nonneg hk).trans hj
 refine ACalls.of_awp (n := 105) (rs := [.cell 4 58, .tmp 5, .tmp 6]) Tryz.func34 rfl Tryz.ntmps34 rfl ?_
 repeat' (first
 | refine AWP.seqk fun K hK => ?_
 | (refine AWP.region ?_; simp only [go_sem, hw])
 | (refine hK _ ?_; clear hK K)
 | refine AWP.block ?_
 | refine AWP.cond rfl (fun c => ?_) (fun c => ?_) <;> first | exact Bool.noConfusion c | (try simp only [dD] at c)
 | (refine ACall.one (ggap_c g a.venue a.on hg) (by kernel_rfl) rfl ?_; simp only [go_sem, hw])
 | (
  refine AWP.ret ?_
  refine AEnd.is ?_; simp only [go_sem, out_v, out_s, out_n, v_int, v_bool, v_str] <;> (simp [do_5 hj]; done))
 | fail)
set_option maxHeartbeats 4000000 in
set_option maxRecDepth 8000 in
theorem do6_c (g : Gt) (a : Ac) (hg : GtSm g) (hk : 0 ≤ a.kind) (hm : 0 ≤ a.more ∧ a.more < 256) (hj : a.kind % 8 = 6) : ACalls E 34 [gtV g, acV a] (fun r t => r = .tup [gtV (doG g a).1, i64 (doG g a).2.1, i64 (doG g a).2.2] ∧ t = []) := by
 have hw : a.kind.tmod 8 = 6 := (Int.tmod_eq_emod_of_nonneg hk).trans hj
 refine ACalls.of_awp (n := 105) (rs := [.cell 4 58, .tmp 5, .tmp 6]) Tryz.func34 rfl Tryz.ntmps34 rfl ?_
 repeat' (first
 | refine AWP.seqk fun K hK => ?_
 | (refine AWP.region ?_; simp only [go_sem, hw])
 | (refine hK _ ?_; clear hK K)
 | refine AWP.block ?_
 | refine AWP.cond rfl (fun c => ?_) (fun c => ?_) <;> first | exact Bool.noConfusion c | (try simp only [dD] at c)
 | (refine ACall.one (greset_c g a.venue hg) (by kernel_rfl) rfl ?_; simp only [go_sem, hw])
 | (
  refine AWP.ret ?_
  refine AEnd.is ?_; simp only [go_sem, out_v, out_s, out_n, v_int, v_bool, v_str] <;> (simp [do_6 hj]; done))
 | fail)
set_option maxHeartbeats 4000000 in
set_option maxRecDepth 8000 in
theorem do7_c (g : Gt) (a : Ac) (hg : GtSm g) (hk : 0 ≤ a.kind) (hm : 0 ≤ a.more ∧ a.more < 256) (hj : a.kind % 8 = 7) : ACalls E 34 [gtV g, acV a] (fun r t => r = .tup [gtV (doG g a).1, i64 (doG g a).2.1, i64 (doG g a).2.2] ∧ t = []) := by
 have hw : a.kind.tmod 8 = 7 := (Int.tmod_eq_emod_of_nonneg hk).trans hj
 refine ACalls.of_awp (n := 105) (rs := [.cell 4 58, .tmp 5, .tmp 6]) Tryz.func34 rfl Tryz.ntmps34 rfl ?_
 repeat' (first
 | refine AWP.seqk fun K hK => ?_
 | (refine AWP.region ?_; simp only [go_sem, hw])
 | (refine hK _ ?_; clear hK K)
 | refine AWP.block ?_
 | refine AWP.cond rfl (fun c => ?_) (fun c => ?_) <;> first | exact Bool.noConfusion c | (try simp only [dD] at c)
 | (refine ACall.one (glimitA_c g a.lim hg) (by kernel_rfl) rfl ?_; simp only [go_sem, hw])
 | (
  refine AWP.ret ?_
  refine AEnd.is ?_; simp only [go_sem, out_v, out_s, out_n, v_int, v_bool, v_str] <;> (simp [do_7 hj]; done))
 | fail)
end Go.Proofs.YtajeeghgiilhiaaGreat
end
section
namespace Go.Bk
open Go Go.Abs
def Gz : Gt := ⟨[zeroV], [], false, 0, 100⟩
theorem fr_new : newG 1 100 = (Gz, 0) := rfl
section
variable {buy : Bool} {q p f : Int} (hq : 1 ≤ q ∧ q ≤ 1073741824) (hp : 0 ≤ p ∧ p ≤ 999)
end
end Go.Bk
end
section
namespace Go.Proofs.YtajeeghgiilhiaaGreat
open Go Go.Abs Go.RowKit Go.Bk
def worstR (g : Gt) (a s : Bs) : Ws := if rightG g then worstG g a s else (0, 0)
theorem gWorst_r (g : Gt) (a s : Bs) (hg : GtIn g) : ACalls E 31 [gtV g, str a, str s] (fun r t => r = wV (worstR g a s) ∧ t = []) := gWorst_c g a s hg
theorem sm_one {v : Vn} {x : List Lm} {b : Bool} {n p : Int} (h : VnSm v) (hx : x.length ≤ 1000000) : GtSm ⟨[v], x, b, n, p⟩ := by
 refine ⟨by simp, hx, fun w hw => ?_⟩
 simp only [List.mem_singleton] at hw
 subst hw; exact h
def Lw : Lm := ⟨[97], [115], 10, 0, 10, 1000⟩
def Gw0 : Gt := ⟨[zeroV], [Lw], false, 0, 100⟩
abbrev Ow (id : Bs) (q : Int) : Od := ⟨id, [97], [115], true, q, 5, 0, false⟩
def Gw1 : Gt := ⟨[⟨emptyB, [⟨[111], [97], [115], true, 7, 5, 0, true⟩], 0, false⟩], [Lw], false, 0, 100⟩
theorem sm_z : VnSm zeroV := by refine ⟨?_, ?_, ?_, ?_⟩ <;> decide
theorem sm_Gz : GtSm Gz := sm_one sm_z (by decide)
theorem sm_Gw0 : GtSm Gw0 := sm_one sm_z (by decide)
theorem sm_Gw1 : GtSm Gw1 := sm_one (by refine ⟨?_, ?_, ?_, ?_⟩ <;> decide) (by decide)
theorem gnew_k  : ACalls E 27 [i64 1, i64 100] (fun r t => r = .tup [gtV Gz, i64 0] ∧ t = []) := by
 have h := gnew_c 1 100
 rw [fr_new] at h; exact h
theorem glimw_k  : ACalls E 28 [gtV Gz, lmV Lw] (fun r t => r = .tup [gtV Gw0, i64 0] ∧ t = []) := by
 have h := glimit_c Gz Lw sm_Gz (lsetn_c Lw)
 rw [show limitG Gz Lw = (Gw0, 0) from rfl] at h; exact h
theorem gow1_k  : ACalls E 29 [gtV Gw0, i64 0, odV (Ow [111] 7)] (fun r t => r = .tup [gtV Gw1, i64 0, i64 0] ∧ t = []) := by
 have h := gorder_c Gw0 0 (Ow [111] 7) sm_Gw0
 rw [show orderG Gw0 0 (Ow [111] 7) = (Gw1, 0, 0) from rfl] at h; exact h
theorem gow2_k  : ACalls E 29 [gtV Gw1, i64 0, odV (Ow [112] 4)] (fun r t => r = .tup [gtV Gw1, i64 4, i64 0] ∧ t = []) := by
 have h := gorder_c Gw1 0 (Ow [112] 4) sm_Gw1
 rw [show orderG Gw1 0 (Ow [112] 4) = (Gw1, 4, 0) from rfl] at h; exact h
theorem gww_k  : ACalls E 31 [gtV Gw1, str [97], str [115]] (fun r t => r = wV (7, 0) ∧ t = []) := by
 have h := gWorst_r Gw1 [97] [115] sm_Gw1.fit
 rw [show worstR Gw1 [97] [115] = (7, 0) from rfl] at h; exact h
set_option maxHeartbeats 4000000 in
set_option maxRecDepth 8000 in
theorem awake19_c  : ACalls E 26 [] (fun r t => r = bl true ∧ t = []) := by
 refine ACalls.of_awp (n := 65) (rs := [.tmp 0]) Tryz.func26 rfl Tryz.ntmps26 rfl ?_
 repeat' (first
 | refine AWP.seqk fun K hK => ?_
 | (refine AWP.region ?_; simp only [go_sem])
 | (refine hK _ ?_; clear hK K)
 | (refine ACall.one (gnew_k) (by kernel_rfl) rfl ?_; simp only [go_sem])
 | (refine ACall.one (glimw_k) (by kernel_rfl) rfl ?_; simp only [go_sem])
 | (refine ACall.one (gow1_k) (by kernel_rfl) rfl ?_; simp only [go_sem])
 | (refine ACall.one (gow2_k) (by kernel_rfl) rfl ?_; simp only [go_sem])
 | (refine ACall.one (gww_k) (by kernel_rfl) rfl ?_; simp only [go_sem])
 | (
  refine AWP.ret ?_
  refine AEnd.is ?_; simp only [go_sem, out_v, out_s, out_n, v_int, v_bool, v_str] <;> (first | fail))
 | fail)
end Go.Proofs.YtajeeghgiilhiaaGreat
end
section
namespace Go.Proofs.YtajeeghgiilhiaaGreat
open Go Go.Abs Go.RowKit Go.Bk
theorem place_has (l : List Od) (id : Bs) : decide (0 ≤ placeI l id) = hasB l id := by
 unfold placeI placeF hasB
 cases h : l.findIdx? (fun o => decide (o.id = id)) with
 | none =>
   have h2 := List.findIdx?_eq_none_iff.1 h
   symm
   simp only [decide_eq_false_iff_not.2 (by omega : ¬ (0 : Int) ≤ -1)]
   rw [List.any_eq_false]
   exact fun x hx => by simpa using h2 x hx
 | some n =>
   obtain ⟨h1, h2⟩ := List.findIdx?_eq_some_iff_findIdx_eq.1 h
   symm
   simp only [decide_eq_true (Int.natCast_nonneg n)]
   rw [List.any_eq_true]
   refine ⟨l[n], List.getElem_mem h1, ?_⟩
   subst h2
   exact List.findIdx_getElem (w := h1)
theorem has_no {l : List Od} {id : Bs} (h : placeI l id < 0) : hasB l id = false := by rw [← place_has]; exact decide_eq_false (by omega)
end Go.Proofs.YtajeeghgiilhiaaGreat
end
section
namespace Go.Proofs.YtajeeghgiilhiaaGreat
open Go Go.Abs Go.RowKit Go.Bk
end Go.Proofs.YtajeeghgiilhiaaGreat
end
section
namespace Go.Proofs
open Go.Shelf
end Go.Proofs
end
section
namespace Go.Abs
open Go Go.RowKit Go.Sort Go.Proofs Go.Maps
end Go.Abs
end
section
namespace Go.Proofs.YtajeeghgiilhiaaGreat
open Go Go.Abs Go.RowKit Go.Bk
abbrev nmV (x : Bs × Bs) : AV := .agg [str x.1, str x.2]
end Go.Proofs.YtajeeghgiilhiaaGreat
end
section
namespace Go.Proofs.YtajeeghgiilhiaaGreat
open Go Go.Abs Go.RowKit Go.Bk
end Go.Proofs.YtajeeghgiilhiaaGreat
end
section
namespace Go.Proofs.YtajeeghgiilhiaaGreat
open Go Go.Abs Go.RowKit Go.Bk
@[go_sem] theorem ren_nms {σ : Nat → Option Nat} {l : List Nm} {m : Nat} : (l.map nmV ++ spare 2 m).map (AV.ren σ) = l.map nmV ++ spare 2 m := ren_row fun _ => rfl
end Go.Proofs.YtajeeghgiilhiaaGreat
end
section
namespace Go.Proofs.YtajeeghgiilhiaaGreat
open Go Go.Abs Go.RowKit Go.Bk
theorem open_none {l : List Od} {id : Bs} (h : placeI l id < 0) : openB l id = false := by
 have h2 := has_no h
 unfold hasB at h2; unfold openB
 rw [List.any_eq_false] at h2 ⊢
 intro x hx
 have := h2 x hx
 simp at this; simp [this]
theorem merge_bad {ls : List (List Po)} (h : ¬ (mergeF ls).2 = 0) : (mergeF ls).1 = [] := by
 unfold mergeF at h ⊢
 split at h
 · simp at h
 · rename_i h2; rw [if_neg h2]
attribute [local irreducible] allP mergeF
end Go.Proofs.YtajeeghgiilhiaaGreat
end
section
namespace Go.Proofs.YtajeeghgiilhiaaGreat
open Go Go.Abs Go.RowKit Go.Bk
end Go.Proofs.YtajeeghgiilhiaaGreat
end
section
namespace Go.Proofs.YtajeeghgiilhiaaGreat
open Go Go.Abs Go.RowKit Go.Bk
theorem isAt_right {g : Gt} {n : Int} (h : isAtB g n = true) : rightG g = true := by simp only [isAtB, Bool.and_eq_true] at h; exact h.2
section
variable {g : Gt} {k : Nat} {v : Vn} {o : Od} {q : Int}
section
variable {old id : Bs} {p : Int} {m : Nat} (hat : isAtB g (k : Int) = true) (hx : g.venues[k]? = some v) (hb : rightBk v.book = true)
include hat hx hb
end
end
end Go.Proofs.YtajeeghgiilhiaaGreat
end
section
namespace Go.Proofs.YtajeeghgiilhiaaGreat
open Go Go.Abs Go.RowKit Go.Bk
end Go.Proofs.YtajeeghgiilhiaaGreat
end
section
namespace Go.Proofs.YtajeeghgiilhiaaGreat
open Go Go.Abs Go.RowKit Go.Bk
end Go.Proofs.YtajeeghgiilhiaaGreat
end
section
namespace Go.Proofs.YtajeeghgiilhiaaGreat
open Go Go.Abs Go.RowKit Go.Bk
instance decVn : DecidableEq Vn := fun a b => decidable_of_iff (a.book = b.book ∧ a.sent = b.sent ∧ a.last = b.last ∧ a.gap = b.gap) (by cases a; cases b; simp)
instance decGt : DecidableEq Gt := fun a b => decidable_of_iff (a.venues = b.venues ∧ a.limits = b.limits ∧ a.kill = b.kill ∧ a.now = b.now ∧ a.pat = b.pat) (by cases a; cases b; simp)
theorem vn_of {x y : Vn} (h1 : x.book = y.book) (h2 : x.sent = y.sent) (h3 : x.last = y.last) (h4 : x.gap = y.gap) : x = y := by cases x; cases y; simp only at h1 h2 h3 h4; subst h1; subst h2; subst h3; subst h4; rfl
section
variable {a b : Gt}
theorem gt_n1 (h : ¬ a.venues.length = b.venues.length) : decide (a = b) = false := decide_eq_false fun e => h (by rw [e])
theorem gt_n2 (h : ¬ a.limits = b.limits) : decide (a = b) = false := decide_eq_false fun e => h (by rw [e])
theorem gt_n3 (h : ¬ a.kill = b.kill) : decide (a = b) = false := decide_eq_false fun e => h (by rw [e])
theorem gt_n4 (h : ¬ a.now = b.now) : decide (a = b) = false := decide_eq_false fun e => h (by rw [e])
theorem gt_n5 (h : ¬ a.pat = b.pat) : decide (a = b) = false := decide_eq_false fun e => h (by rw [e])
theorem gt_n6 {i : Nat} {x y : Vn} (hx : a.venues[i]? = some x) (hy : b.venues[i]? = some y) (h : ¬ x.book = y.book ∨ ¬ x.sent = y.sent ∨ ¬ x.last = y.last ∨ ¬ x.gap = y.gap) : decide (a = b) = false := decide_eq_false fun e => by
 rw [e, hy] at hx; cases hx; simp at h
theorem gt_y {i : Nat} (h0 : a.venues.length = b.venues.length) (hi : a.venues.length ≤ i) (h : a.venues.take i = b.venues.take i) (h1 : a.limits = b.limits) (h2 : a.kill = b.kill) (h3 : a.now = b.now) (h4 : a.pat = b.pat) : decide (a = b) = true := by
 rw [List.take_of_length_le hi, List.take_of_length_le (by omega)] at h
 apply decide_eq_true
 cases a; cases b; simp only at h h1 h2 h3 h4; subst h; subst h1; subst h2; subst h3; subst h4; rfl
end
set_option maxHeartbeats 8000000 in
set_option maxRecDepth 8000 in
theorem r19same_c (a b : Gt) (ha : GtIn a) : ACalls E 37 [gtV a, gtV b] (fun r t => r = bl (decide (a = b)) ∧ t = []) := by
 have ha1 := ha.1
 have ha2 := ha.2.1
 refine ACalls.of_awp (n := 89) (rs := [.tmp 4]) Tryz.func37 rfl Tryz.ntmps37 rfl ?_
 repeat' (first
 | refine AWP.seqk fun K hK => ?_
 | (
  refine AWP.here 6 51 14 rfl ?_
  obtain ⟨x, hx⟩ : ∃ x, a.venues[i]? = some x := ⟨_, List.getElem?_eq_getElem (by omega)⟩
  obtain ⟨y, hy⟩ : ∃ y, b.venues[i]? = some y := ⟨_, List.getElem?_eq_getElem (by omega)⟩
  have hv := ha.2.2 x (List.mem_of_getElem? hx)
  apply AWP.regionAnyJ (.take 0 (.take 1 (.take 2 (.take 3 (.take 4 (.take 5 (.take 7 (.fork (.alt 6 (.take 8 (.fork (.alt 9 (.take 10 (.take 11 (.take 12 (.take 13 .done)))) (.alt 10 (.fork (.alt 9 (.take 11 (.take 12 (.take 13 .done))) (.alt 11 (.fork (.alt 9 (.take 12 (.take 13 .done)) (.alt 12 (.take 9 (.take 13 .done)) .ends))) .ends))) (.alt 11 (.fork (.alt 9 (.take 10 (.take 12 (.take 13 .done))) (.alt 10 (.fork (.alt 9 (.take 12 (.take 13 .done)) (.alt 12 (.take 9 (.take 13 .done)) .ends))) .ends))) .ends))))) (.alt 10 (.fork (.alt 6 (.take 8 (.fork (.alt 9 (.take 11 (.take 12 (.take 13 .done))) (.alt 11 (.fork (.alt 9 (.take 12 (.take 13 .done)) (.alt 12 (.take 9 (.take 13 .done)) .ends))) .ends)))) (.alt 11 (.fork (.alt 6 (.take 8 (.fork (.alt 9 (.take 12 (.take 13 .done)) (.alt 12 (.take 9 (.take 13 .done)) .ends)))) (.alt 12 (.take 6 (.take 8 (.take 9 (.take 13 .done)))) .ends))) .ends))) (.alt 11 (.fork (.alt 6 (.take 8 (.fork (.alt 9 (.take 10 (.take 12 (.take 13 .done))) (.alt 10 (.fork (.alt 9 (.take 12 (.take 13 .done)) (.alt 12 (.take 9 (.take 13 .done)) .ends))) .ends)))) (.alt 10 (.fork (.alt 6 (.take 8 (.fork (.alt 9 (.take 12 (.take 13 .done)) (.alt 12 (.take 9 (.take 13 .done)) .ends)))) (.alt 12 (.take 6 (.take 8 (.take 9 (.take 13 .done)))) .ends))) .ends))) .ends))))))))))) [[], [0], [], [0, 1, 2], [0, 1, 2, 3], [], [5], [], [5, 6, 7], [5, 6, 7, 8], [], [], [0, 1, 2, 3, 4, 10, 11], [0, 1, 2, 3, 4, 5, 6, 7, 8, 9, 10, 11, 12]] [6, 7] (by kernel_rfl) (by kernel_rfl) (by decide); simp only [go_sem])
 | (refine AWP.region ?_; simp only [go_sem])
 | (refine hK _ ?_; clear hK K)
 | refine AWP.block ?_
 | refine AWP.cond rfl (fun c => ?_) (fun c => ?_) <;> first | exact Bool.noConfusion c | (try simp only [dD] at c)
 | refine AWP.skip ?_
 | (refine AWP.exit ?_; simp only [go_sem])
 | (refine ACall.one (r17same_c a.limits b.limits ha2) (by kernel_rfl) rfl ?_; simp only [go_sem])
 | (refine ACall.one (r12same_c x.book y.book hv.1 hv.2.1 hv.2.2.1) (by kernel_rfl) rfl ?_; simp only [go_sem])
 | (refine ACall.one (r11same_c x.sent y.sent hv.2.2.2) (by kernel_rfl) rfl ?_; simp only [go_sem])
 | (refine AGuard.split (fun h => ?_) (fun h => ?_) <;> simp only [h, go_sem] <;> (try simp only [dD] at h))
 | (refine AGet.haveM (by assumption) ?_; (try simp only [go_sem]))
 | ((first | with_reducible refine And.intro ?_ ?_); (focus (first | (simp; done) | fail)); (try simp only [hb, go_sem]))
 | exact rfl
 | (
  refine AWP.here 4 44 5 rfl ?_
  refine AWP.loopM (ι := Nat) [4, 6, 7, 44, 45, 46, 47, 48, 49, 50, 51, 52, 53, 54, 55, 56, 57, 58, 59, 60, 61, 62, 63, 64, 65, 66, 67, 68, 69, 70, 71, 72, 73, 74, 75, 76, 77, 78, 79, 80, 81, 82, 83, 84, 85, 86, 87, 88] (fun (i : Nat) => [(5, i64 i)]) (fun (i : Nat) => [some [.agg [vnsV a.venues, lmsV a.limits, bl a.kill, i64 a.now, i64 a.pat]], some [.agg [vnsV b.venues, lmsV b.limits, bl b.kill, i64 b.now, i64 b.pat]]]) (fun (i : Nat) => []) (fun (i : Nat) => i ≤ a.venues.length ∧ a.venues.length = b.venues.length ∧ a.venues.take i = b.venues.take i) (fun (i : Nat) => a.venues.length - i) (0) ?_ ?_ ?_
  · (try simp only [go_sem]); (repeat' (first | refine And.intro ?_ ?_ | exact .inr (oblA rfl) | fail)); done
  · exact ⟨by omega, by omega, by simp⟩
  rintro i ⟨h1, h2, h3⟩
  simp only [go_sem]
  have hlim : a.limits = b.limits := (by assumption)
  have hkil : a.kill = b.kill := (by assumption)
  have hnow : a.now = b.now := (by assumption)
  have hpat : a.pat = b.pat := (by assumption))
 | (
  refine ⟨i + 1, ?_, ?_, ?_⟩
  · (try simp only [go_sem]); (try rw [wrap64_id (by omega) (by omega)]); (repeat' (first | refine And.intro ?_ ?_ | exact .inr rfl | exact .inr (oblA rfl) | fail)); done
  · exact ⟨by omega, by omega, eq_nextL hx hy (vn_of (by assumption) (by assumption) (by assumption) (by assumption)) h3⟩
  · (try simp only []); omega)
 | (
  refine AWP.ret ?_
  refine AEnd.is ?_; simp only [go_sem, out_v, out_s, out_n, v_int, v_bool, v_str] <;> (try ((first | (rw [gt_n1 (by omega)]; done) | (rw [gt_n2 (by assumption)]; done) | (rw [gt_n3 (by assumption)]; done) | (rw [gt_n4 (by assumption)]; done) | (rw [gt_n5 (by assumption)]; done) | (rw [gt_n6 hx hy (.inl (by assumption))]; done) | (rw [gt_n6 hx hy (.inr (.inl (by assumption)))]; done) | (rw [gt_n6 hx hy (.inr (.inr (.inl (by assumption))))]; done) | (rw [gt_n6 hx hy (.inr (.inr (.inr (by assumption))))]; done) | (rw [gt_y h2 (by omega) h3 hlim hkil hnow hpat]; done) | fail))))
 | refine AWP.fin (by assumption) ?_
 | fail)
end Go.Proofs.YtajeeghgiilhiaaGreat
end
section
namespace Go.Proofs.YtajeeghgiilhiaaGreat
open Go Go.Abs Go.RowKit Go.Bk
theorem do_c (g : Gt) (a : Ac) (hg : GtSm g) (ha : okAc a) : ACalls E 34 [gtV g, acV a] (fun r t => r = .tup [gtV (doG g a).1, i64 (doG g a).2.1, i64 (doG g a).2.2] ∧ t = []) := by
 obtain ⟨h1, h2, h3, h4⟩ := ha
 have h : a.kind % 8 = 0 ∨ a.kind % 8 = 1 ∨ a.kind % 8 = 2 ∨ a.kind % 8 = 3 ∨ a.kind % 8 = 4 ∨ a.kind % 8 = 5 ∨ a.kind % 8 = 6 ∨ a.kind % 8 = 7 := by omega
 rcases h with h | h | h | h | h | h | h | h
 · exact do0_c g a hg h1 ⟨h3, h4⟩ h
 · exact do1_c g a hg h1 ⟨h3, h4⟩ h
 · exact do2_c g a hg h1 ⟨h3, h4⟩ h
 · exact do3_c g a hg h1 ⟨h3, h4⟩ h
 · exact do4_c g a hg h1 ⟨h3, h4⟩ h
 · exact do5_c g a hg h1 ⟨h3, h4⟩ h
 · exact do6_c g a hg h1 ⟨h3, h4⟩ h
 · exact do7_c g a hg h1 ⟨h3, h4⟩ h
section
variable {g : Gt} {k : Nat} {o : Od} {v : Vn}
theorem st_k (h : rightG g = true) (hx : g.venues[k]? = some v) : ACalls E 35 [gtV g, i64 (k : Int)] (fun r t => r = .tup [i64 (stateV v g.now g.pat), i64 0] ∧ t = []) := by
 have e := gstands_c g k (right_sm h).fit
 rw [stands_yes (at_yes h hx) hx] at e; exact e
theorem ca_k (h : rightG g = true) (hx : g.venues[k]? = some v) : ACalls E 36 [gtV g, i64 (k : Int), str o.id] (fun r t => r = .tup [bl (openB v.book.orders o.id || openB v.sent o.id), i64 0] ∧ t = []) := by
 have e := gcancel_c g k o.id (right_sm h).fit
 rw [cancel_yes (at_yes h hx) hx] at e; exact e
theorem cs_k (h : rightG g = true) (hx : g.venues[k]? = some v) (h3 : orderG g (k : Int) o = (withG g k (sendV v (openO o)), 0, 0)) : ACalls E 36 [gtV (withG g k (sendV v (openO o))), i64 (k : Int), str o.id] (fun r t => r = .tup [bl true, i64 0] ∧ t = []) := by
 have hr : rightG (withG g k (sendV v (openO o))) = true := by
   have := order_right (n := (k : Int)) (o := o) h
   rw [h3] at this; exact this
 have e := gcancel_c (withG g k (sendV v (openO o))) k o.id (right_sm hr).fit
 rw [sent_there h hx hr] at e; exact e
theorem ca_f (h : rightG g = true) (hx : g.venues[k]? = some v) (hk : g.kill = false) : ACalls E 36 [.agg [vnsV g.venues, lmsV g.limits, bl false, i64 g.now, i64 g.pat], i64 (k : Int), str o.id] (fun r t => r = .tup [bl (openB v.book.orders o.id || openB v.sent o.id), i64 0] ∧ t = []) := by
 have e := ca_k (o := o) h hx
 rw [show gtV g = .agg [vnsV g.venues, lmsV g.limits, bl false, i64 g.now, i64 g.pat] by rw [← hk]] at e; exact e
theorem cs_f (h : rightG g = true) (hx : g.venues[k]? = some v) (h3 : orderG g (k : Int) o = (withG g k (sendV v (openO o)), 0, 0)) (hk : g.kill = false) : ACalls E 36 [.agg [vnsV (withG g k (sendV v (openO o))).venues, lmsV (withG g k (sendV v (openO o))).limits, bl false, i64 (withG g k (sendV v (openO o))).now, i64 (withG g k (sendV v (openO o))).pat], i64 (k : Int), str o.id] (fun r t => r = .tup [bl true, i64 0] ∧ t = []) := by
 have e := cs_k h hx h3
 rw [show gtV (withG g k (sendV v (openO o))) = .agg [vnsV (withG g k (sendV v (openO o))).venues, lmsV (withG g k (sendV v (openO o))).limits, bl false, i64 (withG g k (sendV v (openO o))).now, i64 (withG g k (sendV v (openO o))).pat] by rw [← hk]; rfl] at e; exact e
theorem sm_k (h : rightG g = true) : ACalls E 37 [gtV g, gtV g] (fun r t => r = bl true ∧ t = []) := by
 have e := r19same_c g g (right_sm h).fit
 rw [decide_eq_true rfl] at e; exact e
theorem wo_k (h : rightG g = true) : ACalls E 31 [gtV g, str o.acc, str o.sym] (fun r t => r = wV (worstG g o.acc o.sym) ∧ t = []) := by
 have e := gWorst_r g o.acc o.sym (right_sm h).fit
 unfold worstR at e
 rw [if_pos h] at e; exact e
end
set_option maxHeartbeats 4000000 in
set_option maxRecDepth 8000 in
theorem shuts_c (z : Int) (lims : List Lm) (l : List Ac) (o : Od) (q : Int) (hz : 0 ≤ z ∧ z < 256) (hq : 0 ≤ q ∧ q < 256) (hl : ∀ a ∈ l, okAc a) : ACalls E 5 [.v (.int .u8 z), lmsV lims, acsV l, odV o, .v (.int .u8 q)] (fun r t => r = bl true ∧ t = []) := by
 have hz1 : IntKind.i64.wrap (IntKind.i64.wrap (z.tmod 4) + 1) = z % 4 + 1 := by
   rw [Int.tmod_eq_emod_of_nonneg hz.1, wrap64_id (x := z % 4) (by omega) (by omega), wrap64_id (by omega) (by omega)]
 have hwq : IntKind.i64.wrap q = q := wrap64_id (by omega) (by omega)
 have hn1 : 1 ≤ z % 4 + 1 ∧ z % 4 + 1 ≤ 4 := by omega
 have hnr : rightG (newG (z % 4 + 1) 20).1 = true := new_right hn1.1 hn1.2 (by decide)
 have hne : (newG (z % 4 + 1) 20).2 = 0 := by rw [new_yes hn1.1 hn1.2 (by decide)]
 refine ACalls.of_awp (n := 202) (rs := [.tmp 10]) Tryz.func5 rfl Tryz.ntmps5 rfl ?_
 repeat' (first
 | refine AWP.seqk fun K hK => ?_
 | (
  refine AWP.here 15 89 7 rfl ?_
  have hlen := (right_lens hgr).1
  obtain ⟨k, hk1, hk2⟩ : ∃ k : Nat, q.tmod (g.venues.length : Int) = (k : Int) ∧ k < g.venues.length := ⟨(q % (g.venues.length : Int)).toNat, by rw [Int.tmod_eq_emod_of_nonneg hq.1, Int.toNat_of_nonneg (Int.emod_nonneg _ (by omega))], by have := Int.emod_lt_of_pos q (show (0 : Int) < g.venues.length by omega); have := Int.emod_nonneg q (show (g.venues.length : Int) ≠ 0 by omega); omega⟩
  obtain ⟨v, hx⟩ : ∃ v, g.venues[k]? = some v := ⟨_, List.getElem?_eq_getElem hk2⟩
  have hwk : IntKind.i64.wrap (k : Int) = k := wrap64_id (by have := (right_lens hgr).2.1; omega) (by have := (right_lens hgr).2.1; omega)
  refine AWP.region ?_; simp only [go_sem, hz1, hwq, hne, hk1, hwk])
 | (
  refine AWP.here 24 138 18 rfl ?_
  have hs16 := stateV_rng v g.now g.pat
  have hw16 : IntKind.i64.wrap (16 + stateV v g.now g.pat) = 16 + stateV v g.now g.pat := wrap64_id (by omega) (by omega)
  have hws := why_shut (o := openO o) (v := v) (g := g)
  refine AWP.region ?_; simp only [go_sem, hz1, hwq, hne, hw16])
 | (
  refine AWP.here 26 165 24 rfl ?_
  have hsl : v.sent.length ≤ 64 := by have := (rightV_facts ((right_lens hgr).2.2.2.2.2 v (List.mem_of_getElem? hx))).2.2.1; omega
  have hwl : IntKind.i64.wrap ((v.sent.length : Int) + 1) = (v.sent.length : Int) + 1 := wrap64_id (by omega) (by omega)
  have hwx : (withG g k (sendV v (openO o))).venues[k]? = some (sendV v (openO o)) := List.getElem?_set_self hk2
  have hsl2 : (sendV v (openO o)).sent.length = v.sent.length + 1 := by simp [sendV]
  refine AWP.regionAs [0, 1, 2, 3, 4, 5, 6, 7, 8, 9, 10, 11, 12, 13, 14, 15, 16, 17, 18, 19, 20, 21, 22, 23] [[], [], [0, 1], [0, 1, 2], [0, 1, 2, 3], [0, 1, 2, 3, 4], [0, 1, 2, 3], [0, 1, 2, 3, 6], [0, 1, 2, 3], [0, 1, 2, 3, 6, 7, 8], [0, 1, 2, 3, 6, 7, 8, 9], [0, 1, 2, 3, 6, 7, 8, 9, 10], [0, 1, 2, 3, 6, 7, 8, 9, 10, 11], [0, 1, 2, 3], [0, 1, 2, 3, 13], [0, 1, 2, 3], [0, 1, 2, 3, 13, 14, 15], [0, 1, 2, 3, 13, 14, 15, 16], [0, 1, 2, 3, 13, 14, 15, 16, 17], [0, 1, 2, 3, 13, 14, 15, 16, 17, 18], [0, 1, 2, 3, 13, 14, 15, 16, 17, 18, 19], [0, 1, 2, 3, 6, 7, 8, 9, 10, 11, 12, 13, 14, 15, 16, 17, 18, 19, 20], [0, 1, 2, 3, 4, 5, 6, 7, 8, 9, 10, 11, 12, 13, 14, 15, 16, 17, 18, 19, 20, 21], [0, 1, 2, 3, 4, 5, 6, 7, 8, 9, 10, 11, 12, 13, 14, 15, 16, 17, 18, 19, 20, 21, 22]] [] (by kernel_rfl) (by kernel_rfl) (by decide) rfl ?_; simp only [go_sem, hz1, hwq, hne, hwl])
 | (refine AWP.region ?_; simp only [go_sem, hz1, hwq, hne])
 | (refine AWP.here 9 52 10 rfl ?_; refine AWP.regionO [0, 1, 2, 3, 4, 5, 6, 7, 8, 9] [] (by kernel_rfl) (by kernel_rfl) rfl ?_; simp only [go_sem, hz1, hwq, hne])
 | (refine AWP.here 14 80 11 rfl ?_; refine AWP.regionO [0, 1, 2, 3, 4, 5, 6, 7, 8, 9, 10] [] (by kernel_rfl) (by kernel_rfl) rfl ?_; simp only [go_sem, hz1, hwq, hne])
 | (refine AWP.here 25 155 11 rfl ?_; refine AWP.regionO [0, 1, 2, 3, 4, 5, 6, 7, 8, 9, 10] [] (by kernel_rfl) (by kernel_rfl) rfl ?_; simp only [go_sem, hz1, hwq, hne])
 | (refine hK _ ?_; clear hK K)
 | refine AWP.block ?_
 | refine AWP.cond rfl (fun c => ?_) (fun c => ?_) <;> first | exact Bool.noConfusion c | (try simp only [dD] at c)
 | refine AWP.skip ?_
 | (refine AWP.exit ?_; simp only [go_sem, hz1, hwq, hne])
 | (refine ACall.one (awake19_c) (by kernel_rfl) rfl ?_; simp only [go_sem, hz1, hwq, hne])
 | (refine ACall.one (shortO_c [o]) (by kernel_rfl) rfl ?_; simp only [go_sem, hz1, hwq, hne])
 | (refine ACall.one (gnew_c (z % 4 + 1) 20) (by kernel_rfl) rfl ?_; simp only [go_sem, hz1, hwq, hne])
 | (refine ACall.one (glimitA_c g b (right_sm hgr)) (by kernel_rfl) rfl ?_; simp only [go_sem, hz1, hwq, hne])
 | (refine ACall.one (short_c b) (by kernel_rfl) rfl ?_; simp only [go_sem, hz1, hwq, hne])
 | (refine ACall.one (do_c g b (right_sm hgr) (hl b (List.mem_of_getElem? hb))) (by kernel_rfl) rfl ?_; simp only [go_sem, hz1, hwq, hne])
 | (refine ACall.one (st_k hgr hx) (by kernel_rfl) rfl ?_; simp only [go_sem, hz1, hwq, hne])
 | (rcases order_cases (g := g) (k := k) (o := o) (v := v) hgr hx with (h3 | h3) | ⟨h4, h3⟩ | ⟨h4, h3⟩ <;> (have e := gorder_c g k o (right_sm hgr); rw [h3] at e; refine ACall.one e (by kernel_rfl) rfl ?_; simp only [go_sem, hz1, hwq, hne]))
 | (refine ACall.one (ca_k hgr hx) (by kernel_rfl) rfl ?_; simp only [go_sem, hz1, hwq, hne])
 | (refine ACall.one (cs_k hgr hx h3) (by kernel_rfl) rfl ?_; simp only [go_sem, hz1, hwq, hne])
 | (refine ACall.one (ca_f (o := o) hgr hx (by assumption)) (by kernel_rfl) rfl ?_; simp only [go_sem, hz1, hwq, hne])
 | (refine ACall.one (sm_k hgr) (by kernel_rfl) rfl ?_; simp only [go_sem, hz1, hwq, hne])
 | (refine ACall.one (wo_k hgr) (by kernel_rfl) rfl ?_; simp only [go_sem, hz1, hwq, hne])
 | (refine ACall.one (lwhy_c g.limits o _ (right_sm hgr).fit.2.1) (by kernel_rfl) rfl ?_; simp only [go_sem, hz1, hwq, hne])
 | (refine AGuard.splitN (fun h => ?_) (fun h => ?_) <;> simp only [h, go_sem, hz1, hwq, hne] <;> (try simp only [dD] at h))
 | (refine AGuard.split (fun h => ?_) (fun h => ?_) <;> simp only [h, go_sem, hz1, hwq, hne] <;> (try simp only [dD] at h))
 | (refine AGet.haveM (by assumption) ?_; (try simp only [go_sem, hz1, hwq, hne]))
 | ((first | refine AGet.nth ?_ (fun b hb => ?_) | with_reducible refine And.intro ?_ ?_); (focus (first | omega | (simp; done) | fail)); (try simp only [hb, go_sem, hz1, hwq, hne]))
 | (
  refine AWP.here 7 45 4 rfl ?_
  refine AWP.loopM (ι := Nat × Gt) [45, 46, 47, 48, 49, 50, 51, 52, 53, 54, 55, 56, 57, 58, 59] (fun ⟨i, g⟩ => [(13, i64 i)]) (fun ⟨i, g⟩ => [some [odV o], some [gtV g]]) (fun ⟨i, g⟩ => [1]) (fun ⟨i, g⟩ => i ≤ lims.length ∧ rightG g = true) (fun ⟨i, g⟩ => lims.length - i) ((0, (newG (z % 4 + 1) 20).1)) ?_ ?_ ?_
  · (try simp only [go_sem]); (repeat' (first | refine And.intro ?_ ?_ | exact .inr (oblA rfl) | fail)); done
  · exact ⟨by omega, hnr⟩
  rintro ⟨i, g⟩ ⟨g1, hgr⟩
  simp only [go_sem, hz1, hwq, hne])
 | (
  refine AWP.here 11 60 12 rfl ?_
  refine AWP.loopM (ι := Nat × Gt) [60, 61, 62, 63, 64, 65, 66, 67, 68, 69, 70, 71, 72, 73, 74, 75, 76, 77, 78, 79, 80, 81, 82, 83, 84, 85, 86, 87, 88] (fun ⟨i, g⟩ => [(14, i64 i)]) (fun ⟨i, g⟩ => [some [odV o], some [gtV g]]) (fun ⟨i, g⟩ => [1]) (fun ⟨i, g⟩ => i ≤ l.length ∧ rightG g = true) (fun ⟨i, g⟩ => l.length - i) ((0, g)) ?_ ?_ ?_
  · (try simp only [go_sem]); (repeat' (first | refine And.intro ?_ ?_ | exact .inr (oblA rfl) | fail)); done
  · exact ⟨by omega, hgr⟩
  rintro ⟨i, g⟩ ⟨g1, hgr⟩
  simp only [go_sem, hz1, hwq, hne])
 | (
  refine ⟨(i + 1, (limitG g b).1), ?_, ?_, ?_⟩
  · (try simp only [go_sem]); (try rw [wrap64_id (by omega) (by omega)]); (repeat' (first | refine And.intro ?_ ?_ | exact .inr rfl | exact .inr (oblA rfl) | fail)); done
  · exact ⟨by show i + 1 ≤ lims.length; omega, limit_right hgr⟩
  · (try simp only []); omega)
 | (
  first
  | (have hs9 : shortA b = true := (by assumption)
     refine ⟨(i + 1, (doG g b).1), ?_, ⟨by show i + 1 ≤ l.length; omega, do_right hgr⟩, by show l.length - (i + 1) < l.length - i; omega⟩
     (try simp only [go_sem]); (try rw [wrap64_id (by omega) (by omega)]); (repeat' (first | refine And.intro ?_ ?_ | exact .inr rfl | exact .inr (oblA rfl) | fail)); done)
  | (have hs9 : shortA b = false := (by assumption)
     refine ⟨(i + 1, g), ?_, ⟨by show i + 1 ≤ l.length; omega, hgr⟩, by show l.length - (i + 1) < l.length - i; omega⟩
     (try simp only [go_sem]); (try rw [wrap64_id (by omega) (by omega)]); (repeat' (first | refine And.intro ?_ ?_ | exact .inr rfl | exact .inr (oblA rfl) | fail)); done))
 | (
  refine AWP.ret ?_
  refine AEnd.is ?_; simp only [go_sem, out_v, out_s, out_n, v_int, v_bool, v_str] <;> (first | assumption | (exfalso; omega) | (exfalso; have a1 : g.kill = true := (by assumption); have a2 : g.kill = false := (by assumption); rw [a1] at a2; exact Bool.noConfusion a2) | (exfalso; have a1 : g.kill = true := (by assumption); have h9 := hws (.inl a1); rw [if_pos a1] at h9; omega) | (exfalso; have a2 : g.kill = false := (by assumption); have h9 := hws (.inr (by assumption)); rw [if_neg (by rw [a2]; exact Bool.noConfusion)] at h9; omega) | skip))
 | (exfalso; apply c; rw [decide_eq_false h4, decide_eq_false (by rw [hwl]; omega)])
 | (exfalso; apply c; rw [decide_eq_true (by rw [hwl, hsl2]; omega)])
 | (exfalso; exact h (why_well (by assumption) (by assumption)))
 | (exfalso; exact h (h4.symm.trans (why_well (by assumption) (by assumption))))
 | refine AWP.fin (by assumption) ?_
 | fail)
end Go.Proofs.YtajeeghgiilhiaaGreat
end
section
namespace Go.Proofs.YtajeeghgiilhiaaGreat
open Go.ChangeShapes Go.WideShapes Go.ChangeAt Go.RowKit Go.Joins Go.Abs Go.Bk
section
variable {H : Type} {enc : TypeId × Value → H}
variable {w : World} {r : Reach} {b0 base : Nat} {spare : Nat → Bool} {held : Bool} {v : Value} {d : DataW H} {ps : List MemPlace}
theorem list_map {α : Type} {f : α → AV} {Q : α → Prop} : ∀ {es : List AV}, (∀ y ∈ es, ∃ b, Q b ∧ y = f b) → ∃ L : List α, es = L.map f ∧ ∀ b ∈ L, Q b
 | [], _ => ⟨[], rfl, by simp⟩
 | e :: es, h => by
   obtain ⟨b, hb, rfl⟩ := h e (List.mem_cons_self ..)
   obtain ⟨L, rfl, hL⟩ := list_map (es := es) fun y hy => h y (List.mem_cons_of_mem _ hy)
   exact ⟨b :: L, rfl, fun x hx => by rcases List.mem_cons.1 hx with rfl | hx; exact hb; exact hL x hx⟩
theorem c69 : Tryz.prog.cellsOf 69 = 10 := by kernel_rfl
theorem c5 : Tryz.prog.cellsOf 5 = 1 := by kernel_rfl
end
theorem own : ownKnob Tryz.prog.godebug = none := by kernel_rfl
theorem laidOut : laidOutB Tryz.prog = true := by kernel_rfl
end Go.Proofs.YtajeeghgiilhiaaGreat
end
section
namespace Go.Proofs.YtajeeghgiilhiaaGreat
open Go.ChangeShapes Go.WideShapes Go.ChangeAt Go.RowKit Go.Joins Go.Abs Go.Bk
section
variable {H : Type} {enc : TypeId × Value → H}
variable {w : World} {r : Reach} {b0 base : Nat} {spare : Nat → Bool} {held : Bool} {v : Value} {d : DataW H} {ps : List MemPlace}
theorem c65 : Tryz.prog.cellsOf 65 = 8 := by kernel_rfl
theorem c9 : Tryz.prog.cellsOf 9 = 1 := by kernel_rfl
theorem c26 : Tryz.prog.cellsOf 26 = 5 := by kernel_rfl
theorem c4 : Tryz.prog.cellsOf 4 = 1 := by kernel_rfl
end
end Go.Proofs.YtajeeghgiilhiaaGreat
end
section
namespace Go.Proofs.YtajeeghgiilhiaaGreat
open Go.ChangeShapes Go.WideShapes Go.ChangeAt Go.RowKit Go.Joins Go.Abs Go.Bk
theorem u8_wf {n : Int} (h : (Lit.int .u8 n).wf = true) : 0 ≤ n ∧ n < 256 := by
 simp only [Lit.wf, Bool.and_eq_true, decide_eq_true_eq] at h
 simp only [IntKind.min, IntKind.max, IntKind.bits, IntKind.signed] at h
 simp at h
 omega
section
variable {H : Type} {enc : TypeId × Value → H}
variable {w : World} {r : Reach} {b0 base : Nat} {spare : Nat → Bool} {held : Bool} {v : Value} {d : DataW H} {ps : List MemPlace}
theorem c63 : Tryz.prog.cellsOf 63 = 6 := by kernel_rfl
theorem c77 : Tryz.prog.cellsOf 77 = 29 := by kernel_rfl
set_option maxRecDepth 100000 in
theorem arg_u8 (hv : Value.okWide Tryz.prog w r b0 5 v) (hd : DataW.Trod enc Tryz.prog w base spare held 5 v d ps) : ∃ z : Int, (0 ≤ z ∧ z < 256) ∧ VR0 (imOf w) (.v (.int .u8 z)) v := by
 obtain ⟨n, hn, hx⟩ := arg_int Tryz.underlying5 hv hd
 exact ⟨n, u8_wf hn, hx⟩
set_option maxRecDepth 100000 in
theorem arg_order (hv : Value.okWide Tryz.prog w r b0 65 v) (hd : DataW.Trod enc Tryz.prog w base spare held 65 v d ps) : ∃ o : Od, VR0 (imOf w) (odV o) v := by
 obtain ⟨ls, h, hx⟩ := arg_struct Tryz.underlying65 (reads_struct Tryz.underlying65 rfl c65 (readsF_cons (reads_string Tryz.underlying9) (by kernel_rfl) rfl (readsF_cons (reads_string Tryz.underlying9) (by kernel_rfl) rfl (readsF_cons (reads_string Tryz.underlying9) (by kernel_rfl) rfl (readsF_cons (reads_bool Tryz.underlying4) (by kernel_rfl) rfl (readsF_cons (reads_int Tryz.underlying2) (by kernel_rfl) rfl (readsF_cons (reads_int Tryz.underlying2) (by kernel_rfl) rfl (readsF_cons (reads_int Tryz.underlying2) (by kernel_rfl) rfl (readsF_cons (reads_bool Tryz.underlying4) (by kernel_rfl) rfl (readsF_nil 8)))))))))) hv hd
 obtain ⟨_, _, ⟨s0, _, rfl⟩, ⟨_, _, ⟨s1, _, rfl⟩, ⟨_, _, ⟨s2, _, rfl⟩, ⟨_, _, ⟨b3, rfl⟩, ⟨_, _, ⟨n4, _, rfl⟩, ⟨_, _, ⟨n5, _, rfl⟩, ⟨_, _, ⟨n6, _, rfl⟩, ⟨_, _, ⟨b7, rfl⟩, rfl, rfl⟩, rfl⟩, rfl⟩, rfl⟩, rfl⟩, rfl⟩, rfl⟩, rfl⟩ := h
 exact ⟨⟨s0, s1, s2, b3, n4, n5, n6, b7⟩, hx⟩
set_option maxRecDepth 100000 in
theorem arg_lims (hv : Value.okWide Tryz.prog w r b0 56 v) (hd : DataW.Trod enc Tryz.prog w base spare held 56 v d ps) : ∃ l : List Lm, l.length ≤ 9223372036854775807 ∧ VR0 (imOf w) (lmsV l) v := by
 obtain ⟨x, hx, h⟩ := arg_slice true Tryz.underlying56 c63 (by decide) (fun h => by cases h) (reads_struct Tryz.underlying63 rfl c63 (readsF_cons (reads_string Tryz.underlying9) (by kernel_rfl) rfl (readsF_cons (reads_string Tryz.underlying9) (by kernel_rfl) rfl (readsF_cons (reads_int Tryz.underlying2) (by kernel_rfl) rfl (readsF_cons (reads_int Tryz.underlying2) (by kernel_rfl) rfl (readsF_cons (reads_int Tryz.underlying2) (by kernel_rfl) rfl (readsF_cons (reads_int Tryz.underlying2) (by kernel_rfl) rfl (readsF_nil 6)))))))) hv hd
 rcases h with rfl | ⟨es, h1, h2, rfl⟩
 · cases hx; exact ⟨[], by simp, .sl0 6 none 0⟩
 · obtain ⟨L, rfl, hL⟩ := list_map (f := lmV) (Q := fun _ => True) (es := es) (fun y hy => by
     obtain ⟨l, h, rfl⟩ := h2 y hy
     obtain ⟨_, _, ⟨s0, _, rfl⟩, ⟨_, _, ⟨s1, _, rfl⟩, ⟨_, _, ⟨n2, _, rfl⟩, ⟨_, _, ⟨n3, _, rfl⟩, ⟨_, _, ⟨n4, _, rfl⟩, ⟨_, _, ⟨n5, _, rfl⟩, rfl, rfl⟩, rfl⟩, rfl⟩, rfl⟩, rfl⟩, rfl⟩ := h
     exact ⟨⟨s0, s1, n2, n3, n4, n5⟩, trivial, rfl⟩)
   exact ⟨L, by unfold maxLen at h1; simpa using h1, hx⟩
set_option maxRecDepth 100000 in
theorem arg_acts (hv : Value.okWide Tryz.prog w r b0 73 v) (hd : DataW.Trod enc Tryz.prog w base spare held 73 v d ps) : ∃ l : List Ac, (∀ a ∈ l, okAc a) ∧ VR0 (imOf w) (acsV l) v := by
 obtain ⟨x, hx, h⟩ := arg_slice true Tryz.underlying73 c77 (by decide) (fun h => by cases h) (reads_struct Tryz.underlying77 rfl c77 (readsF_cons (reads_int Tryz.underlying5) (by kernel_rfl) rfl (readsF_cons (reads_int Tryz.underlying3) (by kernel_rfl) rfl (readsF_cons (reads_struct Tryz.underlying65 rfl c65 (readsF_cons (reads_string Tryz.underlying9) (by kernel_rfl) rfl (readsF_cons (reads_string Tryz.underlying9) (by kernel_rfl) rfl (readsF_cons (reads_string Tryz.underlying9) (by kernel_rfl) rfl (readsF_cons (reads_bool Tryz.underlying4) (by kernel_rfl) rfl (readsF_cons (reads_int Tryz.underlying2) (by kernel_rfl) rfl (readsF_cons (reads_int Tryz.underlying2) (by kernel_rfl) rfl (readsF_cons (reads_int Tryz.underlying2) (by kernel_rfl) rfl (readsF_cons (reads_bool Tryz.underlying4) (by kernel_rfl) rfl (readsF_nil 8)))))))))) (by kernel_rfl) rfl (readsF_cons (reads_string Tryz.underlying9) (by kernel_rfl) rfl (readsF_cons (reads_struct Tryz.underlying69 rfl c69 (readsF_cons (reads_string Tryz.underlying9) (by kernel_rfl) rfl (readsF_cons (reads_string Tryz.underlying9) (by kernel_rfl) rfl (readsF_cons (reads_string Tryz.underlying9) (by kernel_rfl) rfl (readsF_cons (reads_string Tryz.underlying9) (by kernel_rfl) rfl (readsF_cons (reads_string Tryz.underlying9) (by kernel_rfl) rfl (readsF_cons (reads_int Tryz.underlying3) (by kernel_rfl) rfl (readsF_cons (reads_bool Tryz.underlying4) (by kernel_rfl) rfl (readsF_cons (reads_int Tryz.underlying2) (by kernel_rfl) rfl (readsF_cons (reads_int Tryz.underlying2) (by kernel_rfl) rfl (readsF_cons (reads_int Tryz.underlying2) (by kernel_rfl) rfl (readsF_nil 10)))))))))))) (by kernel_rfl) rfl (readsF_cons (reads_int Tryz.underlying5) (by kernel_rfl) rfl (readsF_cons (reads_bool Tryz.underlying4) (by kernel_rfl) rfl (readsF_cons (reads_struct Tryz.underlying63 rfl c63 (readsF_cons (reads_string Tryz.underlying9) (by kernel_rfl) rfl (readsF_cons (reads_string Tryz.underlying9) (by kernel_rfl) rfl (readsF_cons (reads_int Tryz.underlying2) (by kernel_rfl) rfl (readsF_cons (reads_int Tryz.underlying2) (by kernel_rfl) rfl (readsF_cons (reads_int Tryz.underlying2) (by kernel_rfl) rfl (readsF_cons (reads_int Tryz.underlying2) (by kernel_rfl) rfl (readsF_nil 6)))))))) (by kernel_rfl) rfl (readsF_nil 29)))))))))) hv hd
 rcases h with rfl | ⟨es, h1, h2, rfl⟩
 · cases hx; exact ⟨[], by simp, .sl0 29 none 0⟩
 · obtain ⟨L, rfl, hL⟩ := list_map (f := acV) (Q := okAc) (es := es) (fun y hy => by
     obtain ⟨l, h, rfl⟩ := h2 y hy
     obtain ⟨_, _, ⟨n0, k0, rfl⟩, ⟨_, _, ⟨n1, _, rfl⟩, ⟨_, _, ⟨_, _, ⟨s2, _, rfl⟩, ⟨_, _, ⟨s3, _, rfl⟩, ⟨_, _, ⟨s4, _, rfl⟩, ⟨_, _, ⟨b5, rfl⟩, ⟨_, _, ⟨n6, _, rfl⟩, ⟨_, _, ⟨n7, _, rfl⟩, ⟨_, _, ⟨n8, _, rfl⟩, ⟨_, _, ⟨b9, rfl⟩, rfl, rfl⟩, rfl⟩, rfl⟩, rfl⟩, rfl⟩, rfl⟩, rfl⟩, rfl⟩, ⟨_, _, ⟨s10, _, rfl⟩, ⟨_, _, ⟨_, _, ⟨s11, _, rfl⟩, ⟨_, _, ⟨s12, _, rfl⟩, ⟨_, _, ⟨s13, _, rfl⟩, ⟨_, _, ⟨s14, _, rfl⟩, ⟨_, _, ⟨s15, _, rfl⟩, ⟨_, _, ⟨n16, _, rfl⟩, ⟨_, _, ⟨b17, rfl⟩, ⟨_, _, ⟨n18, _, rfl⟩, ⟨_, _, ⟨n19, _, rfl⟩, ⟨_, _, ⟨n20, _, rfl⟩, rfl, rfl⟩, rfl⟩, rfl⟩, rfl⟩, rfl⟩, rfl⟩, rfl⟩, rfl⟩, rfl⟩, rfl⟩, ⟨_, _, ⟨n21, k21, rfl⟩, ⟨_, _, ⟨b22, rfl⟩, ⟨_, _, ⟨_, _, ⟨s23, _, rfl⟩, ⟨_, _, ⟨s24, _, rfl⟩, ⟨_, _, ⟨n25, _, rfl⟩, ⟨_, _, ⟨n26, _, rfl⟩, ⟨_, _, ⟨n27, _, rfl⟩, ⟨_, _, ⟨n28, _, rfl⟩, rfl, rfl⟩, rfl⟩, rfl⟩, rfl⟩, rfl⟩, rfl⟩, rfl, rfl⟩, rfl⟩, rfl⟩, rfl⟩, rfl⟩, rfl⟩, rfl⟩, rfl⟩ := h
     exact ⟨⟨n0, n1, ⟨s2, s3, s4, b5, n6, n7, n8, b9⟩, s10, ⟨s11, s12, s13, s14, s15, n16, b17, n18, n19, n20⟩, n21, b22, ⟨s23, s24, n25, n26, n27, n28⟩⟩, ⟨(u8_wf k0).1, (u8_wf k0).2, (u8_wf k21).1, (u8_wf k21).2⟩, rfl⟩)
   exact ⟨L, hL, hx⟩
end
end Go.Proofs.YtajeeghgiilhiaaGreat
end
section
namespace Go.Proofs.YtajeeghgiilhiaaGreat
open Go.ChangeShapes Go.WideShapes Go.ChangeAt Go.RowKit Go.Joins Go.Abs Go.Bk
set_option maxRecDepth 100000 in
theorem gateShuts_lifted (os : Os) (started : os.Started) (H : Type) (enc : TypeId × Value → H) :
   ReturnsInHanded {} Tryz.checked os 5 .any (Rows.gateShutsSpec.pre6 enc Tryz.prog Tryz.f5 Rows.gateShutsRow.domain false) (Rows.gateShutsSpec.post enc Tryz.prog Tryz.f5 false true false false) := by
 refine returnsInHanded_of_change (C := Tryz.checked) own started (by kernel_rfl) Tryz.func5
   (ChangeSpec.witness6 (enc := enc) (C := Tryz.checked) false ⟨#[], #[.int .u8 0, .slice none 0 0, .slice none 0 0, .agg #[.string ⟨#[]⟩, .string ⟨#[]⟩, .string ⟨#[]⟩, .bool false, .int .i64 0, .int .i64 0, .int .i64 0, .bool false], .int .u8 0], []⟩ 8 (by kernel_rfl) (by kernel_rfl) (by kernel_rfl) (by kernel_rfl)) ?_
 intro W base args ds gs before hval0 hW hcnd _
 have hval : ∀ (j : Nat) t v, Tryz.f5.params[j]? = some t → args[j]? = some v → Value.okWide Tryz.prog W .any base t v := hval0
 have hW' := hW
 obtain ⟨p, q, hA0, hV, rfl, hfz, hnd⟩ := hW
 have hA : DataW.TrodAll enc Tryz.prog W 0 (fun _ => true) true Tryz.f5.params.toList args.toList ds p := hA0
 rw [Tryz.params5] at hA hval
 obtain ⟨rfl, rfl⟩ := trodVars_none hV
 obtain ⟨v0, vs0, d0, ds0, p0, q0, e0, rfl, rfl, h0, hA⟩ := trodAll_cons hA
 obtain ⟨v1, vs1, d1, ds1, p1, q1, rfl, rfl, rfl, h1, hA⟩ := trodAll_cons hA
 obtain ⟨v2, vs2, d2, ds2, p2, q2, rfl, rfl, rfl, h2, hA⟩ := trodAll_cons hA
 obtain ⟨v3, vs3, d3, ds3, p3, q3, rfl, rfl, rfl, h3, hA⟩ := trodAll_cons hA
 obtain ⟨v4, vs4, d4, ds4, p4, q4, rfl, rfl, rfl, h4, hA⟩ := trodAll_cons hA
 obtain ⟨rfl, rfl, rfl⟩ := trodAll_nil hA
 have hargs : args = #[v0, v1, v2, v3, v4] := by apply Array.ext'; simpa using e0
 subst hargs
 obtain ⟨z, hz, x0⟩ := arg_u8 (hval 0 5 v0 rfl rfl) h0
 obtain ⟨lims, hlims, x1⟩ := arg_lims (hval 1 56 v1 rfl rfl) h1
 obtain ⟨l, hl, x2⟩ := arg_acts (hval 2 73 v2 rfl rfl) h2
 obtain ⟨o, x3⟩ := arg_order (hval 3 65 v3 rfl rfl) h3
 obtain ⟨q, hq, x4⟩ := arg_u8 (hval 4 5 v4 rfl rfl) h4
 exact (calls_law (E := E) trivial (fun g cs e => by simp [E] at e) (shuts_c z lims l o q hz hq hl) (pw0_cons x0 (pw0_cons x1 (pw0_cons x2 (pw0_cons x3 (pw0_cons x4 pw0_nil)))))).mono fun e W' ⟨he, hB⟩ => ⟨_, he, law_post laidOut (by kernel_rfl) rfl rfl Tryz.underlying4 hW' hB rfl⟩
set_option maxRecDepth 100000 in
theorem gateShuts_holds : Rows.GateShutsSaid :=
 OpenClaim.holds_of_wide 5 Tryz.f5 rfl rfl rfl rfl rfl rfl rfl ⟨rfl, rfl, rfl, rfl, rfl⟩ rfl rfl rfl rfl rfl (by kernel_rfl) Tryz.func5 (by kernel_rfl)
   (of_decide_eq_true (by kernel_rfl)) (by unfold Func.isWrapper; first | (rw [if_neg (by decide +kernel)]; exact ⟨rfl, rfl⟩))
   (fun os started H enc _ => gateShuts_lifted os started H enc)
end Go.Proofs.YtajeeghgiilhiaaGreat
end
