/- sync.Mutex, sync.Once and sync/atomic of this program, one goroutine: what each call does. -/
import Derived.Test.YtceiiajacnihjaaProg
import Derived.Tactics
import Derived.Tactics2
import Derived.Defers
import Derived.Laws.Pointers
import Derived.Laws.LoneSync
import Derived.RegionTactic
import Derived.RegionCalls
import Derived.ChangeAlike
import Derived.KernelRfl
namespace Go.Proofs.Ytceiiajacnihjaa
open Go
set_option linter.unusedVariables false
set_option linter.unusedSimpArgs false

theorem disable (w : World) : (callFunc 47 #[]).run Try.prog w = .ok (.value (.tuple #[])) w := run_call_mark0 Try.func47 (by kernel_rfl) (by kernel_rfl) (by kernel_rfl) .disable (by kernel_rfl) w
theorem enable (w : World) : (callFunc 49 #[]).run Try.prog w = .ok (.value (.tuple #[])) w := run_call_mark0 Try.func49 (by kernel_rfl) (by kernel_rfl) (by kernel_rfl) .enable (by kernel_rfl) w
theorem acquire (a : Addr) (w : World) : (callFunc 50 #[.pointer (some a)]).run Try.prog w = .ok (.value (.tuple #[])) w := run_call_marked Try.func50 (by kernel_rfl) (by kernel_rfl) (by kernel_rfl) .acquire (by kernel_rfl) a w
theorem releaseMerge (a : Addr) (w : World) : (callFunc 52 #[.pointer (some a)]).run Try.prog w = .ok (.value (.tuple #[])) w := run_call_marked Try.func52 (by kernel_rfl) (by kernel_rfl) (by kernel_rfl) .releaseMerge (by kernel_rfl) a w

theorem store_deferred (a : Addr) (x : Value) (u : FrameMode) (w : World) (hc : w.cell? a = some x) (hz : w.frozen? a = false) :
    CallsD Try.prog 56 #[.pointer (some a), .bool true] u w fun e u' w' => u' = u ∧ (e = .returned (.tuple #[]) ∧ w' = w.drew.setCell a (.int .u32 1)) := by
  have hc' : w.drew.cell? a = some x := by go_simp
  have hz' : w.drew.frozen? a = false := by go_simp
  have hst := run_call_store (P := Try.prog) Try.func75 (by kernel_rfl) (by kernel_rfl) (by kernel_rfl) (by kernel_rfl) (k := .u32) (y := 1) hc' hz'
  go_enter_d Try.func56, Try.ntmps56
  go_wp2
  go_region_calls
  all_goals (go_end0; exact ⟨rfl, rfl⟩)

set_option maxRecDepth 100000 in
set_option maxHeartbeats 1600000 in
theorem unlock_deferred (a : Addr) (u : FrameMode) (w : World) (hc : w.cell? a = some (.int .i32 1)) (hz : w.frozen? a = false) :
    CallsD Try.prog 26 #[.pointer (some a)] u w fun e u' w' => u' = u ∧ (e = .returned (.tuple #[]) ∧ w' = w.setCell a (.int .i32 0)) := by
  have hd := disable
  have he := enable
  have hr := releaseMerge
  have hadd := run_call_add (P := Try.prog) Try.func53 (by kernel_rfl) (by kernel_rfl) (by kernel_rfl) .i32 (by kernel_rfl) (y := -1) (s := 0) hc hz (by simp [go_sem]; rfl)
  have hcv := run_convert_to_unsafe (P := Try.prog) (src := 95) (dst := 99) Try.underlying95 Try.underlying99 (by kernel_rfl) hc
  go_enter_d Try.func26, Try.ntmps26
  go_wp2
  go_end0
  go_wp2
  go_end0
  exact ⟨rfl, rfl⟩

set_option maxRecDepth 100000 in
set_option maxHeartbeats 1600000 in
theorem lock_free (a : Addr) (w : World) (hc : w.cell? a = some (.int .i32 0)) (hz : w.frozen? a = false) :
    Calls Try.prog 25 #[.pointer (some a)] w fun e w' => e = .returned (.tuple #[]) ∧ w' = w.setCell a (.int .i32 1) := by
  have hd := disable
  have he := enable
  have ha := acquire
  have hcas := run_call_cas_hit (P := Try.prog) Try.func48 (by kernel_rfl) (by kernel_rfl) (by kernel_rfl) .i32 (by kernel_rfl) (y := 1) hc hz
  have hc' : (w.setCell a (.int .i32 1)).cell? a = some (.int .i32 1) := World.cell?_setCell_same w a _ hc
  have hcv := run_convert_to_unsafe (P := Try.prog) (src := 95) (dst := 99) Try.underlying95 Try.underlying99 (by kernel_rfl) hc'
  go_enter Try.func25, Try.ntmps25
  go_wp2
  first | go_end0 | (simp only [Exit.inBlock, Exit.then]; refine bodyPost_ret (results_none rfl _ _ _) rfl ?_) | refine bodyPost_ret (results_none rfl _ _ _) rfl ?_
  go_wp2
  go_end0
  exact ⟨rfl, rfl⟩

theorem load64 (x : Int) (a : Addr) (w : World) (hc : w.cell? a = some (.int .i64 x)) :
    Calls Try.prog 24 #[.pointer (some a)] w fun e w' => e = .returned (.int .i64 x) ∧ w' = w := by
  have hl := run_call_load (P := Try.prog) Try.func37 (by kernel_rfl) (by kernel_rfl) (by kernel_rfl) .i64 (by kernel_rfl) hc
  go_enter Try.func24, Try.ntmps24
  go_wp2
  go_ret
  exact ⟨rfl, rfl⟩

theorem store64 (x : Value) (y : Int) (a : Addr) (w : World) (hc : w.cell? a = some x) (hz : w.frozen? a = false) :
    Calls Try.prog 28 #[.pointer (some a), .int .i64 y] w fun e w' => e = .returned (.tuple #[]) ∧ w' = w.setCell a (.int .i64 y) := by
  have hst := run_call_store (P := Try.prog) Try.func40 (by kernel_rfl) (by kernel_rfl) (by kernel_rfl) (by kernel_rfl) (k := .i64) (y := y) hc hz
  go_enter Try.func28, Try.ntmps28
  go_wp2
  go_end0
  exact ⟨rfl, rfl⟩

set_option maxRecDepth 100000 in
set_option maxHeartbeats 1600000 in
theorem slow_any (b off : Nat) (pl : Addr) (hpb : ¬ b = pl.block) (x : Value) (w : World) (hp : w.cell? pl = some x)
    (h0 : w.cell? ⟨b, off, none⟩ = some (.int .u32 0)) (h1 : w.cell? ⟨b, off + 1, none⟩ = some (.int .i32 0))
    (f0 : w.frozen? ⟨b, off, none⟩ = false) (f1 : w.frozen? ⟨b, off + 1, none⟩ = false) (f3 : w.frozen? pl = false) :
    Calls Try.prog 43 #[.pointer (some ⟨b, off, none⟩), .func (.func 31) #[] #[.pointer (some pl)]] w fun e w' => e = .returned (.tuple #[]) ∧
      w' = (((w.setCell ⟨b, off + 1, none⟩ (.int .i32 1)).setCell pl (.bool true)).drew.setCell ⟨b, off, none⟩ (.int .u32 1)).setCell ⟨b, off + 1, none⟩ (.int .i32 0) := by
  have hl := run_call_load (P := Try.prog) Try.func55 (by kernel_rfl) (by kernel_rfl) (by kernel_rfl) .u32 (by kernel_rfl) (w := w.setCell ⟨b, off + 1, none⟩ (.int .i32 1)) (a := ⟨b, off, none⟩) (x := 0) ((World.cell?_setCell_other _ ⟨b, off + 1, none⟩ ⟨b, off, none⟩ _ (by simp)).trans h0)
  have hp1 : (w.setCell ⟨b, off + 1, none⟩ (.int .i32 1)).cell? pl = some x := (World.cell?_setCell_other _ ⟨b, off + 1, none⟩ pl _ (fun h => hpb (by rw [← h]))).trans hp
  have hnot : ∀ (x : Bool) (w : World), (Op.unary .not (.bool x)).run Try.prog w = .ok (.bool (!x)) w := fun _ _ => rfl
  go_enter_defers Try.func43, Try.ntmps43
  go_wp2_with (go_at_call 25; refine (lock_free ⟨b, off + 1, none⟩ _ (by go_simp) (by go_simp)).mono ?_; rintro e w' ⟨rfl, rfl⟩)
  go_wp2
  go_end0
  go_wp2
  -- the door: two deferred calls, the last laid first
  refine leaves_cons (f := 56) (args := #[.pointer (some ⟨b, off, none⟩), .bool true]) (by simp) (by simp [go_sem]) ?_
  refine (store_deferred ⟨b, off, none⟩ (.int .u32 0) .returning _ ?_ (by simp [f0])).mono ?_
  · exact (World.cell?_setCell_other _ pl ⟨b, off, none⟩ _ (fun h => hpb (by rw [h]))).trans ((World.cell?_setCell_other _ ⟨b, off + 1, none⟩ ⟨b, off, none⟩ _ (by simp)).trans h0)
  rintro e u' w'' ⟨rfl, rfl, rfl⟩
  refine leaves_cons (f := 26) (args := #[.pointer (some ⟨b, off + 1, none⟩)]) (by simp [settle]) (by simp [go_sem]) ?_
  refine (unlock_deferred ⟨b, off + 1, none⟩ _ _ ?_ (by simp [f1])).mono ?_
  · refine (World.cell?_setCell_other _ ⟨b, off, none⟩ ⟨b, off + 1, none⟩ _ (by simp)).trans ?_
    rw [World.cell?_drew]
    exact (World.cell?_setCell_other _ pl ⟨b, off + 1, none⟩ _ (fun h => hpb (by rw [h]))).trans (World.cell?_setCell_same w _ _ h1)
  rintro e u' w'' ⟨rfl, rfl, rfl⟩
  simp [Leaves, settle, results, Try.results43]

set_option maxRecDepth 100000 in
set_option maxHeartbeats 1600000 in
theorem do_first (b off : Nat) (pl : Addr) (hpb : ¬ b = pl.block) (x : Value) (w : World) (hp : w.cell? pl = some x)
    (h0 : w.cell? ⟨b, off, none⟩ = some (.int .u32 0)) (h1 : w.cell? ⟨b, off + 1, none⟩ = some (.int .i32 0))
    (f0 : w.frozen? ⟨b, off, none⟩ = false) (f1 : w.frozen? ⟨b, off + 1, none⟩ = false) (f3 : w.frozen? pl = false) :
    Calls Try.prog 30 #[.pointer (some ⟨b, off, none⟩), .func (.func 31) #[] #[.pointer (some pl)]] w fun e w' => e = .returned (.tuple #[]) ∧
      w' = (((w.setCell ⟨b, off + 1, none⟩ (.int .i32 1)).setCell pl (.bool true)).drew.setCell ⟨b, off, none⟩ (.int .u32 1)).setCell ⟨b, off + 1, none⟩ (.int .i32 0) := by
  have hl := run_call_load (P := Try.prog) Try.func55 (by kernel_rfl) (by kernel_rfl) (by kernel_rfl) .u32 (by kernel_rfl) h0
  have hnot : ∀ (x : Bool) (w : World), (Op.unary .not (.bool x)).run Try.prog w = .ok (.bool (!x)) w := fun _ _ => rfl
  go_enter Try.func30, Try.ntmps30
  go_wp2_with (first | (go_at_call 43; refine (slow_any b off pl hpb x _ hp h0 h1 f0 f1 f3).mono ?_; rintro e w' ⟨rfl, rfl⟩) | (go_at_call 42; go_in))
  go_end0
  exact ⟨rfl, rfl⟩

theorem do_done (a : Addr) (d : Int) (hd : ¬ d = 0) (fv : Value) (w : World) (h0 : w.cell? a = some (.int .u32 d)) :
    Calls Try.prog 30 #[.pointer (some a), fv] w fun e w' => e = .returned (.tuple #[]) ∧ w' = w := by
  have hl := run_call_load (P := Try.prog) Try.func55 (by kernel_rfl) (by kernel_rfl) (by kernel_rfl) .u32 (by kernel_rfl) h0
  have hnot : ∀ (x : Bool) (w : World), (Op.unary .not (.bool x)).run Try.prog w = .ok (.bool (!x)) w := fun _ _ => rfl
  have hd' : (d != 0) = true := by simp [hd]
  go_enter Try.func30, Try.ntmps30
  go_wp2
  go_end0
  exact ⟨rfl, rfl⟩
end Go.Proofs.Ytceiiajacnihjaa
