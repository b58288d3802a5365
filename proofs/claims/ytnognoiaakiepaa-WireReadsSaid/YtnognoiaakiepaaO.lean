/-
  sync.Once in a run of one goroutine: its lock, its two deferred calls, the slow road.
-/
import Derived.Test.YtnognoiaakiepaaRd
import Derived.Test.YtnognoiaakiepaaSC
import Derived.WalkKit
import Derived.Defers
import Derived.Laws.Pointers
import Derived.Laws.LoneSync
import Derived.RegionCalls
import Derived.ChangeAlike
namespace Go.Proofs.Ytnognoiaakiepaa
open Go

theorem once_disable (w : World) : (callFunc 136 #[]).run Try.prog w = .ok (.value (.tuple #[])) w := run_call_mark0 Try.func136 (by kernel_rfl) (by kernel_rfl) (by kernel_rfl) .disable (by kernel_rfl) w
theorem once_enable (w : World) : (callFunc 138 #[]).run Try.prog w = .ok (.value (.tuple #[])) w := run_call_mark0 Try.func138 (by kernel_rfl) (by kernel_rfl) (by kernel_rfl) .enable (by kernel_rfl) w
theorem once_acquire (a : Addr) (w : World) : (callFunc 139 #[.pointer (some a)]).run Try.prog w = .ok (.value (.tuple #[])) w := run_call_marked Try.func139 (by kernel_rfl) (by kernel_rfl) (by kernel_rfl) .acquire (by kernel_rfl) a w
theorem once_releaseMerge (a : Addr) (w : World) : (callFunc 141 #[.pointer (some a)]).run Try.prog w = .ok (.value (.tuple #[])) w := run_call_marked Try.func141 (by kernel_rfl) (by kernel_rfl) (by kernel_rfl) .releaseMerge (by kernel_rfl) a w
/-- '(*sync/atomic.Bool).Store(true)', entered as a deferred call: the cell holds 1. -/
theorem once_store_deferred (a : Addr) (x : Value) (u : FrameMode) (w : World) (hc : w.cell? a = some x) (hz : w.frozen? a = false) :
    CallsD Try.prog 131 #[.pointer (some a), .bool true] u w fun e u' w' => u' = u ∧ (e = .returned (.tuple #[]) ∧ w' = w.drew.setCell a (.int .u32 1)) := by
  have hc' : w.drew.cell? a = some x := by go_simp
  have hz' : w.drew.frozen? a = false := by go_simp
  have hst := run_call_store (P := Try.prog) Try.func134 (by kernel_rfl) (by kernel_rfl) (by kernel_rfl) (by kernel_rfl) (k := .u32) (y := 1) hc' hz'
  go_enter_d Try.func131, Try.ntmps131
  go_wp2
  go_region_calls
  all_goals (go_end0; exact ⟨rfl, rfl⟩)
set_option maxRecDepth 100000 in
/-- '(*sync.Mutex).Unlock', entered as a deferred call, the lock held and nobody waiting (state 1): state 0. -/
theorem once_unlock_deferred (a : Addr) (u : FrameMode) (w : World) (hc : w.cell? a = some (.int .i32 1)) (hz : w.frozen? a = false) :
    CallsD Try.prog 130 #[.pointer (some a)] u w fun e u' w' => u' = u ∧ (e = .returned (.tuple #[]) ∧ w' = w.setCell a (.int .i32 0)) := by
  have hd := once_disable
  have he := once_enable
  have hr := once_releaseMerge
  have hadd := run_call_add (P := Try.prog) Try.func142 (by kernel_rfl) (by kernel_rfl) (by kernel_rfl) .i32 (by kernel_rfl) (y := -1) (s := 0) hc hz (by simp [go_sem]; rfl)
  have hcv := run_convert_to_unsafe (P := Try.prog) (src := 207) (dst := 211) Try.underlying207 Try.underlying211 (by kernel_rfl) hc
  go_enter_d Try.func130, Try.ntmps130
  go_wp2
  go_end0
  go_wp2
  go_end0
  exact ⟨rfl, rfl⟩
set_option maxRecDepth 100000 in
/-- '(*sync.Mutex).Lock', the lock free (state 0): state 1. -/
theorem once_lock_free (a : Addr) (w : World) (hc : w.cell? a = some (.int .i32 0)) (hz : w.frozen? a = false) :
    Calls Try.prog 129 #[.pointer (some a)] w fun e w' => e = .returned (.tuple #[]) ∧ w' = w.setCell a (.int .i32 1) := by
  have hd := once_disable
  have he := once_enable
  have ha := once_acquire
  have hcas := run_call_cas_hit (P := Try.prog) Try.func137 (by kernel_rfl) (by kernel_rfl) (by kernel_rfl) .i32 (by kernel_rfl) (y := 1) hc hz
  have hc' : (w.setCell a (.int .i32 1)).cell? a = some (.int .i32 1) := World.cell?_setCell_same w a _ hc
  have hcv := run_convert_to_unsafe (P := Try.prog) (src := 207) (dst := 211) Try.underlying207 Try.underlying211 (by kernel_rfl) hc'
  go_enter Try.func129, Try.ntmps129
  go_wp2
  first | go_end0 | (simp only [Exit.inBlock, Exit.then]; refine bodyPost_ret (results_none rfl _ _ _) rfl ?_) | refine bodyPost_ret (results_none rfl _ _ _) rfl ?_
  go_wp2
  go_end0
  exact ⟨rfl, rfl⟩

set_option maxRecDepth 100000 in
set_option maxHeartbeats 1600000 in
/-- '(*sync.Once).doSlow', not yet done and the lock free: the lock is taken, the function is called, 'done' is stored, the lock is let go. -/
theorem once_slow (b off : Nat) (pt : Value) {Q : Heap → Prop} (w : World)
    (h0 : w.cell? ⟨b, off, none⟩ = some (.int .u32 0)) (h1 : w.cell? ⟨b, off + 1, none⟩ = some (.int .i32 0)) (f1 : w.frozen? ⟨b, off + 1, none⟩ = false)
    (hq : ∀ h, Q h → (cellH h ⟨b, off, none⟩).isSome = true ∧ frozenH h ⟨b, off, none⟩ = false ∧ cellH h ⟨b, off + 1, none⟩ = some (.int .i32 1) ∧ frozenH h ⟨b, off + 1, none⟩ = false)
    (hf : Calls Try.prog 125 #[pt] (w.setCell ⟨b, off + 1, none⟩ (.int .i32 1)) fun e w' => e = .returned (.tuple #[]) ∧ Env (w.setCell ⟨b, off + 1, none⟩ (.int .i32 1)) w' ∧ Q w'.heap) :
    Calls Try.prog 127 #[.pointer (some ⟨b, off, none⟩), .func (.func 125) #[pt] #[]] w fun e w' => e = .returned (.tuple #[]) ∧ Env w w' ∧
      ∃ h, Q h ∧ w'.heap = setH (setH h ⟨b, off, none⟩ (.int .u32 1)) ⟨b, off + 1, none⟩ (.int .i32 0) := by
  have hl := run_call_load (P := Try.prog) Try.func128 (by kernel_rfl) (by kernel_rfl) (by kernel_rfl) .u32 (by kernel_rfl) (w := w.setCell ⟨b, off + 1, none⟩ (.int .i32 1)) (a := ⟨b, off, none⟩) (x := 0) ((World.cell?_setCell_other _ ⟨b, off + 1, none⟩ ⟨b, off, none⟩ _ (by simp)).trans h0)
  have hnot : ∀ (x : Bool) (w : World), (Op.unary .not (.bool x)).run Try.prog w = .ok (.bool (!x)) w := fun _ _ => rfl
  go_enter_defers Try.func127, Try.ntmps127
  go_wp2_with (first | (go_at_call 129; refine (once_lock_free ⟨b, off + 1, none⟩ _ (by go_simp) (by go_simp)).mono ?_; rintro e w' ⟨rfl, rfl⟩) | (go_at_call 125; refine hf.mono ?_; rintro e w2 ⟨rfl, hE, hQ⟩) | (go_at_call 126; go_in))
  obtain ⟨q0, q1, q2, q3⟩ := hq _ hQ
  obtain ⟨x, hx⟩ := Option.isSome_iff_exists.1 q0
  -- the door: two deferred calls, the last laid first
  refine leaves_cons (f := 131) (args := #[.pointer (some ⟨b, off, none⟩), .bool true]) (by simp) (by simp [go_sem]) ?_
  refine (once_store_deferred ⟨b, off, none⟩ x .returning w2 hx q1).mono ?_
  rintro e u' w'' ⟨rfl, rfl, rfl⟩
  refine leaves_cons (f := 130) (args := #[.pointer (some ⟨b, off + 1, none⟩)]) (by simp [settle]) (by simp [go_sem]) ?_
  refine (once_unlock_deferred ⟨b, off + 1, none⟩ _ _ ?_ ?_).mono ?_
  · refine (World.cell?_setCell_other _ ⟨b, off, none⟩ ⟨b, off + 1, none⟩ _ (by simp)).trans ?_
    rw [World.cell?_drew]
    exact q2
  · rw [World.frozen?_setCell]; exact q3
  rintro e u' w'' ⟨rfl, rfl, rfl⟩
  simp only [Leaves, settle]
  refine ⟨_, results_none rfl _ _ _, rfl, Env.trans (b := w.setCell ⟨b, off + 1, none⟩ (.int .i32 1)) ⟨rfl, rfl, rfl⟩ (Env.trans hE ⟨rfl, rfl, rfl⟩), w2.heap, hQ, rfl⟩
end Go.Proofs.Ytnognoiaakiepaa
