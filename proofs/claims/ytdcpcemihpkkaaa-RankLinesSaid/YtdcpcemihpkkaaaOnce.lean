/- Contracts of sync.Once and of the counter, as a rank uses them. -/
import Derived.Test.YtdcpcemihpkkaaaBits
namespace Go.Proofs.Ytdcpcemihpkkaaa
open Go.RowKit
set_option linter.unusedVariables false
set_option linter.unusedSimpArgs false

theorem boolLoad (a : Addr) (n : Int) (w : World) (h : w.cell? a = some (.int .u32 n)) :
    Calls Try.prog 48 #[.pointer (some a)] w fun e w' => e = .returned (.bool (n != 0)) ∧ w = w' := by
  have hl := run_call_load (P := Try.prog) Try.func50 (by kernel_rfl) (by kernel_rfl) (by kernel_rfl) .u32 (by kernel_rfl) h
  go_enter Try.func48, Try.ntmps48
  go_wp2
  go_ret
  exact ⟨rfl, rfl⟩

theorem int64Add (a : Addr) (n m : Int) (w : World) (h : w.cell? a = some (.int .i64 n)) (hz : w.frozen? a = false) :
    Calls Try.prog 38 #[.pointer (some a), .int .i64 m] w fun e w' => e = .returned (.int .i64 (wrap64 (n + m))) ∧ w' = w.setCell a (.int .i64 (wrap64 (n + m))) := by
  have hl := run_call_add (P := Try.prog) Try.func47 (by kernel_rfl) (by kernel_rfl) (by kernel_rfl) .i64 (by kernel_rfl) (y := m) (s := wrap64 (n + m)) h hz (by simp [go_sem, wrap64, IntKind.wrap_i64])
  go_enter Try.func38, Try.ntmps38
  go_wp2
  go_ret
  exact ⟨rfl, rfl⟩

theorem disable (w : World) : (callFunc 58 #[]).run Try.prog w = .ok (.value (.tuple #[])) w := run_call_mark0 Try.func58 (by kernel_rfl) (by kernel_rfl) (by kernel_rfl) .disable (by kernel_rfl) w
theorem enable (w : World) : (callFunc 60 #[]).run Try.prog w = .ok (.value (.tuple #[])) w := run_call_mark0 Try.func60 (by kernel_rfl) (by kernel_rfl) (by kernel_rfl) .enable (by kernel_rfl) w
theorem acquire (a : Addr) (w : World) : (callFunc 61 #[.pointer (some a)]).run Try.prog w = .ok (.value (.tuple #[])) w := run_call_marked Try.func61 (by kernel_rfl) (by kernel_rfl) (by kernel_rfl) .acquire (by kernel_rfl) a w
theorem releaseMerge (a : Addr) (w : World) : (callFunc 63 #[.pointer (some a)]).run Try.prog w = .ok (.value (.tuple #[])) w := run_call_marked Try.func63 (by kernel_rfl) (by kernel_rfl) (by kernel_rfl) .releaseMerge (by kernel_rfl) a w

/-- '(*sync/atomic.Bool).Store(true)' entered as a deferred call. -/
theorem store_deferred (a : Addr) (x : Value) (u : FrameMode) (w : World) (hc : w.cell? a = some x) (hz : w.frozen? a = false) :
    CallsD Try.prog 53 #[.pointer (some a), .bool true] u w fun e u' w' => u' = u ∧ (e = .returned (.tuple #[]) ∧ w' = w.drew.setCell a (.int .u32 1)) := by
  have hc' : w.drew.cell? a = some x := by go_simp
  have hz' : w.drew.frozen? a = false := by go_simp
  have hst := run_call_store (P := Try.prog) Try.func56 (by kernel_rfl) (by kernel_rfl) (by kernel_rfl) (by kernel_rfl) (k := .u32) (y := 1) hc' hz'
  go_enter_d Try.func53, Try.ntmps53
  go_wp2
  go_region_calls
  all_goals (go_end0; exact ⟨rfl, rfl⟩)

/-- '(*sync/atomic.Bool).Store(true)' called. -/
theorem boolStore (a : Addr) (x : Value) (w : World) (hc : w.cell? a = some x) (hz : w.frozen? a = false) :
    Calls Try.prog 53 #[.pointer (some a), .bool true] w fun e w' => e = .returned (.tuple #[]) ∧ w' = w.drew.setCell a (.int .u32 1) := by
  have hc' : w.drew.cell? a = some x := by go_simp
  have hz' : w.drew.frozen? a = false := by go_simp
  have hst := run_call_store (P := Try.prog) Try.func56 (by kernel_rfl) (by kernel_rfl) (by kernel_rfl) (by kernel_rfl) (k := .u32) (y := 1) hc' hz'
  go_enter Try.func53, Try.ntmps53
  go_wp2
  go_region_calls
  all_goals (go_end0; exact ⟨rfl, rfl⟩)

set_option maxRecDepth 100000 in
theorem unlock_deferred (a : Addr) (u : FrameMode) (w : World) (hc : w.cell? a = some (.int .i32 1)) (hz : w.frozen? a = false) :
    CallsD Try.prog 52 #[.pointer (some a)] u w fun e u' w' => u' = u ∧ (e = .returned (.tuple #[]) ∧ w' = w.setCell a (.int .i32 0)) := by
  have hd := disable
  have he := enable
  have hr := releaseMerge
  have hadd := run_call_add (P := Try.prog) Try.func64 (by kernel_rfl) (by kernel_rfl) (by kernel_rfl) .i32 (by kernel_rfl) (y := -1) (s := 0) hc hz (by simp [go_sem]; rfl)
  have hcv := run_convert_to_unsafe (P := Try.prog) (src := 111) (dst := 115) Try.underlying111 Try.underlying115 (by kernel_rfl) hc
  go_enter_d Try.func52, Try.ntmps52
  go_wp2
  go_end0
  exact ⟨rfl, rfl⟩

set_option maxRecDepth 100000 in
theorem lock_free (a : Addr) (w : World) (hc : w.cell? a = some (.int .i32 0)) (hz : w.frozen? a = false) :
    Calls Try.prog 51 #[.pointer (some a)] w fun e w' => e = .returned (.tuple #[]) ∧ w' = w.setCell a (.int .i32 1) := by
  have hd := disable
  have he := enable
  have ha := acquire
  have hcas := run_call_cas_hit (P := Try.prog) Try.func59 (by kernel_rfl) (by kernel_rfl) (by kernel_rfl) .i32 (by kernel_rfl) (y := 1) hc hz
  have hc' : (w.setCell a (.int .i32 1)).cell? a = some (.int .i32 1) := World.cell?_setCell_same w a _ hc
  have hcv := run_convert_to_unsafe (P := Try.prog) (src := 111) (dst := 115) Try.underlying111 Try.underlying115 (by kernel_rfl) hc'
  go_enter Try.func51, Try.ntmps51
  go_wp2
  go_end0
  exact ⟨rfl, rfl⟩

/-- The block b holds a rank: its number, pairs, kinds, the once (done, lock), rows, how often asked, statuses. -/
def Rk (w : World) (b : Nat) (n : Int) (pv mv : Value) (d ms : Int) (rv : Value) (k : Int) (sv : Value) : Prop :=
  w.heap[b]? = some (.cells #[.int .i64 n, pv, mv, .int .u32 d, .int .i32 ms, .int .u32 0, rv, .int .i64 k, sv] 74)

theorem Rk.lt {w : World} {b : Nat} {n : Int} {pv mv : Value} {d ms : Int} {rv : Value} {k : Int} {sv : Value} (h : Rk w b n pv mv d ms rv k sv) : b < w.heap.size := blk_lt h
theorem Rk.chg {w w' : World} {b : Nat} {n : Int} {pv mv : Value} {d ms : Int} {rv : Value} {k : Int} {sv : Value} (h : Rk w b n pv mv d ms rv k sv) {S : Nat → Prop} (g : Chg S w w') (hn : ¬ S b) : Rk w' b n pv mv d ms rv k sv := g.blk hn h

set_option maxRecDepth 100000 in
set_option maxHeartbeats 1600000 in
/-- '(*sync.Once).doSlow', not yet done and the lock free, whatever the function lays. -/
theorem slow_gen (b : Nat) (pl : Addr) (n : Int) (pv mv rv : Value) (k : Int) (sv : Value) (Post : World → Value → Prop) (w : World) (h : Rk w b n pv mv 0 0 rv k sv)
    (hcl : ∀ w1, Rk w1 b n pv mv 0 1 rv k sv → Chg (fun x => x = b) w w1 → Calls Try.prog 40 #[.pointer (some pl)] w1 fun e w2 => e = .returned (.tuple #[]) ∧ ∃ rv', Rk w2 b n pv mv 0 1 rv' k sv ∧ Post w2 rv') :
    Calls Try.prog 49 #[.pointer (some ⟨b, 3, none⟩), .func (.func 40) #[] #[.pointer (some pl)]] w fun e w' => e = .returned (.tuple #[]) ∧
      ∃ w2 rv', Rk w2 b n pv mv 0 1 rv' k sv ∧ Post w2 rv' ∧ w' = (w2.drew.setCell ⟨b, 3, none⟩ (.int .u32 1)).setCell ⟨b, 4, none⟩ (.int .i32 0) := by
  have h1 : Rk (w.setCell ⟨b, 4, none⟩ (.int .i32 1)) b n pv mv 0 1 rv k sv := blk_set h 4 _
  have h3 : w.cell? ⟨b, 3, none⟩ = some (.int .u32 0) := blk_cell h 3
  have h4 : w.cell? ⟨b, 4, none⟩ = some (.int .i32 0) := blk_cell h 4
  have f4 : w.frozen? ⟨b, 4, none⟩ = false := blk_free h 4
  have hl : (w.setCell ⟨b, 4, none⟩ (.int .i32 1)).cell? ⟨b, 3, none⟩ = some (.int .u32 0) := blk_cell h1 3
  have hc := hide (hcl _ h1 (Chg.set w b 4 (.int .i32 1)))
  have hnot : ∀ (x : Bool) (w : World), (Op.unary .not (.bool x)).run Try.prog w = .ok (.bool (!x)) w := fun _ _ => rfl
  clear hcl h h1
  go_enter_defers Try.func49, Try.ntmps49
  go_wp2_with (first | (go_at_call 51; refine (lock_free ⟨b, 4, none⟩ _ h4 f4).mono ?_; rintro e w' ⟨rfl, rfl⟩) | (go_at_call 48; refine (boolLoad _ _ _ hl).mono ?_; rintro e w' ⟨rfl, rfl⟩) | (go_at_call 40; refine hc.out.mono ?_; rintro e w2 ⟨rfl, rv', hr, hp⟩))
  have c3 : w2.cell? ⟨b, 3, none⟩ = some (.int .u32 0) := blk_cell hr 3
  have e3 : w2.frozen? ⟨b, 3, none⟩ = false := blk_free hr 3
  have s1 : (w2.drew.setCell ⟨b, 3, none⟩ (.int .u32 1)).heap[b]? = _ := blk_set (w := w2.drew) hr 3 (.int .u32 1)
  refine leaves_cons (f := 53) (args := #[.pointer (some ⟨b, 3, none⟩), .bool true]) (by simp) (by simp [go_sem]) ?_
  refine (store_deferred ⟨b, 3, none⟩ (.int .u32 0) .returning _ c3 e3).mono ?_
  rintro e u' w'' ⟨rfl, rfl, rfl⟩
  refine leaves_cons (f := 52) (args := #[.pointer (some ⟨b, 4, none⟩)]) (by simp [settle]) (by simp [go_sem]) ?_
  refine (unlock_deferred ⟨b, 4, none⟩ _ _ (blk_cell s1 4) (blk_free s1 4)).mono ?_
  rintro e u' w'' ⟨rfl, rfl, rfl⟩
  simp [Leaves, settle, results, Try.results49]
  exact ⟨w2, rv', hr, hp, rfl⟩

/-- '(*sync.Once).Do', not yet done. -/
theorem do_first (b : Nat) (pl : Addr) (n : Int) (pv mv rv : Value) (k : Int) (sv : Value) (Post : World → Value → Prop) (w : World) (h : Rk w b n pv mv 0 0 rv k sv)
    (hcl : ∀ w1, Rk w1 b n pv mv 0 1 rv k sv → Chg (fun x => x = b) w w1 → Calls Try.prog 40 #[.pointer (some pl)] w1 fun e w2 => e = .returned (.tuple #[]) ∧ ∃ rv', Rk w2 b n pv mv 0 1 rv' k sv ∧ Post w2 rv') :
    Calls Try.prog 39 #[.pointer (some ⟨b, 3, none⟩), .func (.func 40) #[] #[.pointer (some pl)]] w fun e w' => e = .returned (.tuple #[]) ∧
      ∃ w2 rv', Rk w2 b n pv mv 0 1 rv' k sv ∧ Post w2 rv' ∧ w' = (w2.drew.setCell ⟨b, 3, none⟩ (.int .u32 1)).setCell ⟨b, 4, none⟩ (.int .i32 0) := by
  have h3 : w.cell? ⟨b, 3, none⟩ = some (.int .u32 0) := blk_cell h 3
  have hnot : ∀ (x : Bool) (w : World), (Op.unary .not (.bool x)).run Try.prog w = .ok (.bool (!x)) w := fun _ _ => rfl
  have sl := hide (slow_gen b pl n pv mv rv k sv Post w h hcl)
  clear h hcl
  go_enter Try.func39, Try.ntmps39
  go_wp2_with (first | (go_at_call 48; refine (boolLoad _ _ _ h3).mono ?_; rintro e w' ⟨rfl, rfl⟩) | (go_at_call 49; refine sl.out.mono ?_; rintro e w' ⟨rfl, hx⟩))
  go_end0
  exact ⟨rfl, hx⟩

/-- '(*sync.Once).Do', done already: the function is not called. -/
theorem do_done (a : Addr) (fv : Value) (w : World) (h0 : w.cell? a = some (.int .u32 1)) :
    Calls Try.prog 39 #[.pointer (some a), fv] w fun e w' => e = .returned (.tuple #[]) ∧ w = w' := by
  have hnot : ∀ (x : Bool) (w : World), (Op.unary .not (.bool x)).run Try.prog w = .ok (.bool (!x)) w := fun _ _ => rfl
  go_enter Try.func39, Try.ntmps39
  go_wp2_with (go_at_call 48; refine (boolLoad _ _ _ h0).mono ?_; rintro e w' ⟨rfl, rfl⟩)
  go_end0
  exact ⟨rfl, rfl⟩

end Go.Proofs.Ytdcpcemihpkkaaa
