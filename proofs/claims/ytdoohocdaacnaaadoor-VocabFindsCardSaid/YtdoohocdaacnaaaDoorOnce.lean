/- Contracts of sync.Once and its lock, as an index uses them. -/
import Derived.Test.YtdoohocdaacnaaaDoorVcopy
namespace Go.Proofs.YtdoohocdaacnaaaDoor
open Go.RowKit
set_option linter.unusedVariables false
set_option linter.unusedSimpArgs false

theorem boolLoad (a : Addr) (n : Int) (w : World) (h : w.cell? a = some (.int .u32 n)) :
    Calls Tryd.prog 68 #[.pointer (some a)] w fun e w' => e = .returned (.bool (n != 0)) ∧ w = w' := by
  have hl := run_call_load (P := Tryd.prog) Tryd.func75 (by kernel_rfl) (by kernel_rfl) (by kernel_rfl) .u32 (by kernel_rfl) h
  go_enter Tryd.func68, Tryd.ntmps68
  go_wp2
  go_ret
  exact ⟨rfl, rfl⟩

theorem disable (w : World) : (callFunc 90 #[]).run Tryd.prog w = .ok (.value (.tuple #[])) w := run_call_mark0 Tryd.func90 (by kernel_rfl) (by kernel_rfl) (by kernel_rfl) .disable (by kernel_rfl) w
theorem enable (w : World) : (callFunc 92 #[]).run Tryd.prog w = .ok (.value (.tuple #[])) w := run_call_mark0 Tryd.func92 (by kernel_rfl) (by kernel_rfl) (by kernel_rfl) .enable (by kernel_rfl) w
theorem acquire (a : Addr) (w : World) : (callFunc 93 #[.pointer (some a)]).run Tryd.prog w = .ok (.value (.tuple #[])) w := run_call_marked Tryd.func93 (by kernel_rfl) (by kernel_rfl) (by kernel_rfl) .acquire (by kernel_rfl) a w
theorem releaseMerge (a : Addr) (w : World) : (callFunc 95 #[.pointer (some a)]).run Tryd.prog w = .ok (.value (.tuple #[])) w := run_call_marked Tryd.func95 (by kernel_rfl) (by kernel_rfl) (by kernel_rfl) .releaseMerge (by kernel_rfl) a w

/-- '(*sync/atomic.Bool).Store(true)' entered as a deferred call. -/
theorem store_deferred (a : Addr) (x : Value) (u : FrameMode) (w : World) (hc : w.cell? a = some x) (hz : w.frozen? a = false) :
    CallsD Tryd.prog 78 #[.pointer (some a), .bool true] u w fun e u' w' => u' = u ∧ (e = .returned (.tuple #[]) ∧ w' = w.drew.setCell a (.int .u32 1)) := by
  have hc' : w.drew.cell? a = some x := by go_simp
  have hz' : w.drew.frozen? a = false := by go_simp
  have hst := run_call_store (P := Tryd.prog) Tryd.func86 (by kernel_rfl) (by kernel_rfl) (by kernel_rfl) (by kernel_rfl) (k := .u32) (y := 1) hc' hz'
  go_enter_d Tryd.func78, Tryd.ntmps78
  go_wp2
  go_region_calls
  all_goals (go_end0; exact ⟨rfl, rfl⟩)

/-- '(*sync/atomic.Bool).Store(true)' called. -/
theorem boolStore (a : Addr) (x : Value) (w : World) (hc : w.cell? a = some x) (hz : w.frozen? a = false) :
    Calls Tryd.prog 78 #[.pointer (some a), .bool true] w fun e w' => e = .returned (.tuple #[]) ∧ w' = w.drew.setCell a (.int .u32 1) := by
  have hc' : w.drew.cell? a = some x := by go_simp
  have hz' : w.drew.frozen? a = false := by go_simp
  have hst := run_call_store (P := Tryd.prog) Tryd.func86 (by kernel_rfl) (by kernel_rfl) (by kernel_rfl) (by kernel_rfl) (k := .u32) (y := 1) hc' hz'
  go_enter Tryd.func78, Tryd.ntmps78
  go_wp2
  go_region_calls
  all_goals (go_end0; exact ⟨rfl, rfl⟩)

set_option maxRecDepth 100000 in
theorem unlock_deferred (a : Addr) (u : FrameMode) (w : World) (hc : w.cell? a = some (.int .i32 1)) (hz : w.frozen? a = false) :
    CallsD Tryd.prog 77 #[.pointer (some a)] u w fun e u' w' => u' = u ∧ (e = .returned (.tuple #[]) ∧ w' = w.setCell a (.int .i32 0)) := by
  have hd := disable
  have he := enable
  have hr := releaseMerge
  have hadd := run_call_add (P := Tryd.prog) Tryd.func96 (by kernel_rfl) (by kernel_rfl) (by kernel_rfl) .i32 (by kernel_rfl) (y := -1) (s := 0) hc hz (by simp [go_sem]; rfl)
  have hcv := run_convert_to_unsafe (P := Tryd.prog) (src := 154) (dst := 158) Tryd.underlying154 Tryd.underlying158 (by kernel_rfl) hc
  go_enter_d Tryd.func77, Tryd.ntmps77
  go_wp2
  go_end0
  exact ⟨rfl, rfl⟩

set_option maxRecDepth 100000 in
theorem lock_free (a : Addr) (w : World) (hc : w.cell? a = some (.int .i32 0)) (hz : w.frozen? a = false) :
    Calls Tryd.prog 76 #[.pointer (some a)] w fun e w' => e = .returned (.tuple #[]) ∧ w' = w.setCell a (.int .i32 1) := by
  have hd := disable
  have he := enable
  have ha := acquire
  have hcas := run_call_cas_hit (P := Tryd.prog) Tryd.func91 (by kernel_rfl) (by kernel_rfl) (by kernel_rfl) .i32 (by kernel_rfl) (y := 1) hc hz
  have hc' : (w.setCell a (.int .i32 1)).cell? a = some (.int .i32 1) := World.cell?_setCell_same w a _ hc
  have hcv := run_convert_to_unsafe (P := Tryd.prog) (src := 154) (dst := 158) Tryd.underlying154 Tryd.underlying158 (by kernel_rfl) hc'
  go_enter Tryd.func76, Tryd.ntmps76
  go_wp2
  go_end0
  exact ⟨rfl, rfl⟩

/-- The block b holds an index: its bases, its constants, the once (done, lock), its names. -/
def Ix (w : World) (b : Nat) (bv cv : Value) (d ms : Int) (nm : Value) : Prop :=
  w.heap[b]? = some (.cells #[bv, cv, .int .u32 d, .int .i32 ms, .int .u32 0, nm] 94)

theorem Ix.lt {w : World} {b : Nat} {bv cv : Value} {d ms : Int} {nm : Value} (h : Ix w b bv cv d ms nm) : b < w.heap.size := blk_lt h
theorem Ix.chg {w w' : World} {b : Nat} {bv cv : Value} {d ms : Int} {nm : Value} (h : Ix w b bv cv d ms nm) {S : Nat → Prop} (g : Chg S w w') (hn : ¬ S b) : Ix w' b bv cv d ms nm := g.blk hn h

set_option maxRecDepth 100000 in
set_option maxHeartbeats 1600000 in
/-- '(*sync.Once).doSlow', not yet done and the lock free, whatever the function lays. -/
theorem slow_gen (b : Nat) (pl : Addr) (bv cv nm : Value) (Post : World → Value → Prop) (w : World) (h : Ix w b bv cv 0 0 nm)
    (hcl : ∀ w1, Ix w1 b bv cv 0 1 nm → Chg (fun x => x = b) w w1 → Calls Tryd.prog 56 #[.pointer (some pl)] w1 fun e w2 => e = .returned (.tuple #[]) ∧ ∃ rv', Ix w2 b bv cv 0 1 rv' ∧ Post w2 rv') :
    Calls Tryd.prog 69 #[.pointer (some ⟨b, 2, none⟩), .func (.func 56) #[] #[.pointer (some pl)]] w fun e w' => e = .returned (.tuple #[]) ∧
      ∃ w2 rv', Ix w2 b bv cv 0 1 rv' ∧ Post w2 rv' ∧ w' = (w2.drew.setCell ⟨b, 2, none⟩ (.int .u32 1)).setCell ⟨b, 3, none⟩ (.int .i32 0) := by
  have h1 : Ix (w.setCell ⟨b, 3, none⟩ (.int .i32 1)) b bv cv 0 1 nm := blk_set h 3 _
  have h3 : w.cell? ⟨b, 2, none⟩ = some (.int .u32 0) := blk_cell h 2
  have h4 : w.cell? ⟨b, 3, none⟩ = some (.int .i32 0) := blk_cell h 3
  have f4 : w.frozen? ⟨b, 3, none⟩ = false := blk_free h 3
  have hl : (w.setCell ⟨b, 3, none⟩ (.int .i32 1)).cell? ⟨b, 2, none⟩ = some (.int .u32 0) := blk_cell h1 2
  have hc := hide (hcl _ h1 (Chg.set w b 3 (.int .i32 1)))
  have hnot : ∀ (x : Bool) (w : World), (Op.unary .not (.bool x)).run Tryd.prog w = .ok (.bool (!x)) w := fun _ _ => rfl
  clear hcl h h1
  go_enter_defers Tryd.func69, Tryd.ntmps69
  go_wp2_with (first | (go_at_call 76; refine (lock_free ⟨b, 3, none⟩ _ h4 f4).mono ?_; rintro e w' ⟨rfl, rfl⟩) | (go_at_call 68; refine (boolLoad _ _ _ hl).mono ?_; rintro e w' ⟨rfl, rfl⟩) | (go_at_call 56; refine hc.out.mono ?_; rintro e w2 ⟨rfl, rv', hr, hp⟩))
  have c3 : w2.cell? ⟨b, 2, none⟩ = some (.int .u32 0) := blk_cell hr 2
  have e3 : w2.frozen? ⟨b, 2, none⟩ = false := blk_free hr 2
  have s1 : (w2.drew.setCell ⟨b, 2, none⟩ (.int .u32 1)).heap[b]? = _ := blk_set (w := w2.drew) hr 2 (.int .u32 1)
  refine leaves_cons (f := 78) (args := #[.pointer (some ⟨b, 2, none⟩), .bool true]) (by simp) (by simp [go_sem]) ?_
  refine (store_deferred ⟨b, 2, none⟩ (.int .u32 0) .returning _ c3 e3).mono ?_
  rintro e u' w'' ⟨rfl, rfl, rfl⟩
  refine leaves_cons (f := 77) (args := #[.pointer (some ⟨b, 3, none⟩)]) (by simp [settle]) (by simp [go_sem]) ?_
  refine (unlock_deferred ⟨b, 3, none⟩ _ _ (blk_cell s1 3) (blk_free s1 3)).mono ?_
  rintro e u' w'' ⟨rfl, rfl, rfl⟩
  simp [Leaves, settle, results, Tryd.results69]
  exact ⟨w2, rv', hr, hp, rfl⟩

/-- '(*sync.Once).Do', not yet done. -/
theorem do_first (b : Nat) (pl : Addr) (bv cv nm : Value) (Post : World → Value → Prop) (w : World) (h : Ix w b bv cv 0 0 nm)
    (hcl : ∀ w1, Ix w1 b bv cv 0 1 nm → Chg (fun x => x = b) w w1 → Calls Tryd.prog 56 #[.pointer (some pl)] w1 fun e w2 => e = .returned (.tuple #[]) ∧ ∃ rv', Ix w2 b bv cv 0 1 rv' ∧ Post w2 rv') :
    Calls Tryd.prog 55 #[.pointer (some ⟨b, 2, none⟩), .func (.func 56) #[] #[.pointer (some pl)]] w fun e w' => e = .returned (.tuple #[]) ∧
      ∃ w2 rv', Ix w2 b bv cv 0 1 rv' ∧ Post w2 rv' ∧ w' = (w2.drew.setCell ⟨b, 2, none⟩ (.int .u32 1)).setCell ⟨b, 3, none⟩ (.int .i32 0) := by
  have h3 : w.cell? ⟨b, 2, none⟩ = some (.int .u32 0) := blk_cell h 2
  have hnot : ∀ (x : Bool) (w : World), (Op.unary .not (.bool x)).run Tryd.prog w = .ok (.bool (!x)) w := fun _ _ => rfl
  have sl := hide (slow_gen b pl bv cv nm Post w h hcl)
  clear h hcl
  go_enter Tryd.func55, Tryd.ntmps55
  go_wp2_with (first | (go_at_call 68; refine (boolLoad _ _ _ h3).mono ?_; rintro e w' ⟨rfl, rfl⟩) | (go_at_call 69; refine sl.out.mono ?_; rintro e w' ⟨rfl, hx⟩))
  go_end0
  exact ⟨rfl, hx⟩

/-- '(*sync.Once).Do', done already: the function is not called. -/
theorem do_done (a : Addr) (fv : Value) (w : World) (h0 : w.cell? a = some (.int .u32 1)) :
    Calls Tryd.prog 55 #[.pointer (some a), fv] w fun e w' => e = .returned (.tuple #[]) ∧ w = w' := by
  have hnot : ∀ (x : Bool) (w : World), (Op.unary .not (.bool x)).run Tryd.prog w = .ok (.bool (!x)) w := fun _ _ => rfl
  go_enter Tryd.func55, Tryd.ntmps55
  go_wp2_with (go_at_call 68; refine (boolLoad _ _ _ h0).mono ?_; rintro e w' ⟨rfl, rfl⟩)
  go_end0
  exact ⟨rfl, rfl⟩

end Go.Proofs.YtdoohocdaacnaaaDoor
