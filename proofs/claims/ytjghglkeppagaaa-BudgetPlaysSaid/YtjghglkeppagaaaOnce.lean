/- Contracts of sync.Once as the budget uses it: Do at a fresh once (the lock free), and at one that is done. -/
import Derived.Test.YtjghglkeppagaaaAtom
namespace Go.Proofs.Ytjghglkeppagaaa
open Go.RowKit

theorem disable (w : World) : (callFunc 42 #[]).run Try.prog w = .ok (.value (.tuple #[])) w := run_call_mark0 Try.func42 (by kernel_rfl) (by kernel_rfl) (by kernel_rfl) .disable (by kernel_rfl) w
theorem enable (w : World) : (callFunc 44 #[]).run Try.prog w = .ok (.value (.tuple #[])) w := run_call_mark0 Try.func44 (by kernel_rfl) (by kernel_rfl) (by kernel_rfl) .enable (by kernel_rfl) w
theorem acquire (a : Addr) (w : World) : (callFunc 45 #[.pointer (some a)]).run Try.prog w = .ok (.value (.tuple #[])) w := run_call_marked Try.func45 (by kernel_rfl) (by kernel_rfl) (by kernel_rfl) .acquire (by kernel_rfl) a w
theorem releaseMerge (a : Addr) (w : World) : (callFunc 47 #[.pointer (some a)]).run Try.prog w = .ok (.value (.tuple #[])) w := run_call_marked Try.func47 (by kernel_rfl) (by kernel_rfl) (by kernel_rfl) .releaseMerge (by kernel_rfl) a w

/-- '(*sync/atomic.Bool).Store(true)' entered as a deferred call. -/
theorem store_deferred (a : Addr) (x : Value) (u : FrameMode) (w : World) (hc : w.cell? a = some x) (hz : w.frozen? a = false) :
    CallsD Try.prog 33 #[.pointer (some a), .bool true] u w fun e u' w' => u' = u ∧ (e = .returned (.tuple #[]) ∧ w' = w.drew.setCell a (.int .u32 1)) := by
  have hc' : w.drew.cell? a = some x := by go_simp
  have hz' : w.drew.frozen? a = false := by go_simp
  have hst := run_call_store (P := Try.prog) Try.func36 (by kernel_rfl) (by kernel_rfl) (by kernel_rfl) (by kernel_rfl) (k := .u32) (y := 1) hc' hz'
  go_enter_d Try.func33, Try.ntmps33
  go_wp2
  go_region_calls
  all_goals (go_end0; exact ⟨rfl, rfl⟩)

/-- '(*sync/atomic.Bool).Store(true)' called. -/
theorem boolStore (a : Addr) (x : Value) (w : World) (hc : w.cell? a = some x) (hz : w.frozen? a = false) :
    Calls Try.prog 33 #[.pointer (some a), .bool true] w fun e w' => e = .returned (.tuple #[]) ∧ w' = w.drew.setCell a (.int .u32 1) := by
  have hc' : w.drew.cell? a = some x := by go_simp
  have hz' : w.drew.frozen? a = false := by go_simp
  have hst := run_call_store (P := Try.prog) Try.func36 (by kernel_rfl) (by kernel_rfl) (by kernel_rfl) (by kernel_rfl) (k := .u32) (y := 1) hc' hz'
  go_enter Try.func33, Try.ntmps33
  go_wp2
  go_region_calls
  all_goals (go_end0; exact ⟨rfl, rfl⟩)

theorem unlock_deferred (a : Addr) (u : FrameMode) (w : World) (hc : w.cell? a = some (.int .i32 1)) (hz : w.frozen? a = false) :
    CallsD Try.prog 39 #[.pointer (some a)] u w fun e u' w' => u' = u ∧ (e = .returned (.tuple #[]) ∧ w' = w.setCell a (.int .i32 0)) := by
  have hd := disable
  have he := enable
  have hr := releaseMerge
  have hadd := run_call_add (P := Try.prog) Try.func48 (by kernel_rfl) (by kernel_rfl) (by kernel_rfl) .i32 (by kernel_rfl) (y := -1) (s := 0) hc hz (by simp [go_sem]; rfl)
  have hcv := run_convert_to_unsafe (P := Try.prog) (src := 82) (dst := 86) Try.underlying82 Try.underlying86 (by kernel_rfl) hc
  go_enter_d Try.func39, Try.ntmps39
  go_wp2
  go_end0
  exact ⟨rfl, rfl⟩

theorem lock_free (a : Addr) (w : World) (hc : w.cell? a = some (.int .i32 0)) (hz : w.frozen? a = false) :
    Calls Try.prog 38 #[.pointer (some a)] w fun e w' => e = .returned (.tuple #[]) ∧ w' = w.setCell a (.int .i32 1) := by
  have hd := disable
  have he := enable
  have ha := acquire
  have hcas := run_call_cas_hit (P := Try.prog) Try.func43 (by kernel_rfl) (by kernel_rfl) (by kernel_rfl) .i32 (by kernel_rfl) (y := 1) hc hz
  have hc' : (w.setCell a (.int .i32 1)).cell? a = some (.int .i32 1) := World.cell?_setCell_same w a _ hc
  have hcv := run_convert_to_unsafe (P := Try.prog) (src := 82) (dst := 86) Try.underlying82 Try.underlying86 (by kernel_rfl) hc'
  go_enter Try.func38, Try.ntmps38
  go_wp2
  go_end0
  exact ⟨rfl, rfl⟩

/-- The closure of 'dried'. -/
theorem driedClosure (b : Nat) (pl : Addr) (x5 : Value) (w : World) (hp : w.cell? pl = some (.pointer (some ⟨b, 0, none⟩)))
    (h5 : w.cell? ⟨b, 5, none⟩ = some x5) (f5 : w.frozen? ⟨b, 5, none⟩ = false) :
    Calls Try.prog 32 #[.pointer (some pl)] w fun e w' => e = .returned (.tuple #[]) ∧ w' = w.drew.setCell ⟨b, 5, none⟩ (.int .u32 1) := by
  go_enter Try.func32, Try.ntmps32
  go_wp2_with (go_at_call 33; refine (boolStore _ _ _ h5 f5).mono ?_; rintro e w' ⟨rfl, rfl⟩)
  go_end0
  exact ⟨rfl, rfl⟩

set_option maxRecDepth 100000 in
set_option maxHeartbeats 1600000 in
theorem slow_any (b : Nat) (pl : Addr) (hpb : ¬ b = pl.block) (x5 : Value) (w : World) (hp : w.cell? pl = some (.pointer (some ⟨b, 0, none⟩)))
    (h2 : w.cell? ⟨b, 2, none⟩ = some (.int .u32 0)) (h3 : w.cell? ⟨b, 3, none⟩ = some (.int .i32 0)) (h5 : w.cell? ⟨b, 5, none⟩ = some x5)
    (f2 : w.frozen? ⟨b, 2, none⟩ = false) (f3 : w.frozen? ⟨b, 3, none⟩ = false) (f5 : w.frozen? ⟨b, 5, none⟩ = false) :
    Calls Try.prog 35 #[.pointer (some ⟨b, 2, none⟩), .func (.func 32) #[] #[.pointer (some pl)]] w fun e w' => e = .returned (.tuple #[]) ∧
      w' = ((((w.setCell ⟨b, 3, none⟩ (.int .i32 1)).drew.setCell ⟨b, 5, none⟩ (.int .u32 1)).drew.setCell ⟨b, 2, none⟩ (.int .u32 1)).setCell ⟨b, 3, none⟩ (.int .i32 0)) := by
  have hl : (w.setCell ⟨b, 3, none⟩ (.int .i32 1)).cell? ⟨b, 2, none⟩ = some (.int .u32 0) := (World.cell?_setCell_other _ ⟨b, 3, none⟩ ⟨b, 2, none⟩ _ (by simp)).trans h2
  have hp1 : (w.setCell ⟨b, 3, none⟩ (.int .i32 1)).cell? pl = some (.pointer (some ⟨b, 0, none⟩)) := (World.cell?_setCell_other _ ⟨b, 3, none⟩ pl _ (fun h => hpb (by rw [← h]))).trans hp
  have h51 : (w.setCell ⟨b, 3, none⟩ (.int .i32 1)).cell? ⟨b, 5, none⟩ = some x5 := (World.cell?_setCell_other _ ⟨b, 3, none⟩ ⟨b, 5, none⟩ _ (by simp)).trans h5
  have f51 : (w.setCell ⟨b, 3, none⟩ (.int .i32 1)).frozen? ⟨b, 5, none⟩ = false := by simp [f5]
  have hnot : ∀ (x : Bool) (w : World), (Op.unary .not (.bool x)).run Try.prog w = .ok (.bool (!x)) w := fun _ _ => rfl
  go_enter_defers Try.func35, Try.ntmps35
  go_wp2_with (first | (go_at_call 38; refine (lock_free ⟨b, 3, none⟩ _ (by go_simp) (by go_simp)).mono ?_; rintro e w' ⟨rfl, rfl⟩) | (go_at_call 24; refine (boolLoad _ _ _ hl).mono ?_; rintro e w' ⟨rfl, rfl⟩) | (go_at_call 32; refine (driedClosure b pl x5 _ hp1 h51 f51).mono ?_; rintro e w' ⟨rfl, rfl⟩))
  refine leaves_cons (f := 33) (args := #[.pointer (some ⟨b, 2, none⟩), .bool true]) (by simp) (by simp [go_sem]) ?_
  refine (store_deferred ⟨b, 2, none⟩ (.int .u32 0) .returning _ ?_ (by simp [f2])).mono ?_
  · rw [World.cell?_drew]
    exact (World.cell?_setCell_other _ ⟨b, 5, none⟩ ⟨b, 2, none⟩ _ (by simp)).trans ((World.cell?_setCell_other _ ⟨b, 3, none⟩ ⟨b, 2, none⟩ _ (by simp)).trans h2)
  rintro e u' w'' ⟨rfl, rfl, rfl⟩
  refine leaves_cons (f := 39) (args := #[.pointer (some ⟨b, 3, none⟩)]) (by simp [settle]) (by simp [go_sem]) ?_
  refine (unlock_deferred ⟨b, 3, none⟩ _ _ ?_ (by simp [f3])).mono ?_
  · refine (World.cell?_setCell_other _ ⟨b, 2, none⟩ ⟨b, 3, none⟩ _ (by simp)).trans ?_
    rw [World.cell?_drew, World.cell?_drew]
    exact (World.cell?_setCell_other _ ⟨b, 5, none⟩ ⟨b, 3, none⟩ _ (by simp)).trans (World.cell?_setCell_same w _ _ h3)
  rintro e u' w'' ⟨rfl, rfl, rfl⟩
  simp [Leaves, settle, results, Try.results35]
  rfl

/-- '(*sync.Once).Do', not yet done. -/
theorem do_first (b : Nat) (pl : Addr) (hpb : ¬ b = pl.block) (x5 : Value) (w : World) (hp : w.cell? pl = some (.pointer (some ⟨b, 0, none⟩)))
    (h2 : w.cell? ⟨b, 2, none⟩ = some (.int .u32 0)) (h3 : w.cell? ⟨b, 3, none⟩ = some (.int .i32 0)) (h5 : w.cell? ⟨b, 5, none⟩ = some x5)
    (f2 : w.frozen? ⟨b, 2, none⟩ = false) (f3 : w.frozen? ⟨b, 3, none⟩ = false) (f5 : w.frozen? ⟨b, 5, none⟩ = false) :
    Calls Try.prog 31 #[.pointer (some ⟨b, 2, none⟩), .func (.func 32) #[] #[.pointer (some pl)]] w fun e w' => e = .returned (.tuple #[]) ∧
      w' = ((((w.setCell ⟨b, 3, none⟩ (.int .i32 1)).drew.setCell ⟨b, 5, none⟩ (.int .u32 1)).drew.setCell ⟨b, 2, none⟩ (.int .u32 1)).setCell ⟨b, 3, none⟩ (.int .i32 0)) := by
  have hnot : ∀ (x : Bool) (w : World), (Op.unary .not (.bool x)).run Try.prog w = .ok (.bool (!x)) w := fun _ _ => rfl
  go_enter Try.func31, Try.ntmps31
  go_wp2_with (first | (go_at_call 24; refine (boolLoad _ _ _ h2).mono ?_; rintro e w' ⟨rfl, rfl⟩) | (go_at_call 35; refine (slow_any b pl hpb x5 _ hp h2 h3 h5 f2 f3 f5).mono ?_; rintro e w' ⟨rfl, rfl⟩))
  go_end0
  exact ⟨rfl, rfl⟩

/-- '(*sync.Once).Do', done already: the function is not called. -/
theorem do_done (a : Addr) (fv : Value) (w : World) (h0 : w.cell? a = some (.int .u32 1)) :
    Calls Try.prog 31 #[.pointer (some a), fv] w fun e w' => e = .returned (.tuple #[]) ∧ w = w' := by
  have hnot : ∀ (x : Bool) (w : World), (Op.unary .not (.bool x)).run Try.prog w = .ok (.bool (!x)) w := fun _ _ => rfl
  go_enter Try.func31, Try.ntmps31
  go_wp2_with (go_at_call 24; refine (boolLoad _ _ _ h0).mono ?_; rintro e w' ⟨rfl, rfl⟩)
  go_end0
  exact ⟨rfl, rfl⟩

theorem once_world {w : World} {b : Nat} {l u : Int} (h : Bud w b l u 0) :
    Bud ((((w.setCell ⟨b, 3, none⟩ (.int .i32 1)).drew.setCell ⟨b, 5, none⟩ (.int .u32 1)).drew.setCell ⟨b, 2, none⟩ (.int .u32 1)).setCell ⟨b, 3, none⟩ (.int .i32 0)) b l u 1 ∧
    w.grownBy ((((w.setCell ⟨b, 3, none⟩ (.int .i32 1)).drew.setCell ⟨b, 5, none⟩ (.int .u32 1)).drew.setCell ⟨b, 2, none⟩ (.int .u32 1)).setCell ⟨b, 3, none⟩ (.int .i32 0)) (some b) := by
  refine ⟨?_, ?_⟩
  · have a1 := setCell_at h 3 (.int .i32 1)
    have a2 := setCell_at (w := (w.setCell ⟨b, 3, none⟩ (.int .i32 1)).drew) a1 5 (.int .u32 1)
    have a3 := setCell_at (w := ((w.setCell ⟨b, 3, none⟩ (.int .i32 1)).drew.setCell ⟨b, 5, none⟩ (.int .u32 1)).drew) a2 2 (.int .u32 1)
    exact setCell_at a3 3 (.int .i32 0)
  · exact grownBy_trans (grownBy_trans (grownBy_drew (grownBy_trans (grownBy_drew (grownBy_setCell w ⟨b, 3, none⟩ _)) (grownBy_setCell _ ⟨b, 5, none⟩ _))) (grownBy_setCell _ ⟨b, 2, none⟩ _)) (grownBy_setCell _ ⟨b, 3, none⟩ _)

/-- 'dried': a budget is dry behind it. -/
theorem dried_any (b : Nat) (l u d : Int) (hd : d = 0 ∨ d = 1) (w : World) (h : Bud w b l u d) :
    Calls Try.prog 26 #[.pointer (some ⟨b, 0, none⟩)] w fun e w' => e = .returned (.tuple #[]) ∧ Bud w' b l u 1 ∧ w.grownBy w' (some b) := by
  have hlt := h.lt
  have hmf : ∀ (fn : Fn) (first cap : Array Value) (w : World), (Instr.makeFunc fn first cap).run Try.prog w = .ok (.func fn first cap) w := fun _ _ _ _ => rfl
  have h1 : Bud (w.alloc (.cells #[.pointer (some ⟨b, 0, none⟩)] 24)) b l u d := by unfold Bud; rw [Below.heap_alloc _ _ _ hlt]; exact h
  have hp : (w.alloc (.cells #[.pointer (some ⟨b, 0, none⟩)] 24)).cell? ⟨w.heap.size, 0, none⟩ = some (.pointer (some ⟨b, 0, none⟩)) := by simp
  have g1 : w.grownBy (w.alloc (.cells #[.pointer (some ⟨b, 0, none⟩)] 24)) (some b) := World.grownBy_alloc _ _ _
  rcases hd with rfl | rfl
  · have hdo := do_first b ⟨w.heap.size, 0, none⟩ (by simp; omega) _ _ hp (h1.cell 2) (h1.cell 3) (h1.cell 5) (h1.free 2) (h1.free 3) (h1.free 5)
    have ow := once_world h1
    have hdo' := hdo.mono (R' := fun e w' => e = .returned (.tuple #[]) ∧ Bud w' b l u 1 ∧ w.grownBy w' (some b)) (fun e w' ⟨he, hw⟩ => ⟨he, by rw [hw]; exact ow.1, by rw [hw]; exact grownBy_trans g1 ow.2⟩)
    clear hdo ow h1 g1 h
    go_enter Try.func26, Try.ntmps26
    go_wp2_with (go_at_call 31; refine hdo'.mono ?_; rintro e w' ⟨rfl, h1, h2⟩)
    go_end0
    exact ⟨rfl, h1, h2⟩
  · have hdo := do_done ⟨b, 2, none⟩ (.func (.func 32) #[] #[.pointer (some ⟨w.heap.size, 0, none⟩)]) _ (h1.cell 2)
    have hdo' := hdo.mono (R' := fun e w' => e = .returned (.tuple #[]) ∧ Bud w' b l u 1 ∧ w.grownBy w' (some b)) (fun e w' ⟨he, hw⟩ => ⟨he, by rw [← hw]; exact h1, by rw [← hw]; exact g1⟩)
    clear hdo h1 g1 h
    go_enter Try.func26, Try.ntmps26
    go_wp2_with (go_at_call 31; refine hdo'.mono ?_; rintro e w' ⟨rfl, h1, h2⟩)
    go_end0
    exact ⟨rfl, h1, h2⟩
end Go.Proofs.Ytjghglkeppagaaa
