/- Contracts of budget's readers, take, Spend, New, Split. -/
import Derived.Test.YtjghglkeppagaaaOnce
namespace Go.Proofs.Ytjghglkeppagaaa
open Go.RowKit

theorem left_any (b : Nat) (l u d : Int) (w : World) (h : Bud w b l u d) :
    Calls Try.prog 14 #[.pointer (some ⟨b, 0, none⟩)] w fun e w' => e = .returned (.int .i64 l) ∧ w = w' := by
  have h0 := h.cell 0
  go_enter Try.func14, Try.ntmps14
  go_wp2_with (go_at_call 23; refine (int64Load _ _ _ h0).mono ?_; rintro e w' ⟨rfl, rfl⟩)
  go_ret
  exact ⟨rfl, rfl⟩

theorem left_nil (w : World) :
    Calls Try.prog 14 #[.pointer none] w fun e w' => e = .returned (.int .i64 0) ∧ w = w' := by
  go_enter Try.func14, Try.ntmps14
  go_wp2_with fail
  go_ret
  exact ⟨rfl, rfl⟩

theorem used_any (b : Nat) (l u d : Int) (w : World) (h : Bud w b l u d) :
    Calls Try.prog 21 #[.pointer (some ⟨b, 0, none⟩)] w fun e w' => e = .returned (.int .i64 u) ∧ w = w' := by
  have h0 := h.cell 1
  go_enter Try.func21, Try.ntmps21
  go_wp2_with (go_at_call 23; refine (int64Load _ _ _ h0).mono ?_; rintro e w' ⟨rfl, rfl⟩)
  go_ret
  exact ⟨rfl, rfl⟩

theorem used_nil (w : World) :
    Calls Try.prog 21 #[.pointer none] w fun e w' => e = .returned (.int .i64 0) ∧ w = w' := by
  go_enter Try.func21, Try.ntmps21
  go_wp2_with fail
  go_ret
  exact ⟨rfl, rfl⟩

theorem dry_any (b : Nat) (l u d : Int) (w : World) (h : Bud w b l u d) :
    Calls Try.prog 15 #[.pointer (some ⟨b, 0, none⟩)] w fun e w' => e = .returned (.bool (d != 0)) ∧ w = w' := by
  have h0 := h.cell 5
  go_enter Try.func15, Try.ntmps15
  go_wp2_with (go_at_call 24; refine (boolLoad _ _ _ h0).mono ?_; rintro e w' ⟨rfl, rfl⟩)
  go_ret
  exact ⟨rfl, rfl⟩

theorem dry_nil (w : World) :
    Calls Try.prog 15 #[.pointer none] w fun e w' => e = .returned (.bool true) ∧ w = w' := by
  go_enter Try.func15, Try.ntmps15
  go_wp2_with fail
  go_ret
  exact ⟨rfl, rfl⟩

theorem take_world {w : World} {b : Nat} {l u d : Int} (h : Bud w b l u d) (x y : Int) :
    Bud ((w.setCell ⟨b, 0, none⟩ (.int .i64 x)).setCell ⟨b, 1, none⟩ (.int .i64 y)) b x y d ∧
    w.grownBy ((w.setCell ⟨b, 0, none⟩ (.int .i64 x)).setCell ⟨b, 1, none⟩ (.int .i64 y)) (some b) :=
  ⟨setCell_at (setCell_at h 0 (.int .i64 x)) 1 (.int .i64 y), grownBy_trans (grownBy_setCell w ⟨b, 0, none⟩ _) (grownBy_setCell _ ⟨b, 1, none⟩ _)⟩

/-- 'take': of the left one, to the used one. -/
theorem take_any (b : Nat) (l u d n : Int) (w : World) (hn : -9223372036854775807 ≤ n ∧ n ≤ 9223372036854775807) (h : Bud w b l u d) :
    Calls Try.prog 25 #[.pointer (some ⟨b, 0, none⟩), .int .i64 n] w fun e w' => e = .returned (.tuple #[]) ∧ Bud w' b (wrap64 (l - n)) (wrap64 (u + n)) d ∧ w.grownBy w' (some b) := by
  have h0 := h.cell 0
  have f0 := h.free 0
  have h1 : (w.setCell ⟨b, 0, none⟩ (.int .i64 (wrap64 (l + -n)))).cell? ⟨b, 1, none⟩ = some (.int .i64 u) := (World.cell?_setCell_other _ ⟨b, 0, none⟩ ⟨b, 1, none⟩ _ (by simp)).trans (h.cell 1)
  have f1 : (w.setCell ⟨b, 0, none⟩ (.int .i64 (wrap64 (l + -n)))).frozen? ⟨b, 1, none⟩ = false := by simp [h.free 1]
  have tw := take_world h (wrap64 (l + -n)) (wrap64 (u + n))
  have e : l + -n = l - n := rfl
  rw [← e]
  clear h e
  obtain ⟨n1, n2⟩ := hn
  go_enter Try.func25, Try.ntmps25
  go_wp2_with fail
  refine (int64Add _ _ _ _ h0 f0).mono ?_
  rintro e w' ⟨rfl, rfl⟩
  go_wp2_with fail
  refine (int64Add _ _ _ _ h1 f1).mono ?_
  rintro e w' ⟨rfl, rfl⟩
  go_wp2_with fail
  go_end0
  exact ⟨rfl, tw⟩

/-- The number in the two words of a budget that tell whether it is dry. -/
def bi (d : Bool) : Int := if d then 1 else 0
theorem bi_ne (d : Bool) : (bi d != 0) = d := by cases d <;> rfl
theorem bi_or (d : Bool) : bi d = 0 ∨ bi d = 1 := by cases d <;> simp [bi]

/-- The block b holds the program's budget of these numbers. -/
def PB (w : World) (b : Nat) (l u : Int) (d : Bool) : Prop := Bud w b l u (bi d)

theorem PB.lt {w : World} {b : Nat} {l u : Int} {d : Bool} (h : PB w b l u d) : b < w.heap.size := Bud.lt h
theorem PB.chg {w w' : World} {b : Nat} {l u : Int} {d : Bool} (h : PB w b l u d) {S : Nat → Prop} (g : Chg S w w') (hne : ¬ S b) : PB w' b l u d := Bud.chg h g hne

theorem pLeft (b : Nat) (l u : Int) (d : Bool) (w : World) (h : PB w b l u d) :
    Calls Try.prog 14 #[.pointer (some ⟨b, 0, none⟩)] w fun e w' => e = .returned (.int .i64 l) ∧ w = w' := left_any b l u _ w h
theorem pUsed (b : Nat) (l u : Int) (d : Bool) (w : World) (h : PB w b l u d) :
    Calls Try.prog 21 #[.pointer (some ⟨b, 0, none⟩)] w fun e w' => e = .returned (.int .i64 u) ∧ w = w' := used_any b l u _ w h
theorem pDry (b : Nat) (l u : Int) (d : Bool) (w : World) (h : PB w b l u d) :
    Calls Try.prog 15 #[.pointer (some ⟨b, 0, none⟩)] w fun e w' => e = .returned (.bool d) ∧ w = w' := by
  have := dry_any b l u _ w h
  rw [bi_ne] at this
  exact this
theorem wrap_in (n : Int) (h : -9223372036854775808 ≤ n ∧ n ≤ 9223372036854775807) : wrap64 n = n := IntWalk.wrap64_in n h
theorem pTake (b : Nat) (l u n : Int) (d : Bool) (w : World) (h : PB w b l u d) (hl : 0 ≤ l ∧ l ≤ 1000000000) (hu : -1000000000000 ≤ u ∧ u ≤ 1000000000000) (hn : -1000000000 ≤ n ∧ n ≤ 1000000000) :
    Calls Try.prog 25 #[.pointer (some ⟨b, 0, none⟩), .int .i64 n] w fun e w' => e = .returned (.tuple #[]) ∧ PB w' b (l - n) (u + n) d ∧ Chg (fun k => k = b) w w' := by
  have := take_any b l u _ n w (by omega) h
  rw [wrap_in (l - n) (by omega), wrap_in (u + n) (by omega)] at this
  exact this.mono fun _ _ ⟨h1, h2, h3⟩ => ⟨h1, h2, Chg.of_grown h3⟩
theorem pDried (b : Nat) (l u : Int) (d : Bool) (w : World) (h : PB w b l u d) :
    Calls Try.prog 26 #[.pointer (some ⟨b, 0, none⟩)] w fun e w' => e = .returned (.tuple #[]) ∧ PB w' b l u true ∧ Chg (fun k => k = b) w w' :=
  (dried_any b l u _ (bi_or d) w h).mono fun _ _ ⟨h1, h2, h3⟩ => ⟨h1, h2, Chg.of_grown h3⟩

theorem pNew_at (n m : Int) (hm : (n < 0 ∧ m = 0) ∨ (0 ≤ n ∧ m = n)) (w : World) :
    Calls Try.prog 8 #[.int .i64 n] w fun e w' => e = .returned (.pointer (some ⟨w.heap.size, 0, none⟩)) ∧ PB w' w.heap.size m 0 false ∧ Chg (fun _ => False) w w' := by
  obtain ⟨W, hW⟩ : ∃ W, W = w.alloc (.cells #[.int .i64 0, .int .i64 0, .int .u32 0, .int .i32 0, .int .u32 0, .int .u32 0] 60) := ⟨_, rfl⟩
  have b0 : Bud W w.heap.size 0 0 0 := by rw [hW]; exact heap_alloc_new w _
  have c0 := b0.cell 0
  have f0 := b0.free 0
  have b1 : Bud (W.setCell ⟨w.heap.size, 0, none⟩ (.int .i64 m)) w.heap.size m 0 0 := setCell_at b0 0 _
  have g1 : Chg (fun _ => False) w (W.setCell ⟨w.heap.size, 0, none⟩ (.int .i64 m)) := by
    rw [hW]
    exact ((Chg.refl _ _).alloc _).setCell (Or.inr (Nat.le_refl _)) _
  have st := (int64Store _ _ m W c0 f0).mono (R' := fun e w' => e = .returned (.tuple #[]) ∧ PB w' w.heap.size m 0 false ∧ Chg (fun _ => False) w w') (fun _ _ ⟨he, hw⟩ => ⟨he, by rw [hw]; exact b1, by rw [hw]; exact g1⟩)
  rw [hW] at st
  clear b0 c0 f0 b1 g1 hW
  have St := hide st
  clear st
  rcases hm with ⟨h, rfl⟩ | ⟨h, rfl⟩
  · go_enter Try.func8, Try.ntmps8
    go_wp2_with fail
    · refine St.out.mono ?_
      rintro e w' ⟨rfl, h1, h2⟩
      go_wp2_with fail
      go_ret
      exact ⟨rfl, h1, h2⟩
  · go_enter Try.func8, Try.ntmps8
    go_wp2_with fail
    · refine St.out.mono ?_
      rintro e w' ⟨rfl, h1, h2⟩
      go_wp2_with fail
      go_ret
      exact ⟨rfl, h1, h2⟩

theorem pNew (n : Int) (w : World) :
    Calls Try.prog 8 #[.int .i64 n] w fun e w' => e = .returned (.pointer (some ⟨w.heap.size, 0, none⟩)) ∧ PB w' w.heap.size (max n 0) 0 false ∧ Chg (fun _ => False) w w' :=
  pNew_at n (max n 0) (by omega) w

/-- 'Spend' of a number below 0. -/
theorem pSpend_neg (p : Option Addr) (n : Int) (hn : n < 0) (w : World) :
    Calls Try.prog 16 #[.pointer p, .int .i64 n] w fun e w' => e = .returned (.bool false) ∧ w = w' := by
  cases p
  · go_enter Try.func16, Try.ntmps16
    go_wp2_with fail
    go_ret
    exact ⟨rfl, rfl⟩
  · go_enter Try.func16, Try.ntmps16
    go_wp2_with fail
    go_ret
    exact ⟨rfl, rfl⟩

theorem pSpend_nil (n : Int) (w : World) :
    Calls Try.prog 16 #[.pointer none, .int .i64 n] w fun e w' => e = .returned (.bool false) ∧ w = w' := by
  go_enter Try.func16, Try.ntmps16
  go_wp2_with fail
  all_goals
    go_ret
    exact ⟨rfl, rfl⟩

theorem pSpend_yes (b : Nat) (l u n : Int) (w : World) (h : PB w b l u false) (hn : 0 ≤ n) (hnl : n ≤ l) (hl : l ≤ 1000000000) (hu : -1000000000000 ≤ u ∧ u ≤ 1000000000000) :
    Calls Try.prog 16 #[.pointer (some ⟨b, 0, none⟩), .int .i64 n] w fun e w' => e = .returned (.bool true) ∧ PB w' b (l - n) (u + n) false ∧ Chg (fun k => k = b) w w' := by
  have hx : ¬ n < 0 := by omega
  have hy : ¬ l < n := by omega
  have c1 := hide (pDry b l u false w h)
  have c2 := hide (pLeft b l u false w h)
  have c3 := hide (pTake b l u n false w h (by omega) hu (by omega))
  clear h
  go_enter Try.func16, Try.ntmps16
  go_wp2_with fail
  refine c1.out.mono ?_
  rintro e w' ⟨rfl, rfl⟩
  go_wp2_with fail
  refine c2.out.mono ?_
  rintro e w' ⟨rfl, rfl⟩
  go_wp2_with fail
  refine c3.out.mono ?_
  rintro e w' ⟨rfl, h1, h2⟩
  go_wp2_with fail
  go_ret
  exact ⟨rfl, h1, h2⟩

theorem pSpend_no (b : Nat) (l u n : Int) (d : Bool) (w : World) (h : PB w b l u d) (hn : 0 ≤ n) (hnl : d = true ∨ l < n) (hl0 : 0 ≤ l) (hl : l ≤ 1000000000) (hu : -1000000000000 ≤ u ∧ u ≤ 1000000000000) :
    Calls Try.prog 16 #[.pointer (some ⟨b, 0, none⟩), .int .i64 n] w fun e w' => e = .returned (.bool false) ∧ PB w' b 0 (u + l) true ∧ Chg (fun k => k = b) w w' := by
  have hx : ¬ n < 0 := by omega
  have c1 := hide (pDry b l u d w h)
  have c2 := hide (pLeft b l u d w h)
  have c3 := pTake b l u l d w h (by omega) hu (by omega)
  rw [show l - l = 0 by omega] at c3
  have C3 := hide c3
  clear c3 h
  cases d
  · have hy : l < n := by rcases hnl with h | h; cases h; exact h
    clear hnl
    go_enter Try.func16, Try.ntmps16
    go_wp2_with fail
    refine c1.out.mono ?_
    rintro e w' ⟨rfl, rfl⟩
    go_wp2_with fail
    refine c2.out.mono ?_
    rintro e w' ⟨rfl, rfl⟩
    go_wp2_with fail
    refine c2.out.mono ?_
    rintro e w' ⟨rfl, rfl⟩
    go_wp2_with fail
    refine C3.out.mono ?_
    rintro e w1 ⟨rfl, h1, h2⟩
    go_wp2_with fail
    refine (pDried _ _ _ _ _ h1).mono ?_
    rintro e w2 ⟨rfl, h3, h4⟩
    go_wp2_with fail
    go_ret
    exact ⟨rfl, h3, h2.trans h4⟩
  · clear hnl
    go_enter Try.func16, Try.ntmps16
    go_wp2_with fail
    refine c1.out.mono ?_
    rintro e w' ⟨rfl, rfl⟩
    go_wp2_with fail
    refine c2.out.mono ?_
    rintro e w' ⟨rfl, rfl⟩
    go_wp2_with fail
    refine C3.out.mono ?_
    rintro e w1 ⟨rfl, h1, h2⟩
    go_wp2_with fail
    refine (pDried _ _ _ _ _ h1).mono ?_
    rintro e w2 ⟨rfl, h3, h4⟩
    go_wp2_with fail
    go_ret
    exact ⟨rfl, h3, h2.trans h4⟩

end Go.Proofs.Ytjghglkeppagaaa
