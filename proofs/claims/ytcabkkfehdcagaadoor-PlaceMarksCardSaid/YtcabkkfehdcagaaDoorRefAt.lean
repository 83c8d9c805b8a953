/- The reference's At: a place byte by byte. -/
import Derived.Test.YtcabkkfehdcagaaDoorRef
namespace Go.Proofs.YtcabkkfehdcagaaDoor
open Go.RowKit
set_option linter.unusedVariables false
set_option linter.unusedSimpArgs false

def RefAtSays (s : ByteArray) (x y : Int) (e : Ending) : Prop :=
  (∃ k : Nat, k ≤ s.size ∧ markOf (s.data.toList.take k) = (x, y) ∧ e = .returned (.tuple #[.int .i64 k, .bool true])) ∨
  ((∀ k : Nat, k ≤ s.size → markOf (s.data.toList.take k) ≠ (x, y)) ∧ e = .returned (.tuple #[.int .i64 0, .bool false]))

theorem mark_step10 (s : ByteArray) (j : Nat) (h : j < s.size) (h10 : s[j] = 10) : markOf (s.data.toList.take (j + 1)) = ((markOf (s.data.toList.take j)).1 + 1, 1) := by
  rw [markOf_at s j h]; unfold stepMark; rw [if_pos h10]
theorem mark_stepN (s : ByteArray) (j : Nat) (h : j < s.size) (h10 : s[j] ≠ 10) : markOf (s.data.toList.take (j + 1)) = ((markOf (s.data.toList.take j)).1, (markOf (s.data.toList.take j)).2 + 1) := by
  rw [markOf_at s j h]; unfold stepMark; rw [if_neg h10]

set_option maxRecDepth 100000 in
set_option maxHeartbeats 4000000 in
theorem refAt_any (s : ByteArray) (hs : s.size ≤ 1000000) (x y : Int) (w : World) :
    Calls Tryd.prog 20 #[.string s, .agg #[.int .i64 x, .int .i64 y]] w fun e w' => RefAtSays s x y e ∧ Below w.heap.size w w' := by
  go_enter Tryd.func20, Tryd.ntmps20
  go_wp2_with fail
  have a0 : ((w.alloc (Obj.cells #[Value.int IntKind.i64 x, Value.int IntKind.i64 y] 23)).alloc (Obj.cells #[Value.int IntKind.i64 1, Value.int IntKind.i64 1] 23)).heap[w.heap.size]? = some (Obj.cells #[Value.int IntKind.i64 x, Value.int IntKind.i64 y] 23) := blk_alloc (blk_new w _)
  have a1 := blk_new (w.alloc (Obj.cells #[Value.int IntKind.i64 x, Value.int IntKind.i64 y] 23)) (Obj.cells #[Value.int IntKind.i64 1, Value.int IntKind.i64 1] 23)
  simp only [World.size_alloc] at a1
  have hB0 : Below w.heap.size w ((w.alloc (Obj.cells #[Value.int IntKind.i64 x, Value.int IntKind.i64 y] 23)).alloc (Obj.cells #[Value.int IntKind.i64 1, Value.int IntKind.i64 1] 23)) := ((Below.refl _ w).alloc (Nat.le_refl _) _).alloc (by simp) _
  generalize ((w.alloc (Obj.cells #[Value.int IntKind.i64 x, Value.int IntKind.i64 y] 23)).alloc (Obj.cells #[Value.int IntKind.i64 1, Value.int IntKind.i64 1] 23)) = W0 at *
  have A0 := hide a0
  have A1 := hide a1
  have HB := hide hB0
  obtain ⟨A, hA⟩ : ∃ A, w.heap.size = A := ⟨_, rfl⟩
  have HA := hide hA
  rw [hA] at A0 A1 ⊢
  clear a0 a1 hB0 hA
  go_loopw [7] (fun i wr => ∃ (k : Nat) (m1 m2 : Int), k ≤ s.size + 1 ∧ i = .int .i64 k ∧ Hid (k ≤ s.size → markOf (s.data.toList.take k) = (m1, m2)) ∧ Hid (∀ j : Nat, j < k → j ≤ s.size → markOf (s.data.toList.take j) ≠ (x, y)) ∧
      Hid (wr.heap[A]? = some (.cells #[.int .i64 x, .int .i64 y] 23)) ∧ Hid (wr.heap[A + 1]? = some (.cells #[.int .i64 m1, .int .i64 m2] 23)) ∧ Hid (Below w.heap.size w wr)) (fun i _ => s.size + 1 - (intOf i).toNat)
  case atStart => exact ⟨0, 1, 1, by omega, rfl, fun _ => rfl, fun j hj => by omega, A0.out, A1.out, HB.out⟩
  case round =>
    obtain ⟨k, m1, m2, hk, rfl, hm, hno, b0, b1, hB⟩ := hrel
    have c00 := blk_cell b0.out 0
    have c01 := blk_cell b0.out 1
    have c10 := blk_cell b1.out 0
    have c11 := blk_cell b1.out 1
    have f10 := blk_free b1.out 0
    have f11 := blk_free b1.out 1
    by_cases hle : k ≤ s.size
    · have hleI : (k : Int) ≤ (s.size : Int) := by omega
      have hmk := hm.out hle
      have bd := markOf_bd (s.data.toList.take k)
      have hlen : (s.data.toList.take k).length = k := by simp; omega
      rw [hlen, hmk] at bd
      obtain ⟨bd1, bd2, bd3, bd4⟩ := bd
      dsimp only at bd1 bd2 bd3 bd4
      clear hlen
      by_cases heq : m1 = x ∧ m2 = y
      · obtain ⟨rfl, rfl⟩ := heq
        have HR : Hid (RefAtSays s m1 m2 (.returned (.tuple #[.int .i64 k, .bool true]))) := .inl ⟨k, hle, hmk, rfl⟩
        clear hmk hm
        go_wp2_with fail
        refine bodyPost_ret (v := .tuple #[.int .i64 k, .bool true]) (by simp [results, Tryd.results20, go_sem]) rfl ⟨HR.out, hB.out⟩
      · have hno2 : Hid (∀ j : Nat, j < k + 1 → j ≤ s.size → markOf (s.data.toList.take j) ≠ (x, y)) := by
          intro j hj hjs
          by_cases hjk : j = k
          · subst hjk
            rw [hmk]
            intro e
            exact heq ⟨(Prod.mk.inj e).1, (Prod.mk.inj e).2⟩
          · exact hno.out j (by omega) hjs
        have hne : (m1 == x && m2 == y) = false := by
          cases h1 : m1 == x
          · rfl
          · cases h2 : m2 == y
            · rfl
            · exact absurd ⟨by simpa using h1, by simpa using h2⟩ heq
        have hne2 : m1 = x → ¬ m2 = y := fun h1 h2 => heq ⟨h1, h2⟩
        have hset : ∀ (n1 n2 : Int), ((wr.setCell ⟨A + 1, 0, none⟩ (.int .i64 n1)).setCell ⟨A + 1, 1, none⟩ (.int .i64 n2)).heap[A]? = some (.cells #[.int .i64 x, .int .i64 y] 23) ∧
            ((wr.setCell ⟨A + 1, 0, none⟩ (.int .i64 n1)).setCell ⟨A + 1, 1, none⟩ (.int .i64 n2)).heap[A + 1]? = some (.cells #[.int .i64 n1, .int .i64 n2] 23) ∧
            Below w.heap.size w ((wr.setCell ⟨A + 1, 0, none⟩ (.int .i64 n1)).setCell ⟨A + 1, 1, none⟩ (.int .i64 n2)) := fun n1 n2 =>
          ⟨blk_other (blk_other b0.out (by omega) _ _) (by omega) _ _, blk_set (blk_set b1.out 0 _) 1 _, (hB.out.setCell (p := ⟨A + 1, 0, none⟩) (by rw [HA.out]; show A ≤ A + 1; omega) _).setCell (p := ⟨A + 1, 1, none⟩) (by rw [HA.out]; show A ≤ A + 1; omega) _⟩
        have HS := hide hset
        clear hset heq hno
        by_cases hlt : k < s.size
        · have hltI : (k : Int) < (s.size : Int) := by omega
          by_cases h10 : s[k] = 10
          · have hb10 : ((s[k].toNat : Int) == 10) = true := by rw [h10]; rfl
            have hnext : Hid (∀ a, m1 = a → k + 1 ≤ s.size → markOf (s.data.toList.take (k + 1)) = (a + 1, 1)) := fun a ha _ => by rw [← ha]; rw [mark_step10 s k hlt h10, hmk]
            clear hmk hm h10
            go_wp2_with fail
            all_goals
              go_roundw
              case rel => exact ⟨k + 1, _, _, by omega, by go_num, hnext.out _ (by first | rfl | assumption), hno2, (HS.out _ _).1, (HS.out _ _).2.1, (HS.out _ _).2.2⟩
              case measure => simp [intOf]; omega
          · have hb10 : ((s[k].toNat : Int) == 10) = false := by rw [byte_beq s[k] 10 10 rfl]; simpa using h10
            have hnext : Hid (∀ a, m1 = a → k + 1 ≤ s.size → markOf (s.data.toList.take (k + 1)) = (a, m2 + 1)) := fun a ha _ => by rw [← ha]; rw [mark_stepN s k hlt h10, hmk]
            clear hmk hm h10
            go_wp2_with fail
            all_goals
              go_roundw
              case rel => exact ⟨k + 1, _, _, by omega, by go_num, hnext.out _ (by first | rfl | assumption), hno2, (HS.out _ _).1, (HS.out _ _).2.1, (HS.out _ _).2.2⟩
              case measure => simp [intOf]; omega
        · have hltI : ¬ (k : Int) < (s.size : Int) := by omega
          have hnext : Hid (∀ a, m1 = a → k + 1 ≤ s.size → markOf (s.data.toList.take (k + 1)) = (a, m2 + 1)) := fun a ha h => by omega
          clear hmk hm
          go_wp2_with fail
          all_goals
            go_roundw
            case rel => exact ⟨k + 1, _, _, by omega, by go_num, hnext.out _ (by first | rfl | assumption), hno2, (HS.out _ _).1, (HS.out _ _).2.1, (HS.out _ _).2.2⟩
            case measure => simp [intOf]; omega
    · have hleI : ¬ (k : Int) ≤ (s.size : Int) := by omega
      have HR : Hid (RefAtSays s x y (.returned (.tuple #[.int .i64 0, .bool false]))) := .inr ⟨fun j hj => hno.out j (by omega) hj, rfl⟩
      clear hm hno
      go_wp2_with fail
      refine bodyPost_ret (v := .tuple #[.int .i64 0, .bool false]) (by simp [results, Tryd.results20, go_sem]) rfl ⟨HR.out, hB.out⟩
end Go.Proofs.YtcabkkfehdcagaaDoor
