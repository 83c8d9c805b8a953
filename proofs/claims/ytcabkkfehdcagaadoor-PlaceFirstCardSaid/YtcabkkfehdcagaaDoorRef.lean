/- The reference's Of and At: places byte by byte. -/
import Derived.Test.YtcabkkfehdcagaaDoorLines
import Derived.Handy
namespace Go.Proofs.YtcabkkfehdcagaaDoor
open Go.RowKit
set_option linter.unusedVariables false

theorem byte_beq (c d : UInt8) (z : Int) (hz : (d.toNat : Int) = z) : ((c.toNat : Int) == z) = (c == d) := by
  rw [← hz, Bool.eq_iff_iff]
  simp only [beq_iff_eq]
  constructor
  · intro h; exact UInt8.toNat_inj.1 (by omega)
  · intro h; rw [h]

theorem markOf_bd (l : List UInt8) : 1 ≤ (markOf l).1 ∧ (markOf l).1 ≤ 1 + l.length ∧ 1 ≤ (markOf l).2 ∧ (markOf l).2 ≤ 1 + l.length := by
  have gen : ∀ (l : List UInt8) (m : Int × Int), 1 ≤ m.2 → m.1 ≤ (l.foldl stepMark m).1 ∧ (l.foldl stepMark m).1 ≤ m.1 + l.length ∧ 1 ≤ (l.foldl stepMark m).2 ∧ (l.foldl stepMark m).2 ≤ m.2 + l.length := by
    intro l
    induction l with
    | nil => intro m h; simp; omega
    | cons c r ih =>
      intro m h
      simp only [List.foldl_cons, List.length_cons]
      by_cases hc : c = 10
      · have := ih (m.1 + 1, 1) (by simp)
        simp only [stepMark, if_pos hc]
        simp at this
        omega
      · have := ih (m.1, m.2 + 1) (by show 1 ≤ m.2 + 1; omega)
        simp only [stepMark, if_neg hc]
        simp at this
        omega
  have := gen l (1, 1) (by simp)
  unfold markOf
  simp at this
  omega

theorem markOf_at (s : ByteArray) (i : Nat) (h : i < s.size) : markOf (s.data.toList.take (i + 1)) = stepMark (markOf (s.data.toList.take i)) s[i] := by
  rw [markOf_succ _ _ (by simpa using h)]
  rfl

/-- filigreeref01.Of -/
theorem refOf (s : ByteArray) (hs : s.size ≤ 1000000) (k : Nat) (hk : k ≤ s.size) (w : World) :
    Calls Tryd.prog 22 #[.string s, .int .i64 k] w fun e w' => e = .returned (.agg #[.int .i64 (markOf (s.data.toList.take k)).1, .int .i64 (markOf (s.data.toList.take k)).2]) ∧ Below w.heap.size w w' := by
  go_enter Tryd.func22, Tryd.ntmps22
  go_wp2_with fail
  obtain ⟨W0, hW0⟩ : ∃ W0, ((w.alloc (Obj.cells #[Value.int IntKind.i64 0, Value.int IntKind.i64 0] 23)).alloc (Obj.cells #[Value.int IntKind.i64 1, Value.int IntKind.i64 1] 23)) = W0 := ⟨_, rfl⟩
  have e1 := blk_new w (Obj.cells #[Value.int IntKind.i64 0, Value.int IntKind.i64 0] 23)
  have e2 := blk_new (w.alloc (Obj.cells #[Value.int IntKind.i64 0, Value.int IntKind.i64 0] 23)) (Obj.cells #[Value.int IntKind.i64 1, Value.int IntKind.i64 1] 23)
  have hB0 : Below w.heap.size w ((w.alloc (Obj.cells #[Value.int IntKind.i64 0, Value.int IntKind.i64 0] 23)).alloc (Obj.cells #[Value.int IntKind.i64 1, Value.int IntKind.i64 1] 23)) := ((Below.refl _ w).alloc (Nat.le_refl _) _).alloc (by simp) _
  have e1' := blk_alloc (o' := (Obj.cells #[Value.int IntKind.i64 1, Value.int IntKind.i64 1] 23)) e1
  simp only [World.size_alloc] at e2
  clear e1
  rw [hW0] at e1' e2 hB0 ⊢
  clear hW0
  have E1 := hide e1'
  have E2 := hide e2
  have HB := hide hB0
  clear e1' e2 hB0
  generalize hB : w.heap.size = B at *
  have EB := hide hB
  clear hB
  go_loopw [6] (fun i wr => ∃ j : Nat, j ≤ k ∧ i = .int .i64 j ∧ wr.heap[B]? = some (.cells #[.int .i64 0, .int .i64 0] 23) ∧ wr.heap[B + 1]? = some (.cells #[.int .i64 (markOf (s.data.toList.take j)).1, .int .i64 (markOf (s.data.toList.take j)).2] 23) ∧ Below B w wr) (fun i _ => k - (intOf i).toNat)
  case atStart => exact ⟨0, Nat.zero_le _, rfl, E1.out, E2.out, HB.out⟩
  case round =>
    obtain ⟨j, hj, rfl, b0, b1, hb⟩ := hrel
    have bd := markOf_bd (s.data.toList.take j)
    have hlen : (s.data.toList.take j).length = j := by simp; omega
    rw [hlen] at bd
    obtain ⟨bd1, bd2, bd3, bd4⟩ := bd
    have c10 := blk_cell b1 0
    have c11 := blk_cell b1 1
    have f10 := blk_free b1 0
    have f11 := blk_free b1 1
    have c00 := blk_cell b0 0
    have c01 := blk_cell b0 1
    have f00 := blk_free b0 0
    have f01 := blk_free b0 1
    have H0 := hide b0
    have H1 := hide b1
    have HB2 := hide hb
    clear b0 b1 hb hlen
    by_cases hlt : j < k
    · have hms := markOf_at s j (by omega)
      have hjs : j < s.size := by omega
      cases h10 : (s[j] == 10)
      · have hb10 : ((s[j].toNat : Int) == 10) = false := by rw [byte_beq s[j] 10 10 rfl]; exact h10
        have e : markOf (s.data.toList.take (j + 1)) = ((markOf (s.data.toList.take j)).1, (markOf (s.data.toList.take j)).2 + 1) := by
          rw [hms]; unfold stepMark; rw [if_neg (by simpa using h10)]
        have E := hide e
        clear hms h10 e
        generalize (markOf (s.data.toList.take j)) = mj at *
        obtain ⟨m1, m2⟩ := mj
        go_wp2_with fail
        go_roundw
        case rel => exact ⟨j + 1, by omega, by go_num, blk_other (blk_other H0.out (by omega) _ _) (by omega) _ _, by
          rw [E.out]
          exact blk_set (blk_set H1.out 0 _) 1 _, (HB2.out.setCell (p := ⟨B + 1, 0, none⟩) (by show B ≤ B + 1; omega) _).setCell (p := ⟨B + 1, 1, none⟩) (by show B ≤ B + 1; omega) _⟩
        case measure => simp [intOf]; omega
      · have hb10 : ((s[j].toNat : Int) == 10) = true := by rw [byte_beq s[j] 10 10 rfl]; exact h10
        have e : markOf (s.data.toList.take (j + 1)) = ((markOf (s.data.toList.take j)).1 + 1, 1) := by
          rw [hms]; unfold stepMark; rw [if_pos (by simpa using h10)]
        have E := hide e
        clear hms h10 e
        generalize (markOf (s.data.toList.take j)) = mj at *
        obtain ⟨m1, m2⟩ := mj
        go_wp2_with fail
        go_roundw
        case rel => exact ⟨j + 1, by omega, by go_num, blk_other (blk_other H0.out (by omega) _ _) (by omega) _ _, by
          rw [E.out]
          exact blk_set (blk_set H1.out 0 _) 1 _, (HB2.out.setCell (p := ⟨B + 1, 0, none⟩) (by show B ≤ B + 1; omega) _).setCell (p := ⟨B + 1, 1, none⟩) (by show B ≤ B + 1; omega) _⟩
        case measure => simp [intOf]; omega
    · obtain rfl : j = k := by omega
      obtain ⟨mj, hmj⟩ : ∃ mj, markOf (s.data.toList.take j) = mj := ⟨_, rfl⟩
      have M := hide hmj
      rw [hmj] at bd1 bd2 bd3 bd4 c10 c11 H1
      clear hmj
      obtain ⟨m1, m2⟩ := mj
      go_wp2_with fail
      have q0 := blk_cell (blk_set (blk_set H0.out 0 (.int .i64 m1)) 1 (.int .i64 m2)) 0
      have q1 := blk_cell (blk_set (blk_set H0.out 0 (.int .i64 m1)) 1 (.int .i64 m2)) 1
      refine bodyPost_ret (v := .agg #[.int .i64 m1, .int .i64 m2]) (by simp [results, Tryd.results22, go_sem, q0, q1]) rfl ⟨by rw [M.out], ?_⟩
      rw [EB.out]
      exact (HB2.out.setCell (p := ⟨B, 0, none⟩) (Nat.le_refl _) _).setCell (p := ⟨B, 1, none⟩) (Nat.le_refl _) _
end Go.Proofs.YtcabkkfehdcagaaDoor
