/- place.First: the fault that is ahead of all others. -/
import Derived.Test.YtcabkkfehdcagaaDoorWalkTexts
import Derived.Test.YtcabkkfehdcagaaDoorCompare
namespace Go.Proofs.YtcabkkfehdcagaaDoor
open Go.RowKit
set_option linter.unusedVariables false
set_option linter.unusedSimpArgs false

/-- a fault: its number, its line, its column, its word -/
abbrev F4 := Int × Int × Int × ByteArray
def before (f g : F4) : Bool := decide (cmp2 f.2.1 f.2.2.1 g.2.1 g.2.2.1 < 0)
def bestStep (o : Option F4) (f : F4) : Option F4 := if f.1 = 0 then o else match o with
  | none => some f
  | some g => if before f g = true then some f else some g
def outF (o : Option F4) : F4 := o.getD (0, 0, 0, ⟨#[]⟩)
def cells4 (f : F4) : Array Value := #[.int .i64 f.1, .int .i64 f.2.1, .int .i64 f.2.2.1, .string f.2.2.2]

/-- faults that lie one behind the other -/
def FRow (w : World) (g off : Nat) (fs : List F4) : Prop :=
  ∀ i (h : i < fs.length), w.cell? ⟨g, off + i * 4, none⟩ = some (.int .i64 fs[i].1) ∧ w.cell? ⟨g, off + i * 4 + 1, none⟩ = some (.int .i64 fs[i].2.1) ∧
    w.cell? ⟨g, off + i * 4 + 2, none⟩ = some (.int .i64 fs[i].2.2.1) ∧ w.cell? ⟨g, off + i * 4 + 3, none⟩ = some (.string fs[i].2.2.2)

set_option maxRecDepth 100000 in
set_option maxHeartbeats 4000000 in
theorem first_row (g cap : Nat) (fs : List F4) (hn : fs.length ≤ 50) (w : World) (hg : g < w.heap.size) (hr : FRow w g 0 fs) :
    Calls Tryd.prog 25 #[.slice (some ⟨g, 0, none⟩) fs.length cap] w fun e w' => e = .returned (.tuple #[.agg (cells4 (outF (fs.foldl bestStep none))), .bool (fs.foldl bestStep none).isSome]) ∧ Below w.heap.size w w' := by
  have HR := hide hr
  clear hr
  go_enter Tryd.func25, Tryd.ntmps25
  go_wp2_with fail
  have a0 : ((w.alloc (Obj.cells #[.int .i64 0, .int .i64 0, .int .i64 0, .string ⟨#[]⟩] 33)).alloc (Obj.cells #[.int .i64 0, .int .i64 0, .int .i64 0, .string ⟨#[]⟩] 33)).heap[w.heap.size]? = some (Obj.cells #[.int .i64 0, .int .i64 0, .int .i64 0, .string ⟨#[]⟩] 33) := blk_alloc (blk_new w _)
  have a1 := blk_new (w.alloc (Obj.cells #[.int .i64 0, .int .i64 0, .int .i64 0, .string ⟨#[]⟩] 33)) (Obj.cells #[.int .i64 0, .int .i64 0, .int .i64 0, .string ⟨#[]⟩] 33)
  simp only [World.size_alloc] at a1
  have hB0 : Below w.heap.size w ((w.alloc (Obj.cells #[.int .i64 0, .int .i64 0, .int .i64 0, .string ⟨#[]⟩] 33)).alloc (Obj.cells #[.int .i64 0, .int .i64 0, .int .i64 0, .string ⟨#[]⟩] 33)) := ((Below.refl _ w).alloc (Nat.le_refl _) _).alloc (by simp) _
  generalize ((w.alloc (Obj.cells #[.int .i64 0, .int .i64 0, .int .i64 0, .string ⟨#[]⟩] 33)).alloc (Obj.cells #[.int .i64 0, .int .i64 0, .int .i64 0, .string ⟨#[]⟩] 33)) = W0 at *
  have A0 := hide a0
  have A1 := hide a1
  have HB := hide hB0
  obtain ⟨A, hA⟩ : ∃ A, w.heap.size = A := ⟨_, rfl⟩
  have HA := hide hA
  rw [hA] at A0 A1 ⊢
  clear a0 a1 hB0 hA
  go_loopw [5, 10] (fun b i wr => ∃ (k : Nat) (o : Option F4), k ≤ fs.length ∧ i = .int .i64 k ∧ b = .bool o.isSome ∧
      Hid (wr.heap[A]? = some (.cells #[.int .i64 0, .int .i64 0, .int .i64 0, .string ⟨#[]⟩] 33)) ∧ Hid (wr.heap[A + 1]? = some (.cells (cells4 (outF o)) 33)) ∧ Hid (Below w.heap.size w wr) ∧ Hid ((fs.take k).foldl bestStep none = o)) (fun _ i _ => fs.length - (intOf i).toNat)
  case atStart => exact ⟨0, none, Nat.zero_le _, rfl, rfl, A0.out, A1.out, HB.out, rfl⟩
  case round =>
    obtain ⟨k, o, hk, rfl, rfl, b0, b1, hB, ho⟩ := hrel
    have hbs := hB.out.size
    have hAs : A + 1 < wr.heap.size := blk_lt b1.out
    by_cases hlt : k < fs.length
    · have hltI : (k : Int) < (fs.length : Int) := by omega
      obtain ⟨r0, r1, r2, r3⟩ := HR.out k hlt
      simp only [Nat.zero_add] at r0 r1 r2 r3
      have R0 := (hB.out.cell (p := ⟨g, k * 4, none⟩) hg).trans r0
      have R1 := (hB.out.cell (p := ⟨g, k * 4 + 1, none⟩) hg).trans r1
      have R2 := (hB.out.cell (p := ⟨g, k * 4 + 2, none⟩) hg).trans r2
      have R3 := (hB.out.cell (p := ⟨g, k * 4 + 3, none⟩) hg).trans r3
      have hnx : (fs.take (k + 1)).foldl bestStep none = bestStep o fs[k] := by
        rw [List.take_succ_eq_append_getElem hlt, List.foldl_append, ho.out]; rfl
      have HNX := hide hnx
      clear r0 r1 r2 r3 hnx ho
      generalize fs[k] = f at *
      obtain ⟨f0, f1, f2, f3⟩ := f
      dsimp only at R0 R1 R2 R3
      have q0 := blk_alloc (o' := Obj.cells #[.int .i64 f0, .int .i64 f1, .int .i64 f2, .string f3] 33) b0.out
      have q1 := blk_alloc (o' := Obj.cells #[.int .i64 f0, .int .i64 f1, .int .i64 f2, .string f3] 33) b1.out
      have qf := blk_new wr (Obj.cells #[.int .i64 f0, .int .i64 f1, .int .i64 f2, .string f3] 33)
      have qB := hB.out.alloc hbs (Obj.cells #[.int .i64 f0, .int .i64 f1, .int .i64 f2, .string f3] 33)
      have Q0 := hide q0
      have Q1 := hide q1
      have QB := hide qB
      by_cases hz : f0 = 0
      · subst hz
        have he : Hid (bestStep o (0, f1, f2, f3) = o) := by unfold Hid bestStep; rw [if_pos rfl]
        clear q0 q1 qf qB b0 b1
        go_wp2_with fail
        go_roundw
        case rel => exact ⟨k + 1, o, by omega, by go_num, rfl, Q0.out, Q1.out, QB.out, by unfold Hid; rw [HNX.out, he.out]⟩
        case measure => simp [intOf]; omega
      · have z1 : (f0 == 0) = false := by simp [hz]
        have z2 : (f0 != 0) = true := by simp [hz]
        cases o with
        | none =>
          have he : Hid (bestStep none (f0, f1, f2, f3) = some (f0, f1, f2, f3)) := by unfold Hid bestStep; rw [if_neg hz]
          have g0 := blk_free b1.out 0
          have g1 := blk_free b1.out 1
          have g2 := blk_free b1.out 2
          have g3 := blk_free b1.out 3
          have d0 : wr.cell? ⟨A + 1, 0, none⟩ = some (.int .i64 0) := blk_cell b1.out 0
          have d1 : wr.cell? ⟨A + 1, 1, none⟩ = some (.int .i64 0) := blk_cell b1.out 1
          have d2 : wr.cell? ⟨A + 1, 2, none⟩ = some (.int .i64 0) := blk_cell b1.out 2
          have d3 : wr.cell? ⟨A + 1, 3, none⟩ = some (.string ⟨#[]⟩) := blk_cell b1.out 3
          have S1 := hide (blk_alloc (o' := Obj.cells #[.int .i64 f0, .int .i64 f1, .int .i64 f2, .string f3] 33) (blk_set (blk_set (blk_set (blk_set b1.out 0 (.int .i64 f0)) 1 (.int .i64 f1)) 2 (.int .i64 f2)) 3 (.string f3)))
          have S0 := hide (blk_alloc (o' := Obj.cells #[.int .i64 f0, .int .i64 f1, .int .i64 f2, .string f3] 33) (blk_other (blk_other (blk_other (blk_other b0.out (by omega : A ≠ A + 1) 0 (.int .i64 f0)) (by omega : A ≠ A + 1) 1 (.int .i64 f1)) (by omega : A ≠ A + 1) 2 (.int .i64 f2)) (by omega : A ≠ A + 1) 3 (.string f3)))
          have SB := hide ((((((hB.out.setCell (p := ⟨A + 1, 0, none⟩) (by rw [HA.out]; show A ≤ A + 1; omega) (.int .i64 f0)).setCell (p := ⟨A + 1, 1, none⟩) (by rw [HA.out]; show A ≤ A + 1; omega) (.int .i64 f1)).setCell (p := ⟨A + 1, 2, none⟩) (by rw [HA.out]; show A ≤ A + 1; omega) (.int .i64 f2)).setCell (p := ⟨A + 1, 3, none⟩) (by rw [HA.out]; show A ≤ A + 1; omega) (.string f3))).alloc (by simp; omega) (Obj.cells #[.int .i64 f0, .int .i64 f1, .int .i64 f2, .string f3] 33))
          clear q0 q1 qf qB b0 b1
          go_wp2_with fail
          go_roundw
          case rel => exact ⟨k + 1, some (f0, f1, f2, f3), by omega, by go_num, rfl, S0.out, S1.out, SB.out, by unfold Hid; rw [HNX.out, he.out]⟩
          case measure => simp [intOf]; omega
        | some h =>
          obtain ⟨h0, h1, h2, h3⟩ := h
          have d0 : wr.cell? ⟨A + 1, 0, none⟩ = some (.int .i64 h0) := blk_cell b1.out 0
          have d1 : wr.cell? ⟨A + 1, 1, none⟩ = some (.int .i64 h1) := blk_cell b1.out 1
          have d2 : wr.cell? ⟨A + 1, 2, none⟩ = some (.int .i64 h2) := blk_cell b1.out 2
          have d3 : wr.cell? ⟨A + 1, 3, none⟩ = some (.string h3) := blk_cell b1.out 3
          obtain ⟨cv, hcv⟩ : ∃ cv, cmp2 f1 f2 h1 h2 = cv := ⟨_, rfl⟩
          have cc := hide (fun w => comp_any f1 f2 h1 h2 w)
          rw [hcv] at cc
          have hsf : (wr.alloc (Obj.cells #[.int .i64 f0, .int .i64 f1, .int .i64 f2, .string f3] 33)).heap.size = wr.heap.size + 1 := by simp
          by_cases hb : cv < 0
          · have he : Hid (bestStep (some (h0, h1, h2, h3)) (f0, f1, f2, f3) = some (f0, f1, f2, f3)) := by
              unfold Hid bestStep before; rw [if_neg hz]; simp only [hcv]; rw [if_pos (by simpa using hb)]
            have hbd : decide (cv < 0) = true := by simp [hb]
            clear qB b0 b1 hcv
            go_wp2_with fail
            refine (cc.out _).mono ?_
            rintro e w2 ⟨rfl, hB2⟩
            have q0 := (hB2.block A (by omega)).trans Q0.out
            have q1 := (hB2.block (A + 1) (by omega)).trans Q1.out
            have qf := (hB2.block wr.heap.size (by omega)).trans qf
            have qB := QB.out.trans (hB2.mono (by omega))
            have c0 := blk_cell qf 0
            have c1 := blk_cell qf 1
            have c2 := blk_cell qf 2
            have c3 := blk_cell qf 3
            have g0 := blk_free q1 0
            have g1 := blk_free q1 1
            have g2 := blk_free q1 2
            have g3 := blk_free q1 3
            have d0 : w2.cell? ⟨A + 1, 0, none⟩ = some (.int .i64 h0) := blk_cell q1 0
            have d1 : w2.cell? ⟨A + 1, 1, none⟩ = some (.int .i64 h1) := blk_cell q1 1
            have d2 : w2.cell? ⟨A + 1, 2, none⟩ = some (.int .i64 h2) := blk_cell q1 2
            have d3 : w2.cell? ⟨A + 1, 3, none⟩ = some (.string h3) := blk_cell q1 3
            have S1 := hide (blk_set (blk_set (blk_set (blk_set q1 0 (.int .i64 f0)) 1 (.int .i64 f1)) 2 (.int .i64 f2)) 3 (.string f3))
            have S0 := hide (blk_other (blk_other (blk_other (blk_other q0 (by omega : A ≠ A + 1) 0 (.int .i64 f0)) (by omega : A ≠ A + 1) 1 (.int .i64 f1)) (by omega : A ≠ A + 1) 2 (.int .i64 f2)) (by omega : A ≠ A + 1) 3 (.string f3))
            have SB := hide ((((qB.setCell (p := ⟨A + 1, 0, none⟩) (by rw [HA.out]; show A ≤ A + 1; omega) (.int .i64 f0)).setCell (p := ⟨A + 1, 1, none⟩) (by rw [HA.out]; show A ≤ A + 1; omega) (.int .i64 f1)).setCell (p := ⟨A + 1, 2, none⟩) (by rw [HA.out]; show A ≤ A + 1; omega) (.int .i64 f2)).setCell (p := ⟨A + 1, 3, none⟩) (by rw [HA.out]; show A ≤ A + 1; omega) (.string f3))
            clear q0 q1 qf qB hB2
            go_wp2_with fail
            go_roundw
            case rel => exact ⟨k + 1, some (f0, f1, f2, f3), by omega, by go_num, rfl, S0.out, S1.out, SB.out, by unfold Hid; rw [HNX.out, he.out]⟩
            case measure => simp [intOf]; omega
          · have he : Hid (bestStep (some (h0, h1, h2, h3)) (f0, f1, f2, f3) = some (h0, h1, h2, h3)) := by
              unfold Hid bestStep before; rw [if_neg hz]; simp only [hcv]; rw [if_neg (by simpa using hb)]
            have hbd : decide (cv < 0) = false := by simp; omega
            clear qB b0 b1 hcv
            go_wp2_with fail
            refine (cc.out _).mono ?_
            rintro e w2 ⟨rfl, hB2⟩
            have S0 : Hid (w2.heap[A]? = some (.cells #[.int .i64 0, .int .i64 0, .int .i64 0, .string ⟨#[]⟩] 33)) := (hB2.block A (by omega)).trans Q0.out
            have S1 : Hid (w2.heap[A + 1]? = some (.cells (cells4 (outF (some (h0, h1, h2, h3)))) 33)) := (hB2.block (A + 1) (by omega)).trans Q1.out
            have SB : Hid (Below w.heap.size w w2) := QB.out.trans (hB2.mono (by omega))
            clear q0 q1 qf hB2 d0 d1 d2 d3
            go_wp2_with fail
            go_roundw
            case rel => exact ⟨k + 1, some (h0, h1, h2, h3), by omega, by go_num, rfl, S0.out, S1.out, SB.out, by unfold Hid; rw [HNX.out, he.out]⟩
            case measure => simp [intOf]; omega
    · have hkn : k = fs.length := by omega
      subst hkn
      rw [List.take_length] at ho
      obtain ⟨u, hu⟩ : ∃ u, outF o = u := ⟨_, rfl⟩
      obtain ⟨u0, u1, u2, u3⟩ := u
      rw [hu] at b1
      have HU := hide hu
      have b1' : Hid (wr.heap[A + 1]? = some (.cells #[.int .i64 u0, .int .i64 u1, .int .i64 u2, .string u3] 33)) := b1.out
      clear hu b1
      have d0 := blk_cell b1'.out 0
      have d1 := blk_cell b1'.out 1
      have d2 := blk_cell b1'.out 2
      have d3 := blk_cell b1'.out 3
      have g0 := blk_free b0.out 0
      have g1 := blk_free b0.out 1
      have g2 := blk_free b0.out 2
      have g3 := blk_free b0.out 3
      have e0 := blk_cell b0.out 0
      have e1 := blk_cell b0.out 1
      have e2 := blk_cell b0.out 2
      have e3 := blk_cell b0.out 3
      have S1 := blk_set (blk_set (blk_set (blk_set b0.out 0 (.int .i64 u0)) 1 (.int .i64 u1)) 2 (.int .i64 u2)) 3 (.string u3)
      have s0 := blk_cell S1 0
      have s1 := blk_cell S1 1
      have s2 := blk_cell S1 2
      have s3 := blk_cell S1 3
      have SB := hide ((((hB.out.setCell (p := ⟨A, 0, none⟩) (by rw [HA.out]; exact Nat.le_refl _) (.int .i64 u0)).setCell (p := ⟨A, 1, none⟩) (by rw [HA.out]; exact Nat.le_refl _) (.int .i64 u1)).setCell (p := ⟨A, 2, none⟩) (by rw [HA.out]; exact Nat.le_refl _) (.int .i64 u2)).setCell (p := ⟨A, 3, none⟩) (by rw [HA.out]; exact Nat.le_refl _) (.string u3))
      clear S1
      go_wp2_with fail
      refine bodyPost_ret (v := .tuple #[.agg #[.int .i64 u0, .int .i64 u1, .int .i64 u2, .string u3], .bool o.isSome]) (by simp [results, Tryd.results25, go_sem, s0, s1, s2, s3]) rfl ⟨by rw [ho.out, HU.out]; rfl, SB.out⟩
end Go.Proofs.YtcabkkfehdcagaaDoor
