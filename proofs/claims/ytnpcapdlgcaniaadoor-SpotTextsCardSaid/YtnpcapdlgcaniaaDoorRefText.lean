/- The document's text of a path. -/
import Derived.Test.YtnpcapdlgcaniaaDoorNum66
namespace Go.Proofs.YtnpcapdlgcaniaaDoor
open Go.RowKit
set_option linter.unusedVariables false
set_option linter.unusedSimpArgs false

theorem join_snoc (sep : List UInt8) (y : List UInt8) (xs : List (List UInt8)) (h : xs ≠ []) : Lib.join (xs ++ [y]) sep = Lib.join xs sep ++ sep ++ y := by
  cases xs with
  | nil => exact absurd rfl h
  | cons x r =>
    rw [List.cons_append, Lib.join_cons, Lib.join_cons]
    unfold Lib.joinTail
    rw [List.map_append, List.flatten_append]
    simp [List.append_assoc]
/-- the first i numbers' text -/
def txB (l : List Int) (i : Nat) : ByteArray := ⟨(Lib.join ((l.take i).map Lib.itoa) [46]).toArray⟩
theorem txB_zero (l : List Int) : txB l 0 = ⟨#[]⟩ := rfl
theorem txB_first (l : List Int) (h : 0 < l.length) : txB l 1 = itoaB l[0] := by
  unfold txB itoaB
  rw [List.take_succ_eq_append_getElem h]
  simp [Lib.join_one]
theorem txB_step (l : List Int) (i : Nat) (h : i + 1 < l.length) : txB l (i + 2) = txB l (i + 1) ++ dotB ++ itoaB l[i + 1] := by
  unfold txB itoaB dotB
  rw [List.take_succ_eq_append_getElem h, List.map_append]
  rw [show [l[i + 1]].map Lib.itoa = [Lib.itoa l[i + 1]] from rfl, join_snoc _ _ _ (by
    intro e
    have := congrArg List.length e
    rw [List.length_map, List.length_take, List.length_nil] at this
    omega)]
  apply ByteArray.ext
  simp
theorem txB_all (l : List Int) (h : l ≠ []) : txB l l.length = textB l := by
  unfold txB textB
  rw [if_neg h, List.take_length]
theorem itoa_size {n : Int} (h : In64' n) : (itoaB n).size ≤ 21 := by
  have := Lib.itoa_length_le n h.1 h.2
  simpa [itoaB, ByteArray.size] using this

set_option maxRecDepth 100000 in
set_option maxHeartbeats 8000000 in
theorem reftext_any (l : List Int) (hl : l.length ≤ 1000) (hin : ∀ n ∈ l, In64' n) (v : Value) (X : Nat → Prop) (w : World) (hX : ∀ x, X x → x < w.heap.size) (hv : Il w X v l) :
    Calls Tryd.prog 40 #[v] w fun e w' => e = .returned (.string (textB l)) ∧ Chg (fun _ => False) w w' := by
  obtain ⟨va, vc, rfl, _⟩ := id hv
  have HV := hide hv
  have HL := hide hl
  have HIN := hide hin
  clear hv hin
  by_cases h0 : l = []
  · subst h0
    clear HV HL HIN
    go_enter Tryd.func40, Tryd.ntmps40
    go_wp2_with fail
    go_ret
    exact ⟨rfl, Chg.refl _ _⟩
  · have e0 : ¬ (l.length : Int) = 0 := by
      intro h
      exact h0 (List.eq_nil_of_length_eq_zero (by omega))
    have e1 : ((l.length : Int) == 0) = false := by simp; exact fun h => h0 h
    have TT := hide (txB_all l h0)
    have H0 := hide h0
    clear h0
    go_enter Tryd.func40, Tryd.ntmps40
    go_wp2_with fail
    clear e0 e1
    go_loopw [3, 4] (fun sv iv wr => ∃ (i : Nat) (b : ByteArray), i ≤ l.length ∧ sv = .string b ∧ iv = .int .i64 i ∧ Hid (b = txB l i) ∧ b.size ≤ 22 * i ∧ Hid (Chg (fun _ => False) w wr)) (fun _ iv _ => l.length - (intOf iv).toNat)
    case atStart => exact ⟨0, _, Nat.zero_le _, rfl, rfl, hide rfl, Nat.le_refl _, hide (Chg.refl _ _)⟩
    case round =>
      obtain ⟨i, b, hi, rfl, rfl, hE, hS, hC⟩ := hrel
      by_cases hlt : i < l.length
      · have i1 : (0 : Int) ≤ (i : Int) := by omega
        have i2 : (i : Int) < (l.length : Int) := by omega
        obtain ⟨la, lc, hlv, hll⟩ := HV.out
        rcases hll with h0 | ⟨g, off, rfl, hg, hll⟩
        · exact absurd h0 H0.out
        injection hlv with e1 e2 e3
        subst e1 e3
        have d0 := hC.out.cell (fun h => h) (hll i hlt)
        have IN := HIN.out l[i] (List.getElem_mem hlt)
        have NB := hide (number_any l[i] IN.1 IN.2 wr)
        have NS := itoa_size IN
        clear hll IN
        cases i with
        | zero =>
          have ES : Hid (txB l 1 = itoaB l[0]) := hide (txB_first l hlt)
          have hb : Hid (b = ⟨#[]⟩) := hE
          obtain rfl := hb.out
          rw [Nat.add_zero] at d0
          generalize l[0] = n at *
          generalize itoaB n = x at *
          go_wp2_with fail
          refine NB.out.mono ?_
          rintro e w6 ⟨rfl, g6⟩
          have GC := hide (hC.out.trans ((Chg.of_below g6).mono (T := fun _ => False) (fun y hy h => by omega)))
          have FB : Hid ((⟨#[]⟩ : ByteArray) ++ x = txB l 1) := hide (by rw [ES.out]; apply ByteArray.ext; simp)
          have FS : ((⟨#[]⟩ : ByteArray) ++ x).size ≤ 22 * 1 := by rw [ByteArray.size_append]; exact Nat.le_trans (Nat.add_le_add_left NS _) (by decide)
          clear g6
          go_wp2_with fail
          go_roundw
          case rel => exact ⟨1, _, by omega, rfl, by go_num, FB, FS, GC⟩
          case measure => simp [intOf]; omega
        | succ i =>
          have ES : Hid (txB l (i + 2) = txB l (i + 1) ++ dotB ++ itoaB l[i + 1]) := hide (txB_step l i hlt)
          generalize l[i + 1] = n at *
          generalize itoaB n = x at *
          go_wp2_with fail
          refine NB.out.mono ?_
          rintro e w6 ⟨rfl, g6⟩
          have GC := hide (hC.out.trans ((Chg.of_below g6).mono (T := fun _ => False) (fun y hy h => by omega)))
          have FB : Hid (b ++ (⟨#[46]⟩ : ByteArray) ++ x = txB l (i + 2)) := hide (by rw [ES.out, hE.out]; rfl)
          have FS : (b ++ (⟨#[46]⟩ : ByteArray) ++ x).size ≤ 22 * (i + 1 + 1) := by rw [ByteArray.size_append, ByteArray.size_append]; have e : (⟨#[46]⟩ : ByteArray).size = 1 := rfl; rw [e]; omega
          clear g6
          go_wp2_with fail
          go_roundw
          case rel => exact ⟨i + 1 + 1, _, by omega, rfl, by go_num, FB, FS, GC⟩
          case measure => simp [intOf]; omega
      · have hif : i = l.length := by omega
        have i2 : ¬ (i : Int) < (l.length : Int) := by omega
        have FF : Hid (b = textB l) := hide (by rw [hE.out, hif, TT.out])
        clear hE TT
        go_wp2_with fail
        go_ret
        exact ⟨by rw [← FF.out]; rfl, hC.out⟩
end Go.Proofs.YtnpcapdlgcaniaaDoor
