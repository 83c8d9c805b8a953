/- The document's StatusOf. -/
import Derived.Test.YtdcpcemihpkkaaaCheck
namespace Go.Proofs.Ytdcpcemihpkkaaa
open Go.RowKit Go.Maps
set_option linter.unusedVariables false
set_option linter.unusedSimpArgs false

theorem kindOf_first {rs : List (Int × Int)} {k : Nat} {x : Int} (h : k < rs.length) (h0 : (rs.take k).any (fun s => s.1 == x) = false) (e : rs[k].1 = x) : kindOf rs x = some rs[k].2 := by
  unfold kindOf
  have e1 : rs = rs.take k ++ rs[k] :: rs.drop (k + 1) := by rw [← List.drop_eq_getElem_cons h, List.take_append_drop]
  have e2 : (rs.take k).find? (fun s => s.1 == x) = none := by
    rw [List.find?_eq_none]
    rw [List.any_eq_false] at h0
    exact h0
  have e3 := congrArg (fun l => l.find? (fun s : Int × Int => s.1 == x)) e1
  rw [e3, List.find?_append, e2, Option.none_or, List.find?_cons, show (rs[k].1 == x) = true by rw [e]; exact beq_self_eq_true x]
  rfl
theorem kindOf_no {rs : List (Int × Int)} {x : Int} (h : rs.any (fun s => s.1 == x) = false) : kindOf rs x = none := by
  unfold kindOf
  rw [List.find?_eq_none.2 (by rw [List.any_eq_false] at h; exact h)]
  rfl

set_option maxRecDepth 100000 in
set_option maxHeartbeats 8000000 in
theorem statusR_any (N x : Int) (pa sa : Option Addr) (pl pc sc : Nat) (rs : List (Int × Int)) (hls : rs.length ≤ 1000000) (B : Nat) (w : World) (hB : B ≤ w.heap.size) (hs : IRow w B (.slice sa rs.length sc) rs) :
    Calls Try.prog 16 #[.agg #[.int .i64 N, .slice pa pl pc, .slice sa rs.length sc], .int .i64 x] w fun e w' => e = .returned (.int .i64 ((kindOf rs x).getD 0)) ∧ Chg (fun _ => False) w w' := by
  have C1 := hide (al w (.cells #[.int .i64 N, .slice pa pl pc, .slice sa rs.length sc] 25))
  have HS := hide (hs.chg C1.out (fun _ _ h => h))
  have BX := hide (blk_new w (.cells #[.int .i64 N, .slice pa pl pc, .slice sa rs.length sc] 25))
  obtain ⟨w1, hw1⟩ : ∃ w1, w.alloc (.cells #[.int .i64 N, .slice pa pl pc, .slice sa rs.length sc] 25) = w1 := ⟨_, rfl⟩
  obtain ⟨R, hR⟩ : ∃ R, (kindOf rs x).getD 0 = R := ⟨_, rfl⟩
  rw [hR]
  have HR := hide hR
  rw [hw1] at C1 HS BX
  obtain ⟨b0, hb0⟩ : ∃ b0, w.heap.size = b0 := ⟨_, rfl⟩
  rw [hb0] at BX
  have k2 := blk_cell BX.out 2
  simp only [List.getElem?_toArray, List.getElem?_cons_zero, List.getElem?_cons_succ] at k2
  clear hs hR hB
  go_enter Try.func16, Try.ntmps16
  go_wp2_with fail
  clear hw1 hb0
  go_loop [5] (fun iv => ∃ k : Nat, k ≤ rs.length ∧ iv = .int .i64 k ∧ Hid ((rs.take k).any (fun s => s.1 == x) = false)) (fun iv => rs.length - (intOf iv).toNat)
  case atStart => exact ⟨0, Nat.zero_le _, rfl, by unfold Hid; simp⟩
  case round =>
    obtain ⟨k, hk, rfl, hA⟩ := hrel
    by_cases hlt : k < rs.length
    · rcases HS.out with ⟨a', c', e', h0 | ⟨g, off, e3, hg, hc⟩⟩
      · rw [h0] at hlt; exact absurd hlt (Nat.not_lt_zero _)
      injection e' with e4 _ e5
      subst e4 e3
      have d0 := (hc k hlt).1
      have d1 := (hc k hlt).2
      have HF := hide (fun e => kindOf_first (x := x) hlt hA.out e)
      have HNX := hide (fun h => any_takeN (l := rs) (f := fun s => s.1 == x) (k := k) hlt hA.out h)
      have i0' : (0 : Int) ≤ (k : Int) := by omega
      have i1' : (k : Int) < (rs.length : Int) := by omega
      clear hc e5 hA
      generalize rs[k] = p at *
      obtain ⟨p0, p1⟩ := p
      dsimp only at d0 d1
      by_cases e : p0 = x
      · have hf : R = p1 := by rw [← HR.out, HF.out e]; rfl
        have eb : (p0 == x) = true := by simp [e]
        subst hf
        clear e HF HNX
        go_wp2_with fail
        go_ret
        exact ⟨rfl, C1.out⟩
      · have eb : (p0 == x) = false := by simp [e]
        have HN3 := hide (HNX.out eb)
        clear e HF HNX
        go_wp2_with fail
        go_round
        case rel => exact ⟨k + 1, by omega, by go_num, HN3⟩
        case measure => simp [intOf]; omega
    · have hkl : k = rs.length := by omega
      have hf : R = 0 := by
        rw [← HR.out]
        have h := hA.out
        rw [hkl, List.take_length] at h
        rw [kindOf_no h]
        rfl
      subst hf hkl
      clear hA
      go_wp2_with fail
      go_ret
      exact ⟨rfl, C1.out⟩
end Go.Proofs.Ytdcpcemihpkkaaa
