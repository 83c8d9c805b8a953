/- lex.IsWord. -/
import Derived.Test.YtdoohocdaacnaaaDoorScan
import Derived.Laws.IdiomStrings
import Derived.Lib.IndexBytes
import Derived.WalkSpells
import Derived.Test.YtdoohocdaacnaaaDoorBase
namespace Go.Proofs.YtdoohocdaacnaaaDoor
open Go.RowKit
set_option linter.unusedVariables false
set_option linter.unusedSimpArgs false

theorem bs_cons (s : ByteArray) (h : 0 < s.size) : s.data.toList = s[0] :: s.data.toList.drop 1 := by
  have := bs_get s 0 h
  simpa using this

theorem nonempty (s : ByteArray) (h : 0 < s.size) : s.toList.isEmpty = false ∧ ¬ s.toList = [] := by
  rw [Lib.toList_data]
  have e : s.data.toList ≠ [] := by
    intro e
    have h2 : s.data.toList.length = 0 := by rw [e]; rfl
    have h3 : s.data.toList.length = s.size := by simp
    omega
  exact ⟨by cases hx : s.data.toList with
    | nil => exact absurd hx e
    | cons a b => rfl, e⟩

theorem empty_of (s : ByteArray) (h : ¬ 0 < s.size) : s.toList.isEmpty = true ∧ s.toList = [] ∧ s.data.toList = [] := by
  have e : s.data.toList = [] := by
    apply List.eq_nil_of_length_eq_zero
    have h3 : s.data.toList.length = s.size := by simp
    omega
  rw [Lib.toList_data, e]
  exact ⟨rfl, rfl, rfl⟩

def wordB (s : ByteArray) : Bool := match s.data.toList with
  | [] => false
  | c :: r => decide (s.size ≤ 30) && (isLetter c && decide (runLen isInner (c :: r) = s.size))

set_option maxRecDepth 100000 in
theorem isWord_any (s : ByteArray) (hl : s.size ≤ 9223372036854775807) (w : World) :
    Calls Tryd.prog 38 #[.string s] w fun e w' => e = .returned (.bool (wordB s)) ∧ w = w' := by
  by_cases h0 : 0 < s.size
  · obtain ⟨n1, n2⟩ := nonempty s h0
    have hd := bs_cons s h0
    have hw : wordB s = (decide (s.size ≤ 30) && (isLetter s[0] && decide (runLen isInner s.data.toList = s.size))) := by
      unfold wordB
      rw [hd]
    have HW := hide hw
    have hp : (0 : Int) < (s.size : Int) := by omega
    clear hw hd
    by_cases h30 : (s.size : Int) ≤ 30
    · have lc := hide (letter_any s[0] w)
      have rc := hide (run_inner s hl w)
      have h30' : s.size ≤ 30 := by omega
      cases hL : isLetter s[0]
      · have E : Hid (wordB s = false) := by unfold Hid; rw [HW.out, hL]; simp
        rw [hL] at lc
        clear HW hL
        go_enter Tryd.func38, Tryd.ntmps38
        go_wp2_with fail
        refine lc.out.mono ?_
        rintro e w' ⟨rfl, rfl⟩
        go_wp2_with fail
        go_ret
        exact ⟨ret_bool E.out.symm, rfl⟩
      · have E : Hid (wordB s = decide (runLen isInner s.data.toList = s.size)) := by unfold Hid; rw [HW.out, hL]; simp [h30']
        rw [hL] at lc
        clear HW hL
        go_enter Tryd.func38, Tryd.ntmps38
        go_wp2_with fail
        refine lc.out.mono ?_
        rintro e w' ⟨rfl, rfl⟩
        go_wp2_with fail
        refine rc.out.mono ?_
        rintro e w' ⟨rfl, rfl⟩
        go_wp2_with fail
        go_ret
        refine ⟨ret_bool ?_, rfl⟩
        rw [E.out]
        rw [Bool.eq_iff_iff]; simp; omega
    · have E : Hid (wordB s = false) := by
        unfold Hid; rw [HW.out]; have : ¬ s.size ≤ 30 := by omega
        simp [this]
      clear HW
      go_enter Tryd.func38, Tryd.ntmps38
      go_wp2_with fail
      go_ret
      exact ⟨ret_bool E.out.symm, rfl⟩
  · obtain ⟨n1, n2, n3⟩ := empty_of s h0
    have E : Hid (wordB s = false) := by unfold Hid wordB; rw [n3]
    clear n3
    go_enter Tryd.func38, Tryd.ntmps38
    go_wp2_with fail
    go_ret
    exact ⟨ret_bool E.out.symm, rfl⟩

end Go.Proofs.YtdoohocdaacnaaaDoor
