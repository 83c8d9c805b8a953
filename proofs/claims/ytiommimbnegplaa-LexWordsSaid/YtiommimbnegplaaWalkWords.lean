/- The walk of LexWords. -/
import Derived.Test.YtiommimbnegplaaWords
namespace Go.Proofs.Ytiommimbnegplaa
open Go.RowKit
set_option linter.unusedVariables false

set_option maxRecDepth 100000 in
set_option maxHeartbeats 4000000 in
theorem words_walk (s : ByteArray) (kd : Int) (hl : s.size ≤ 9223372036854775807) (w : World) :
    Calls Try.prog 5 #[.string s, .int .i64 kd] w fun e w' => e = .returned (.bool true) ∧ Below w.heap.size w w' := by
  have hx : (s.extract 0 (min (s.size : Int) 200).toNat).size ≤ 200 := by simp; omega
  go_enter Try.func5, Try.ntmps5
  go_wp2_with fail
  generalize s.extract 0 (min (s.size : Int) 200).toNat = S at *
  have kn := hide known_any
  have wd := hide (fun w => isWord_any S (by omega) w)
  have i1 : Hid (∀ w, Calls Try.prog 14 #[.string S, .int .i64 1] w fun e w' => e = .returned (.bool (wordB S)) ∧ Below w.heap.size w w') := fun w => by
    have := is_any S 1 (by omega) w
    rwa [isB_word] at this
  have i2 : Hid (∀ w, Calls Try.prog 14 #[.string S, .int .i64 2] w fun e w' => e = .returned (.bool (numB S)) ∧ Below w.heap.size w w') := fun w => by
    have := is_any S 2 (by omega) w
    rwa [isB_num] at this
  by_cases hk : kd = 2
  · subst hk
    cases hn : numB S
    · have va := hide (fun w => value_any 2 S 0 (by omega) w (0, 1) (by rw [hn]; rfl))
      rw [hn] at i2
      clear hn
      refine (va.out _).mono ?_
      rintro e w1 ⟨rfl, h1⟩
      have H1 := hide h1
      clear h1
      go_wp2_with fail
      refine (i2.out _).mono ?_
      rintro e w2 ⟨rfl, h2⟩
      have H2 := hide (H1.out.trans (h2.mono H1.out.size))
      clear h2
      go_wp2_with fail
      refine (kn.out _).mono ?_
      rintro e w3 ⟨rfl, h3⟩
      have H3 := hide (H2.out.trans (h3.mono H2.out.size))
      clear h3
      go_wp2_with fail
      refine (wd.out _).mono ?_
      rintro e w4 ⟨rfl, rfl⟩
      go_wp2_with fail
      refine (i1.out _).mono ?_
      rintro e w5 ⟨rfl, h5⟩
      have H5 := hide (H3.out.trans (h5.mono H3.out.size))
      clear h5
      go_wp2_with fail
      go_ret
      exact ⟨by simp, H5.out⟩
    · have hw := num_not_word S hn
      have hn' := hn
      simp only [numB, Bool.and_eq_true, decide_eq_true_eq] at hn'
      have rv := hide (fun w => refValue_any S hn'.2.1 hn'.2.2 w)
      have va := hide (fun w => value_any 2 S 0 (by omega) w ((valL S.data.toList 0 : Int), 0) (by rw [hn]; rfl))
      rw [hn] at i2
      rw [hw] at wd
      clear hn hn' hw
      generalize valL S.data.toList 0 = V at *
      refine (va.out _).mono ?_
      rintro e w1 ⟨rfl, h1⟩
      have H1 := hide h1
      clear h1
      go_wp2_with fail
      refine (i2.out _).mono ?_
      rintro e w2 ⟨rfl, h2⟩
      have H2 := hide (H1.out.trans (h2.mono H1.out.size))
      clear h2
      go_wp2_with fail
      refine (kn.out _).mono ?_
      rintro e w3 ⟨rfl, h3⟩
      have H3 := hide (H2.out.trans (h3.mono H2.out.size))
      clear h3
      go_wp2_with fail
      refine (wd.out _).mono ?_
      rintro e w4 ⟨rfl, rfl⟩
      go_wp2_with fail
      refine (rv.out _).mono ?_
      rintro e w5 ⟨rfl, rfl⟩
      go_wp2_with fail
      go_ret
      exact ⟨by simp, H3.out⟩
  · have va := hide (fun w => value_any kd S 0 (by omega) w (0, 1) (by rw [if_neg (fun h => hk h.1)]))
    have hk2 : (kd == 2) = false := by simp [hk]
    have hk3 : (kd != 2) = true := by simp [hk]
    refine (va.out _).mono ?_
    rintro e w1 ⟨rfl, h1⟩
    have H1 := hide h1
    clear h1 i2
    go_wp2_with fail
    refine (kn.out _).mono ?_
    rintro e w3 ⟨rfl, h3⟩
    have H3 := hide (H1.out.trans (h3.mono H1.out.size))
    clear h3
    go_wp2_with fail
    refine (wd.out _).mono ?_
    rintro e w4 ⟨rfl, rfl⟩
    go_wp2_with fail
    refine (i1.out _).mono ?_
    rintro e w5 ⟨rfl, h5⟩
    have H5 := hide (H3.out.trans (h5.mono H3.out.size))
    clear h5
    go_wp2_with fail
    go_ret
    exact ⟨by simp, H5.out⟩
end Go.Proofs.Ytiommimbnegplaa
