/- The walk of LexBack. -/
import Derived.Test.YtiommimbnegplaaPrint
import Derived.Test.YtiommimbnegplaaWords
namespace Go.Proofs.Ytiommimbnegplaa
open Go.RowKit
set_option linter.unusedVariables false

set_option maxRecDepth 100000 in
set_option maxHeartbeats 4000000 in
theorem back_walk (s : ByteArray) (hl : s.size ≤ 9223372036854775807) (w : World) :
    Calls Try.prog 7 #[.string s] w fun e w' => e = .returned (.bool true) ∧ Below w.heap.size w w' := by
  have hx : (s.extract 0 (min (s.size : Int) 1500).toNat).size ≤ 1500 := by simp; omega
  go_enter Try.func7, Try.ntmps7
  go_wp2_with fail
  generalize s.extract 0 (min (s.size : Int) 1500).toNat = S at *
  obtain ⟨T, hT⟩ : ∃ T, lexG S (S.size + 1) 0 false = T := ⟨_, rfl⟩
  have hcode : ∀ x, T.2 = some x → x.1 ≠ 0 := fun x h => lexG_code S _ _ _ x (by rw [hT]; exact h)
  obtain ⟨F, hF⟩ : ∃ F, F = flt S T := ⟨_, rfl⟩
  have sp0 : Hid (∀ w, _) := fun w => split_told S (by omega) w F (by rw [hT]; exact hF)
  rw [hT] at sp0
  have kn := hide known_any
  obtain ⟨ts, fo⟩ := T
  cases fo with
  | some x =>
    have hx0 := hcode x rfl
    have f0 : F.1 = x.1 := by rw [hF]; rfl
    have ht : toksOf (ts, some x) = [] := rfl
    rw [ht] at sp0
    obtain ⟨F0, F1, F2, F3⟩ := F
    have f0' : F0 ≠ 0 := by intro h; exact hx0 (by rw [← f0]; exact h)
    have f0b : (F0 == 0) = false := by simp [f0']
    have f0c : (F0 != 0) = true := by simp [f0']
    clear hF hcode f0 hx0 hT ht
    refine (sp0.out _).mono ?_
    rintro e w1 ⟨⟨v, rfl, a, cap, rfl, -⟩, h1⟩
    have H1 := hide h1
    clear h1
    go_wp2_with fail
    refine (kn.out _).mono ?_
    rintro e w2 ⟨rfl, h2⟩
    have H2 : Hid (Below w.heap.size w w2) := (H1.out.alloc H1.out.size _).trans (h2.mono (by have := H1.out.size; simp; omega))
    clear h2
    go_wp2_with fail
    go_ret
    exact ⟨rfl, H2.out⟩
  | none =>
    obtain ⟨b1, b2, b3, us, bu, bl, bt⟩ := back_told S ts hT
    have hF' : F = (0, 0, 0, ⟨#[]⟩) := by rw [hF]; rfl
    subst hF'
    have ht : toksOf (ts, (none : Option Flt)) = ts := rfl
    rw [ht] at sp0
    have sp1 : Hid (∀ w, _) := fun w => split_told (joined ts) (by omega) w (0, 0, 0, ⟨#[]⟩) (by rw [bu]; rfl)
    rw [bu] at sp1
    have hu : toksOf (us, (none : Option Flt)) = us := rfl
    rw [hu] at sp1
    clear hF hcode hT ht bu hu
    have B3 := hide b3
    have BT := hide bt
    clear b3 bt
    refine (sp0.out _).mono ?_
    rintro e w1 ⟨⟨v, rfl, hv⟩, h1⟩
    have pt := hide (fun w h => print_told v ts (by omega) (by omega) w h)
    have hv' := hv
    obtain ⟨a, cap, rfl, -⟩ := hv'
    go_wp2_with fail
    refine (pt.out _ (hv.below ((Below.refl _ w1).alloc (Nat.le_refl _) _))).mono ?_
    rintro e w2 ⟨rfl, h2⟩
    have k0 := blk_new w1 (.cells #[.int .i64 0, .int .i64 0, .int .i64 0, .string ⟨#[]⟩] 27)
    have hsz : (w1.alloc (.cells #[.int .i64 0, .int .i64 0, .int .i64 0, .string ⟨#[]⟩] 27)).heap.size = w1.heap.size + 1 := by simp
    have hv2 : Hid (IsToks w2 (.slice a ts.length cap) ts) := (hv.below ((Below.refl _ w1).alloc (Nat.le_refl _) _)).below h2
    have HB2 : Hid (Below w.heap.size w w2) := (h1.alloc h1.size _).trans (h2.mono (by rw [hsz]; have := h1.size; omega))
    clear k0 hsz hv h1 h2
    go_wp2_with fail
    refine (sp1.out _).mono ?_
    rintro e w3 ⟨⟨u, rfl, hu⟩, h3⟩
    have hv3 : Hid (IsToks w3 (.slice a ts.length cap) ts) := hv2.out.below h3
    have HB3 : Hid (Below w.heap.size w w3) := HB2.out.trans (h3.mono HB2.out.size)
    have hu' := hu
    obtain ⟨a2, cap2, rfl, -⟩ := hu'
    clear h3
    go_wp2_with fail
    refine (kn.out _).mono ?_
    rintro e w4 ⟨rfl, h4⟩
    have k0 := blk_new w3 (.cells #[.int .i64 0, .int .i64 0, .int .i64 0, .string ⟨#[]⟩] 27)
    have hsz : (w3.alloc (.cells #[.int .i64 0, .int .i64 0, .int .i64 0, .string ⟨#[]⟩] 27)).heap.size = w3.heap.size + 1 := by simp
    have k4 := (h4.block w3.heap.size (by rw [hsz]; omega)).trans k0
    have hv4 : Hid (IsToks w4 (.slice a ts.length cap) ts) := (hv3.out.below ((Below.refl _ w3).alloc (Nat.le_refl _) _)).below h4
    have hu4 : Hid (IsToks w4 (.slice a2 us.length cap2) us) := (hu.below ((Below.refl _ w3).alloc (Nat.le_refl _) _)).below h4
    have HB4 : Hid (Below w.heap.size w w4) := (HB3.out.alloc HB3.out.size _).trans (h4.mono (by rw [hsz]; have := HB3.out.size; omega))
    have c0 := blk_cell k4 0
    have eul : ((us.length : Int) != (ts.length : Int)) = false := by simp [bl]
    have eul2 : ((us.length : Int) == (ts.length : Int)) = true := by simp [bl]
    clear k0 hsz hu h4 k4 hv2 hv3 HB2 HB3
    go_wp2_with fail
    clear sp0 sp1 pt c0 eul eul2
    by_cases hne : ts = []
    · subst hne
      refine wp_loop_rounds 1 ?_
      rw [rounds_succ]
      go_wp2_with fail
      go_ret
      exact ⟨rfl, HB4.out⟩
    · obtain ⟨a', c', he, hd⟩ := hv4.out
      obtain ⟨rfl, -, rfl⟩ := Value.slice.inj he
      rcases hd with hd | ⟨gl, rfl, hgl, hrl⟩
      · exact absurd hd hne
      obtain ⟨a', c', he, hd⟩ := hu4.out
      obtain ⟨rfl, -, rfl⟩ := Value.slice.inj he
      rcases hd with hd | ⟨gm, rfl, hgm, hrm⟩
      · rw [hd] at bl; exact absurd (List.eq_nil_of_length_eq_zero bl.symm) hne
      have HL := hide hrl
      have HM := hide hrm
      clear hrl hrm he hv4 hu4 hne
      go_loopw [7] (fun i wr => ∃ k : Nat, k ≤ ts.length ∧ i = .int .i64 k ∧ Hid (Below w4.heap.size w4 wr)) (fun i _ => ts.length - (intOf i).toNat)
      case atStart => exact ⟨0, Nat.zero_le _, rfl, Below.refl _ _⟩
      case round =>
        obtain ⟨k, hk, rfl, hB⟩ := hrel
        by_cases hlt : k < ts.length
        · obtain ⟨l0, l1, l2⟩ := HL.out k hlt
          obtain ⟨m0, m1, -⟩ := HM.out k (by omega)
          obtain ⟨e0, e1⟩ := BT.out k (by omega) hlt
          rw [e0] at m0
          rw [e1] at m1
          obtain ⟨-, ok2, ok3⟩ := B3.out ts[k] (List.getElem_mem hlt)
          have L0 := (hB.out.cell (p := ⟨gl, k * 3, none⟩) hgl).trans l0
          have L1 := (hB.out.cell (p := ⟨gl, k * 3 + 1, none⟩) hgl).trans l1
          have L2 := (hB.out.cell (p := ⟨gl, k * 3 + 2, none⟩) hgl).trans l2
          have M0 := (hB.out.cell (p := ⟨gm, k * 3, none⟩) hgm).trans m0
          have M1 := (hB.out.cell (p := ⟨gm, k * 3 + 1, none⟩) hgm).trans m1
          clear l0 l1 l2 m0 m1 e0 e1
          have hltI : (k : Int) < (ts.length : Int) := by omega
          generalize ts[k].1 = t0 at *
          generalize ts[k].2.1 = t1 at *
          generalize ts[k].2.2 = t2 at *
          have q1 : IntKind.i64.wrap ((t2 : Int) + (t1.size : Int)) = (t2 : Int) + (t1.size : Int) := IntWalk.i64_in _ (by omega)
          have q2 : (0 : Int) ≤ (t2 : Int) + (t1.size : Int) := by omega
          have q3 : ((t2 : Int) + (t1.size : Int)).toNat = t2 + t1.size := by omega
          have q4 : (t2 : Int) + (t1.size : Int) ≤ (S.size : Int) := by omega
          have q5 : (t2 : Int) ≤ (t2 : Int) + (t1.size : Int) := by omega
          have q6 : (0 : Int) ≤ (t2 : Int) := by omega
          go_wp2_with fail
          go_region_held3 (fun w' => w'.cell? ⟨gl, k * 3, none⟩ = some (.int .i64 t0) ∧ w'.cell? ⟨gl, k * 3 + 1, none⟩ = some (.string t1) ∧ w'.cell? ⟨gl, k * 3 + 2, none⟩ = some (.int .i64 (t2 : Int)) ∧
              w'.cell? ⟨gm, k * 3, none⟩ = some (.int .i64 t0) ∧ w'.cell? ⟨gm, k * 3 + 1, none⟩ = some (.string t1))
            (go_keep)
            (first | fail)
          go_wp2_with fail
          go_roundw
          case rel => exact ⟨k + 1, by omega, by go_num, hB.out.drew⟩
          case measure => simp [intOf]; omega
        · go_wp2_with fail
          go_ret
          exact ⟨rfl, HB4.out.trans (hB.out.mono HB4.out.size)⟩
end Go.Proofs.Ytiommimbnegplaa
