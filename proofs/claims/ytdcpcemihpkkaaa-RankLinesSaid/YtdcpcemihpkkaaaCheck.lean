/- The document's Check of a rank. -/
import Derived.Test.YtdcpcemihpkkaaaRefAb
import Derived.Test.YtdcpcemihpkkaaaCheckLaw
namespace Go.Proofs.Ytdcpcemihpkkaaa
open Go.RowKit Go.Maps
set_option linter.unusedVariables false
set_option linter.unusedSimpArgs false

theorem getD_at {l : List (Int × Int)} {i : Nat} (h : i < l.length) : l.getD i (0, 0) = l[i] := by rw [List.getD_eq_getElem?_getD, List.getElem?_eq_getElem h]; rfl

set_option maxRecDepth 100000 in
set_option maxHeartbeats 32000000 in
theorem check_any (N : Int) (pa sa : Option Addr) (pl pc sl sc : Nat) (rp rs : List (Int × Int)) (hpl : pl = rp.length) (hsl : sl = rs.length) (hlp : rp.length ≤ 1000) (hls : rs.length ≤ 1000) (B : Nat) (w : World) (hB : B ≤ w.heap.size)
    (hp : IRow w B (.slice pa pl pc) rp) (hs : IRow w B (.slice sa sl sc) rs) :
    Calls Try.prog 11 #[.agg #[.int .i64 N, .slice pa pl pc, .slice sa sl sc]] w fun e w' => e = .returned (.int .i64 (newCode N rp rs)) ∧ Chg (fun _ => False) w w' := by
  subst hpl hsl
  have C1 := hide (al w (.cells #[.int .i64 N, .slice pa rp.length pc, .slice sa rs.length sc] 25))
  have HP := hide (hp.chg C1.out (fun _ _ h => h))
  have HS := hide (hs.chg C1.out (fun _ _ h => h))
  have BX := hide (blk_new w (.cells #[.int .i64 N, .slice pa rp.length pc, .slice sa rs.length sc] 25))
  have HB : Hid (B ≤ (w.alloc (.cells #[.int .i64 N, .slice pa rp.length pc, .slice sa rs.length sc] 25)).heap.size) := hide (Nat.le_trans hB C1.out.size)
  obtain ⟨w1, hw1⟩ : ∃ w1, w.alloc (.cells #[.int .i64 N, .slice pa rp.length pc, .slice sa rs.length sc] 25) = w1 := ⟨_, rfl⟩
  obtain ⟨R, hR⟩ : ∃ R, newCode N rp rs = R := ⟨_, rfl⟩
  rw [hR]
  have HR := hide hR
  rw [hw1] at C1 HP HS BX HB
  obtain ⟨b0, hb0⟩ : ∃ b0, w.heap.size = b0 := ⟨_, rfl⟩
  rw [hb0] at BX
  have k0 := blk_cell BX.out 0
  have k1 := blk_cell BX.out 1
  have k2 := blk_cell BX.out 2
  simp only [List.getElem?_toArray, List.getElem?_cons_zero, List.getElem?_cons_succ] at k0 k1 k2
  clear hp hs hR hB
  by_cases hN0 : N < 0
  · have hf : R = 1 := by rw [← HR.out]; exact nc_arg (Or.inl hN0)
    subst hf
    go_enter Try.func11, Try.ntmps11
    go_wp2_with fail
    go_ret
    exact ⟨rfl, C1.out⟩
  by_cases hN1 : 1000 < N
  · have hf : R = 1 := by rw [← HR.out]; exact nc_arg (Or.inr hN1)
    subst hf
    go_enter Try.func11, Try.ntmps11
    go_wp2_with fail
    go_ret
    exact ⟨rfl, C1.out⟩
  have HN : Hid (¬ (N < 0 ∨ N > 1000)) := hide (by omega)
  obtain ⟨n, rfl⟩ : ∃ n : Nat, N = n := ⟨N.toNat, by omega⟩
  have hN2 : n ≤ 1000 := by omega
  clear hN0 hN1
  go_enter Try.func11, Try.ntmps11
  go_wp2_with fail
  clear hw1 hb0 hN2
  go_loopw [3] (fun iv wr => ∃ k : Nat, k ≤ rp.length ∧ iv = .int .i64 k ∧ Hid ((rp.take k).any (outP n) = false) ∧ Hid (Chg (fun _ => False) w1 wr)) (fun iv _ => rp.length - (intOf iv).toNat)
  case atStart => exact ⟨0, Nat.zero_le _, rfl, by unfold Hid; simp, Chg.refl _ _⟩
  case round =>
    obtain ⟨k, hk, rfl, hA, hC⟩ := hrel
    have e0 := hC.out.cell (fun h => h) k0
    have e1 := hC.out.cell (fun h => h) k1
    by_cases hlt : k < rp.length
    · rcases HP.out with ⟨a', c', e', h0 | ⟨g, off, e2, hg, hc⟩⟩
      · rw [h0] at hlt; exact absurd hlt (Nat.not_lt_zero _)
      injection e' with e3 _ e5
      subst e3 e2
      have d0 := (hc k hlt).1
      have d1 := (hc k hlt).2
      have HAT := hide (fun h => any_at (l := rp) (f := outP n) (k := k) hlt h)
      have HNX := hide (fun h => any_takeN (l := rp) (f := outP n) (k := k) hlt hA.out h)
      have i0' : (0 : Int) ≤ (k : Int) := by omega
      have i1' : (k : Int) < (rp.length : Int) := by omega
      clear hc e5 hA
      generalize rp[k] = p at *
      obtain ⟨p0, p1⟩ := p
      dsimp only at d0 d1
      go_wp2_with fail
      clear e0 e1
      generalize wr = w0 at *
      go_loopw [4] (fun jv wr2 => ∃ j : Nat, j ≤ 2 ∧ jv = .int .i64 j ∧ Hid (0 < j → outB n p0 = false) ∧ Hid (1 < j → outB n p1 = false) ∧ Hid (Chg (fun _ => False) w1 wr2)) (fun jv _ => 2 - (intOf jv).toNat)
      case atStart => exact ⟨0, Nat.zero_le _, rfl, fun h => absurd h (by decide), fun h => absurd h (by decide), hC⟩
      case round =>
        clear hC
        obtain ⟨j, hj, rfl, hA0, hA1, hC⟩ := hrel
        have e0 := hC.out.cell (fun h => h) k0
        have e1 := hC.out.cell (fun h => h) k1
        have f0 := hC.out.cell (fun h => h) d0
        have f1 := hC.out.cell (fun h => h) d1
        rcases (show j = 0 ∨ j = 1 ∨ j = 2 by omega) with rfl | rfl | rfl
        · by_cases h1 : p0 < 0
          · have b1 : decide (p0 < 0) = true := by simp; omega
            have hf : R = 1 := by rw [← HR.out]; exact nc_pairs (HAT.out (outP_fst (by unfold outB; rw [b1]; rfl)))
            subst hf
            clear h1
            go_wp2_with fail
            go_region
            go_wp2_with fail
            go_ret
            exact ⟨rfl, (C1.out.trans hC.out).drew⟩
          · have b1 : decide (p0 < 0) = false := by simp; omega
            by_cases h2 : (n : Int) ≤ p0
            · have b2 : decide ((n : Int) ≤ p0) = true := by simp; omega
              have hf : R = 1 := by rw [← HR.out]; exact nc_pairs (HAT.out (outP_fst (by unfold outB; rw [b1, b2]; rfl)))
              subst hf
              clear h1 h2
              go_wp2_with fail
              go_region
              go_wp2_with fail
              go_ret
              exact ⟨rfl, (C1.out.trans hC.out).drew⟩
            · have b2 : decide ((n : Int) ≤ p0) = false := by simp; omega
              have hn : Hid (outB n p0 = false) := hide (by unfold outB; rw [b1, b2]; rfl)
              clear h1 h2
              go_wp2_with fail
              go_region
              go_wp2_with fail
              go_roundw
              case rel => exact ⟨1, by omega, rfl, hide (fun _ => hn.out), fun h => absurd h (by decide), hide hC.out.drew⟩
              case measure => simp [intOf]
        · by_cases h1 : p1 < 0
          · have b1 : decide (p1 < 0) = true := by simp; omega
            have hf : R = 1 := by rw [← HR.out]; exact nc_pairs (HAT.out (outP_snd (by unfold outB; rw [b1]; rfl)))
            subst hf
            clear h1
            go_wp2_with fail
            go_region
            go_wp2_with fail
            go_ret
            exact ⟨rfl, (C1.out.trans hC.out).drew⟩
          · have b1 : decide (p1 < 0) = false := by simp; omega
            by_cases h2 : (n : Int) ≤ p1
            · have b2 : decide ((n : Int) ≤ p1) = true := by simp; omega
              have hf : R = 1 := by rw [← HR.out]; exact nc_pairs (HAT.out (outP_snd (by unfold outB; rw [b1, b2]; rfl)))
              subst hf
              clear h1 h2
              go_wp2_with fail
              go_region
              go_wp2_with fail
              go_ret
              exact ⟨rfl, (C1.out.trans hC.out).drew⟩
            · have b2 : decide ((n : Int) ≤ p1) = false := by simp; omega
              have hn : Hid (outB n p1 = false) := hide (by unfold outB; rw [b1, b2]; rfl)
              clear h1 h2
              go_wp2_with fail
              go_region
              go_wp2_with fail
              go_roundw
              case rel => exact ⟨2, by omega, rfl, hide (fun _ => hA0.out (by decide)), hide (fun _ => hn.out), hide hC.out.drew⟩
              case measure => simp [intOf]
        · have HN2 := HNX.out (outP_no (hA0.out (by decide)) (hA1.out (by decide)))
          have HN3 := hide HN2
          clear HN2 hA0 hA1 HAT HNX
          go_wp2_with fail
          go_roundw
          case rel => exact ⟨k + 1, by omega, by go_num, HN3, hC⟩
          case measure => simp [intOf]; omega
    · have hkl : k = rp.length := by omega
      have PA : Hid (rp.any (outP n) = false) := hide (by have h := hA.out; rw [hkl, List.take_length] at h; exact h)
      subst hkl
      clear hA hk hlt
      go_wp2_with fail
      clear e0 e1
      generalize wr = w2 at *
      have hC1 := hC
      clear hC
      go_loopw [5] (fun iv wr => ∃ k : Nat, k ≤ rs.length ∧ iv = .int .i64 k ∧ Hid ((rs.take k).any (outS n) = false) ∧ Hid (Chg (fun _ => False) w1 wr)) (fun iv _ => rs.length - (intOf iv).toNat)
      case atStart => exact ⟨0, Nat.zero_le _, rfl, by unfold Hid; simp, hC1⟩
      case round =>
        clear hC1
        obtain ⟨k, hk, rfl, hA, hC⟩ := hrel
        have e0 := hC.out.cell (fun h => h) k0
        have e2 := hC.out.cell (fun h => h) k2
        by_cases hlt : k < rs.length
        · rcases HS.out with ⟨a', c', e', h0 | ⟨g, off, e3, hg, hc⟩⟩
          · rw [h0] at hlt; exact absurd hlt (Nat.not_lt_zero _)
          injection e' with e4 _ e5
          subst e4 e3
          have d0 := (hc k hlt).1
          have d1 := (hc k hlt).2
          have HAT := hide (fun h => any_at (l := rs) (f := outS n) (k := k) hlt h)
          have HNX := hide (fun h => any_takeN (l := rs) (f := outS n) (k := k) hlt hA.out h)
          have i0' : (0 : Int) ≤ (k : Int) := by omega
          have i1' : (k : Int) < (rs.length : Int) := by omega
          clear hc e5 hA
          generalize rs[k] = p at *
          obtain ⟨p0, p1⟩ := p
          dsimp only at d0 d1
          have f0 := hC.out.cell (fun h => h) d0
          have f1 := hC.out.cell (fun h => h) d1
          have HA := hide (al wr (.cells #[.int .i64 p0, .int .i64 p1] 51))
          have g0 := HA.out.cell (fun h => h) e0
          clear d0 d1
          by_cases h1 : p0 < 0
          · have b1 : decide (p0 < 0) = true := by simp; omega
            have hf : R = 1 := by rw [← HR.out]; exact nc_status (HAT.out (by unfold outS outB; rw [b1]; rfl))
            subst hf
            clear h1
            go_wp2_with fail
            go_ret
            exact ⟨rfl, C1.out.trans (hC.out.trans HA.out)⟩
          have b1 : decide (p0 < 0) = false := by simp; omega
          by_cases h2 : (n : Int) ≤ p0
          · have b2 : decide ((n : Int) ≤ p0) = true := by simp; omega
            have hf : R = 1 := by rw [← HR.out]; exact nc_status (HAT.out (by unfold outS outB; rw [b1, b2]; rfl))
            subst hf
            clear h1 h2
            go_wp2_with fail
            go_ret
            exact ⟨rfl, C1.out.trans (hC.out.trans HA.out)⟩
          have b2 : decide ((n : Int) ≤ p0) = false := by simp; omega
          clear h1 h2
          by_cases h3 : p1 = 0
          · subst h3
            have HN3 := hide (HNX.out (by unfold outS outB; rw [b1, b2]; rfl))
            have b3 : ((0 : Int) != 0) = false := rfl
            go_wp2_with fail
            go_roundw
            case rel => exact ⟨k + 1, by omega, by go_num, HN3, hide (hC.out.trans HA.out)⟩
            case measure => simp [intOf]; omega
          by_cases h4 : p1 = 1
          · subst h4
            have HN3 := hide (HNX.out (by unfold outS outB; rw [b1, b2]; rfl))
            have b3 : ((1 : Int) != 0) = true := rfl
            have b4 : ((1 : Int) != 1) = false := rfl
            go_wp2_with fail
            go_roundw
            case rel => exact ⟨k + 1, by omega, by go_num, HN3, hide (hC.out.trans HA.out)⟩
            case measure => simp [intOf]; omega
          have b3 : (p1 != 0) = true := by simp [h3]
          have b4 : (p1 != 1) = true := by simp [h4]
          have hf : R = 1 := by rw [← HR.out]; exact nc_status (HAT.out (by unfold outS outB; dsimp only; rw [b1, b2, Bool.false_or, Bool.false_or]; rcases Int.lt_or_gt_of_ne h3 with h | h; rw [decide_eq_true h]; rfl; rw [decide_eq_true (show p1 > 1 by omega), Bool.or_true]))
          subst hf
          clear h3 h4
          go_wp2_with fail
          go_ret
          exact ⟨rfl, C1.out.trans (hC.out.trans HA.out)⟩
        · have hkl : k = rs.length := by omega
          have SA : Hid (rs.any (outS n) = false) := hide (by have h := hA.out; rw [hkl, List.take_length] at h; exact h)
          subst hkl
          clear hA hk hlt
          have e1 := hC.out.cell (fun h => h) k1
          have q0 : decide ((1000 : Int) < (rp.length : Int)) = false := by simp; omega
          go_wp2_with fail
          clear e0 e1 e2 q0
          generalize wr = w3 at *
          have hC1 := hC
          clear hC
          go_loopw [7] (fun iv wr => ∃ k : Nat, k ≤ rs.length ∧ iv = .int .i64 k ∧ Hid (∀ j, j < k → ∀ i, i < j → (rs.getD i (0, 0)).1 ≠ (rs.getD j (0, 0)).1) ∧ Hid (Chg (fun _ => False) w1 wr)) (fun iv _ => rs.length - (intOf iv).toNat)
          case atStart => exact ⟨0, Nat.zero_le _, rfl, fun j hj => absurd hj (Nat.not_lt_zero _), hC1⟩
          case round =>
            clear hC1
            obtain ⟨k, hk, rfl, hA, hC⟩ := hrel
            have e2 := hC.out.cell (fun h => h) k2
            by_cases hlt : k < rs.length
            · rcases HS.out with ⟨a', c', e', h0 | ⟨g, off, e3, hg, hc⟩⟩
              · rw [h0] at hlt; exact absurd hlt (Nat.not_lt_zero _)
              injection e' with e4 _ e5
              subst e4 e3
              have HC := hide hc
              have d0 := (hc k hlt).1
              have Hk : Hid ((rs.getD k (0, 0)).1 = rs[k].1) := hide (by rw [getD_at hlt])
              have HDU := hide (fun i h e => dup_at (rs := rs) (j := k) (i := i) hlt h e)
              have i0' : (0 : Int) ≤ (k : Int) := by omega
              have i1' : (k : Int) < (rs.length : Int) := by omega
              clear hc e5
              generalize rs[k].1 = x at *
              go_wp2_with fail
              clear e2
              generalize wr = w4 at *
              go_loopw [8] (fun jv wr2 => ∃ m : Nat, m ≤ k ∧ jv = .int .i64 m ∧ Hid (∀ i, i < m → (rs.getD i (0, 0)).1 ≠ x) ∧ Hid (Chg (fun _ => False) w1 wr2)) (fun jv _ => k - (intOf jv).toNat)
              case atStart => exact ⟨0, Nat.zero_le _, rfl, fun i hi => absurd hi (Nat.not_lt_zero _), hC⟩
              case round =>
                clear hC
                obtain ⟨m, hm, rfl, hM, hC⟩ := hrel
                by_cases hlm : m < k
                · have e2 := hC.out.cell (fun h => h) k2
                  have f0 := hC.out.cell (fun h => h) d0
                  have hml : m < rs.length := by omega
                  have f1 := hC.out.cell (fun h => h) (HC.out m hml).1
                  have Hm : Hid ((rs.getD m (0, 0)).1 = rs[m].1) := hide (by rw [getD_at hml])
                  have HD1 := hide (fun h => HDU.out m hlm h)
                  have j0 : (0 : Int) ≤ (m : Int) := by omega
                  have j1 : (m : Int) < (rs.length : Int) := by omega
                  generalize rs[m].1 = y at *
                  by_cases e : y = x
                  · have hf : R = 4 := by rw [← HR.out]; exact nc_name HN.out PA.out SA.out (HD1.out e)
                    have eb : (y == x) = true := by simp [e]
                    subst hf
                    clear e
                    go_wp2_with fail
                    go_region
                    go_wp2_with fail
                    go_ret
                    exact ⟨rfl, (C1.out.trans hC.out).drew⟩
                  · have eb : (y == x) = false := by simp [e]
                    have HM2 : Hid (∀ i, i < m + 1 → (rs.getD i (0, 0)).1 ≠ x) := hide (fun i hi => by
                      rcases Nat.lt_succ_iff_lt_or_eq.1 hi with h | h
                      · exact hM.out i h
                      · subst h; rw [Hm.out]; exact e)
                    clear e hM Hm HD1
                    go_wp2_with fail
                    go_region
                    go_wp2_with fail
                    go_roundw
                    case rel => exact ⟨m + 1, by omega, by go_num, HM2, hide hC.out.drew⟩
                    case measure => simp [intOf]; omega
                · have hmk : m = k := by omega
                  subst hmk
                  have HA2 : Hid (∀ j, j < m + 1 → ∀ i, i < j → (rs.getD i (0, 0)).1 ≠ (rs.getD j (0, 0)).1) := hide (fun j hj => by
                    rcases Nat.lt_succ_iff_lt_or_eq.1 hj with h | h
                    · exact hA.out j h
                    · subst h; rw [Hk.out]; exact hM.out)
                  clear hM hA hlm
                  go_wp2_with fail
                  go_roundw
                  case rel => exact ⟨m + 1, by omega, by go_num, HA2, hC⟩
                  case measure => simp [intOf]; omega
            · have hkl : k = rs.length := by omega
              have DU : Hid (dup rs = false) := hide (dup_none (fun j hj i hi => by
                have h := hA.out j (by omega) i hi
                rw [getD_at hj, getD_at (show i < rs.length by omega)] at h
                exact h))
              subst hkl
              clear hA hk hlt
              go_wp2_with fail
              clear e2
              generalize wr = w5 at *
              have hC1 := hC
              clear hC
              go_loopw [9] (fun iv wr => ∃ k : Nat, k ≤ rp.length ∧ iv = .int .i64 k ∧ Hid ((rp.take k).any (fun p => abv n (nats rp) p.1 p.1) = false) ∧ Hid (Chg (fun _ => False) w1 wr)) (fun iv _ => rp.length - (intOf iv).toNat)
              case atStart => exact ⟨0, Nat.zero_le _, rfl, by unfold Hid; simp, hC1⟩
              case round =>
                clear hC1
                obtain ⟨k, hk, rfl, hA, hC⟩ := hrel
                have e0 := hC.out.cell (fun h => h) k0
                have e1 := hC.out.cell (fun h => h) k1
                have e2 := hC.out.cell (fun h => h) k2
                by_cases hlt : k < rp.length
                · have AB := hide (fun (x y : Int) (w : World) (g : Chg (fun _ => False) w1 w) => refAb_any n x y pa sa rp.length pc rs.length sc (nats rp) (by unfold nats; rw [List.length_map]; exact hlp) B w ((prow_nats HP.out PA.out).chg g (fun _ _ h => h)) (Nat.le_trans HB.out g.size))
                  rcases HP.out with ⟨a', c', e', h0 | ⟨g, off, e3, hg, hc⟩⟩
                  · rw [h0] at hlt; exact absurd hlt (Nat.not_lt_zero _)
                  injection e' with e4 _ e5
                  subst e4 e3
                  have d0 := hC.out.cell (fun h => h) (hc k hlt).1
                  have HCY := hide (fun h => cyc_at (N := n) PA.out hlt h)
                  have HNX := hide (fun h => any_takeN (l := rp) (f := fun p => abv n (nats rp) p.1 p.1) (k := k) hlt hA.out h)
                  have i0' : (0 : Int) ≤ (k : Int) := by omega
                  have i1' : (k : Int) < (rp.length : Int) := by omega
                  clear hc e5 hA
                  generalize rp[k] = p at *
                  obtain ⟨p0, p1⟩ := p
                  dsimp only at d0
                  have AB1 := hide (fun w g => AB.out p0 p0 w g)
                  clear AB
                  cases hb : abv n (nats rp) p0 p0
                  · rw [hb] at AB1
                    have HN3 := hide (HNX.out hb)
                    clear HNX HCY hb
                    go_wp2_with fail
                    go_region_held3 (fun w' => w'.cell? ⟨b0, 0, none⟩ = some (.int .i64 (n : Int)) ∧ w'.cell? ⟨b0, 1, none⟩ = some (.slice (some ⟨g, off, none⟩) rp.length pc) ∧ w'.cell? ⟨b0, 2, none⟩ = some (.slice sa rs.length sc) ∧ w'.cell? ⟨g, off + k * 2, none⟩ = some (.int .i64 p0))
                      (go_keep)
                      (first | (go_at_call 14; refine (AB1.out _ hC.out.drew).mono ?_; rintro e w9 ⟨rfl, g9⟩; have y0 := g9.cell (fun h => h) e0; have y1 := g9.cell (fun h => h) e1; have y2 := g9.cell (fun h => h) e2; have y3 := g9.cell (fun h => h) d0))
                    have C9 := hide (hC.out.drew.trans g9)
                    clear g9 AB1 hC
                    go_wp2_with fail
                    go_roundw
                    case rel => exact ⟨k + 1, by omega, by go_num, HN3, C9⟩
                    case measure => simp [intOf]; omega
                  · rw [hb] at AB1
                    have hf : R = 8 := by rw [← HR.out]; exact nc_order HN.out PA.out SA.out DU.out (HCY.out hb)
                    subst hf
                    clear HNX HCY hb
                    go_wp2_with fail
                    go_region_held3 (fun w' => w'.cell? ⟨b0, 0, none⟩ = some (.int .i64 (n : Int)) ∧ w'.cell? ⟨b0, 1, none⟩ = some (.slice (some ⟨g, off, none⟩) rp.length pc) ∧ w'.cell? ⟨b0, 2, none⟩ = some (.slice sa rs.length sc) ∧ w'.cell? ⟨g, off + k * 2, none⟩ = some (.int .i64 p0))
                      (go_keep)
                      (first | (go_at_call 14; refine (AB1.out _ hC.out.drew).mono ?_; rintro e w9 ⟨rfl, g9⟩; have y0 := g9.cell (fun h => h) e0; have y1 := g9.cell (fun h => h) e1; have y2 := g9.cell (fun h => h) e2; have y3 := g9.cell (fun h => h) d0))
                    have C9 := hide (hC.out.drew.trans g9)
                    clear g9 AB1 hC
                    go_wp2_with fail
                    go_ret
                    exact ⟨rfl, C1.out.trans C9.out⟩
                · have hkl : k = rp.length := by omega
                  have hf : R = 0 := by
                    rw [← HR.out]
                    refine nc_ok HN.out PA.out SA.out DU.out (cyc_none PA.out ?_)
                    have h := hA.out
                    rw [hkl, List.take_length] at h
                    exact h
                  subst hf hkl
                  clear hA
                  go_wp2_with fail
                  go_ret
                  exact ⟨rfl, C1.out.trans hC.out⟩
end Go.Proofs.Ytdcpcemihpkkaaa
