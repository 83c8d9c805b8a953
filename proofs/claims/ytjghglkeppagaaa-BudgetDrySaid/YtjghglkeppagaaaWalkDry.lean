/- The walk of BudgetDry. -/
import Derived.Test.YtjghglkeppagaaaWalkAlls
namespace Go.Proofs.Ytjghglkeppagaaa
open Go.RowKit

set_option maxHeartbeats 2000000 in
theorem dry_walk (n : Int) (a : Option Addr) (len cap : Nat) (zs : List Int) (w : World) (h : Sl w a len cap zs) :
    Calls Try.prog 4 #[.int .i64 n, .slice a len cap] w fun e w' => e = .returned (.bool true) ∧ Below w.heap.size w w' := by
  rcases h with ⟨rfl, rfl, hcap⟩ | ⟨g, off, rfl, h1, h2, h3, h4, h5, h6⟩
  · clear hcap
    go_enter Try.func4, Try.ntmps4
    go_wp2_with fail
    have hbd := mod_bd n 1000 (by omega) (by omega)
    generalize wrap64 ((IntKind.u64.wrap n).tmod 1000) = m at *
    obtain ⟨hm0, hm1⟩ := hbd
    refine (pNew_at m m (Or.inr ⟨hm0, rfl⟩) _).mono ?_
    rintro e w1 ⟨rfl, p1, g1⟩
    have G1 : Hid (Chg (fun k => w.heap.size ≤ k) w w1) := g1.mono (fun _ _ h => h.elim)
    generalize hB : w.heap.size = B at *
    have HB := hide hB
    have P1 := hide p1
    clear p1 g1 hB
    go_wp2_with fail
    refine wp_loop_rounds 1 ?_
    rw [rounds_succ]
    obtain ⟨l, hl⟩ : ∃ l : Int, l = m := ⟨_, rfl⟩
    obtain ⟨u, hu⟩ : ∃ u : Int, u = 0 := ⟨_, rfl⟩
    obtain ⟨d, hd⟩ : ∃ d : Bool, d = false := ⟨_, rfl⟩
    have P : Hid (PB w1 B l u d) := by rw [hl, hu, hd]; exact P1
    have a1 : 0 ≤ l := by omega
    have a2 : l ≤ m := by omega
    have a3 : l + u = m := by omega
    have G := G1
    clear hd hl hu
    go_wp2_with fail

    refine (pLeft _ _ _ _ _ P.out).mono ?_
    rintro e w9 ⟨rfl, rfl⟩
    cases d
    · go_wp2_with fail
      refine (pSpend_yes _ _ _ _ _ P.out (by omega) (by omega) (by omega) (by omega)).mono ?_
      rintro e w2 ⟨rfl, q1, g1⟩
      rw [show l - l = 0 by omega] at q1
      have K1 := hide (G.out.trans (g1.mono (fun k _ h => by omega)))
      have Q1 := hide q1
      clear q1 g1
      go_wp2_with fail
      refine (pDry _ _ _ _ _ Q1.out).mono ?_
      rintro e w9 ⟨rfl, rfl⟩
      go_wp2_with fail
      refine (pSpend_yes _ _ _ _ _ Q1.out (by omega) (by omega) (by omega) (by omega)).mono ?_
      rintro e w3 ⟨rfl, q2, g2⟩
      rw [show (0 : Int) - 0 = 0 by omega, show u + l + 0 = u + l by omega] at q2
      have K2 := hide (K1.out.trans (g2.mono (fun k _ h => by omega)))
      have Q2 := hide q2
      clear q2 g2
      go_wp2_with fail
      refine (pSpend_no _ _ _ _ _ _ Q2.out (by omega) (Or.inr (by omega)) (by omega) (by omega) (by omega)).mono ?_
      rintro e w4 ⟨rfl, q4, g4⟩
      have H4 := hide (K2.out.trans (g4.mono (fun k _ h => by omega)))
      rw [show (u + l + 0 : Int) = u + l by omega] at q4
      have Q4 := hide q4
      clear q4 g4
      go_wp2_with fail
      refine (pNew_at 9 9 (by omega) _).mono ?_
      rintro e w5 ⟨rfl, c5, g5⟩
      have al := (Chg.refl (fun _ => False) w5).alloc (.cells #[.pointer (some ⟨w4.heap.size, 0, none⟩)] 24)
      have H6 := hide ((H4.out.trans (g5.mono (fun _ _ h => h.elim))).trans (al.mono (fun _ _ h => h.elim)))
      have C6 := hide (c5.chg al (fun h => h))
      have Q6 := hide ((Q4.out.chg g5 (fun h => h)).chg al (fun h => h))
      have s4 := Q4.out.lt
      have cc : (w5.alloc (.cells #[.pointer (some ⟨w4.heap.size, 0, none⟩)] 24)).cell? ⟨w5.heap.size, 0, none⟩ = some (.pointer (some ⟨w4.heap.size, 0, none⟩)) := by simp
      have CC := hide cc
      clear g5 c5 al cc
      go_wp2_with fail
      refine (pBack_other B w4.heap.size w5.heap.size 0 1 0 (u + l) 9 0 true false _ (by omega) Q6.out C6.out CC.out (by omega) (by omega) (by omega) (by omega)).mono ?_
      rintro e w7 ⟨rfl, q7, c7, g7⟩
      rw [Bool.true_or] at q7
      have H7 := hide (H6.out.trans (g7.mono (fun k _ h => by have := H4.out.size; have := HB.out; omega)))
      have Q7 := hide q7
      clear q7 c7 g7
      go_wp2_with fail
      refine (known_any _).mono ?_
      rintro e w8 ⟨rfl, g8⟩
      have H8 := hide (H7.out.trans (g8.mono (fun _ _ h => h.elim)))
      have Q8 := hide (Q7.out.chg g8 (fun h => h))
      clear g8
      go_wp2_with fail
      refine (pDry _ _ _ _ _ Q8.out).mono ?_
      rintro e w9 ⟨rfl, rfl⟩
      go_wp2_with fail
      refine (pSpend_no _ _ _ _ _ _ Q8.out (by omega) (Or.inl rfl) (by omega) (by omega) (by omega)).mono ?_
      rintro e w9 ⟨rfl, q9, g9⟩
      have H9 := hide (H8.out.trans (g9.mono (fun k _ h => by omega)))
      have Q9 := hide q9
      clear q9 g9
      go_wp2_with fail
      refine (pLeft _ _ _ _ _ Q9.out).mono ?_
      rintro e w10 ⟨rfl, rfl⟩
      go_wp2_with fail
      go_ret
      refine ⟨rfl, ?_⟩
      have hb := HB.out
      exact H9.out.below (by omega) (fun k h => by omega)
    · go_wp2_with fail
      refine (pSpend_no _ _ _ _ _ _ P.out (by omega) (Or.inl rfl) (by omega) (by omega) (by omega)).mono ?_
      rintro e w2 ⟨rfl, q1, g1⟩
      have K1 := hide (G.out.trans (g1.mono (fun k _ h => by omega)))
      have Q1 := hide q1
      clear q1 g1
      go_wp2_with fail
      refine (pDry _ _ _ _ _ Q1.out).mono ?_
      rintro e w9 ⟨rfl, rfl⟩
      go_wp2_with fail
      refine (pSpend_no _ _ _ _ _ _ Q1.out (by omega) (Or.inl rfl) (by omega) (by omega) (by omega)).mono ?_
      rintro e w3 ⟨rfl, q2, g2⟩
      rw [show u + l + 0 = u + l by omega] at q2
      have K2 := hide (K1.out.trans (g2.mono (fun k _ h => by omega)))
      have Q2 := hide q2
      clear q2 g2
      go_wp2_with fail
      refine (pSpend_no _ _ _ _ _ _ Q2.out (by omega) (Or.inr (by omega)) (by omega) (by omega) (by omega)).mono ?_
      rintro e w4 ⟨rfl, q4, g4⟩
      have H4 := hide (K2.out.trans (g4.mono (fun k _ h => by omega)))
      rw [show (u + l + 0 : Int) = u + l by omega] at q4
      have Q4 := hide q4
      clear q4 g4
      go_wp2_with fail
      refine (pNew_at 9 9 (by omega) _).mono ?_
      rintro e w5 ⟨rfl, c5, g5⟩
      have al := (Chg.refl (fun _ => False) w5).alloc (.cells #[.pointer (some ⟨w4.heap.size, 0, none⟩)] 24)
      have H6 := hide ((H4.out.trans (g5.mono (fun _ _ h => h.elim))).trans (al.mono (fun _ _ h => h.elim)))
      have C6 := hide (c5.chg al (fun h => h))
      have Q6 := hide ((Q4.out.chg g5 (fun h => h)).chg al (fun h => h))
      have s4 := Q4.out.lt
      have cc : (w5.alloc (.cells #[.pointer (some ⟨w4.heap.size, 0, none⟩)] 24)).cell? ⟨w5.heap.size, 0, none⟩ = some (.pointer (some ⟨w4.heap.size, 0, none⟩)) := by simp
      have CC := hide cc
      clear g5 c5 al cc
      go_wp2_with fail
      refine (pBack_other B w4.heap.size w5.heap.size 0 1 0 (u + l) 9 0 true false _ (by omega) Q6.out C6.out CC.out (by omega) (by omega) (by omega) (by omega)).mono ?_
      rintro e w7 ⟨rfl, q7, c7, g7⟩
      rw [Bool.true_or] at q7
      have H7 := hide (H6.out.trans (g7.mono (fun k _ h => by have := H4.out.size; have := HB.out; omega)))
      have Q7 := hide q7
      clear q7 c7 g7
      go_wp2_with fail
      refine (known_any _).mono ?_
      rintro e w8 ⟨rfl, g8⟩
      have H8 := hide (H7.out.trans (g8.mono (fun _ _ h => h.elim)))
      have Q8 := hide (Q7.out.chg g8 (fun h => h))
      clear g8
      go_wp2_with fail
      refine (pDry _ _ _ _ _ Q8.out).mono ?_
      rintro e w9 ⟨rfl, rfl⟩
      go_wp2_with fail
      refine (pSpend_no _ _ _ _ _ _ Q8.out (by omega) (Or.inl rfl) (by omega) (by omega) (by omega)).mono ?_
      rintro e w9 ⟨rfl, q9, g9⟩
      have H9 := hide (H8.out.trans (g9.mono (fun k _ h => by omega)))
      have Q9 := hide q9
      clear q9 g9
      go_wp2_with fail
      refine (pLeft _ _ _ _ _ Q9.out).mono ?_
      rintro e w10 ⟨rfl, rfl⟩
      go_wp2_with fail
      go_ret
      refine ⟨rfl, ?_⟩
      have hb := HB.out
      exact H9.out.below (by omega) (fun k h => by omega)
  · have H6 := hide h6
    have H5 := hide h5
    clear h6 h5
    go_enter Try.func4, Try.ntmps4
    go_wp2_with fail
    have hbd := mod_bd n 1000 (by omega) (by omega)
    generalize wrap64 ((IntKind.u64.wrap n).tmod 1000) = m at *
    obtain ⟨hm0, hm1⟩ := hbd
    refine (pNew_at m m (Or.inr ⟨hm0, rfl⟩) _).mono ?_
    rintro e w1 ⟨rfl, p1, g1⟩
    have G1 : Hid (Chg (fun k => w.heap.size ≤ k) w w1) := g1.mono (fun _ _ h => h.elim)
    generalize hB : w.heap.size = B at *
    have HB := hide hB
    have P1 := hide p1
    clear p1 g1 hB
    go_wp2_with fail
    go_loopw [6] (fun i wr => ∃ (k : Nat) (l u : Int) (d : Bool), k ≤ len ∧ k ≤ 100 ∧ i = .int .i64 k ∧ PB wr B l u d ∧ Chg (fun k => B ≤ k) w wr ∧ 0 ≤ l ∧ l ≤ m ∧ l + u = m) (fun i _ => 100 - (intOf i).toNat)
    case atStart => exact ⟨0, m, 0, false, Nat.zero_le _, by omega, rfl, P1.out, G1.out, hm0, Int.le_refl _, by omega⟩
    case round =>
      obtain ⟨k, l, u, d, hk, hk2, rfl, hp, hg, a1, a2, a3⟩ := hrel
      have P := hide hp
      have G := hide hg
      clear hp hg
      by_cases hlt : k < len
      · by_cases hlt2 : k < 100
        · have hcell := G.out.cell (g := g) (by omega) (H6.out k hlt)
          generalize zs.getD k 0 = z0 at *
          obtain ⟨hz1, hz2⟩ := mod_bd z0 2000 (by omega) (by omega)
          obtain ⟨bd1, bd2, bd3⟩ := sp_bd l u d (wrap64 ((IntKind.u64.wrap z0).tmod 2000)) a1
          have sp := hide (pSpend B l u (wrap64 ((IntKind.u64.wrap z0).tmod 2000)) d wr P.out a1 (by omega) (by omega))
          rcases sp_cases l u d (wrap64 ((IntKind.u64.wrap z0).tmod 2000)) with ⟨s1, _⟩ | ⟨s1, rfl, s2, s3, s4, s5, s6⟩ | ⟨s1, s2, s3, s4, s5, s6⟩
          · omega
          · rw [s3, s4, s5, s6] at sp
            rw [s4, s5] at bd3
            rw [s4] at bd1 bd2
            clear s3 s4 s5 s6
            go_wp2_with fail
            generalize (wrap64 ((IntKind.u64.wrap z0).tmod 2000)) = z at *
            refine (pLeft _ _ _ _ _ P.out).mono ?_
            rintro e w9 ⟨rfl, rfl⟩
            go_wp2_with fail
            refine (pDry _ _ _ _ _ P.out).mono ?_
            rintro e w9 ⟨rfl, rfl⟩
            go_wp2_with fail
            refine sp.out.mono ?_
            rintro e w3 ⟨rfl, h8, h9⟩
            have P8 := hide h8
            have G8 := hide (G.out.trans (h9.mono (fun k _ h => by omega)))
            clear h8 h9 sp
            go_wp2_with fail
            go_roundw
            case rel => exact ⟨k + 1, _, _, _, by omega, by omega, by go_num, P8.out, G8.out, bd1, by omega, by omega⟩
            case measure => simp [intOf]; omega
          · rw [s3, s4, s5, s6] at sp
            rw [s4, s5] at bd3
            rw [s4] at bd1 bd2
            clear s3 s4 s5 s6
            by_cases hzl : (wrap64 ((IntKind.u64.wrap z0).tmod 2000)) ≤ l
            · have hd : d = true := by
                rcases s2 with h | h
                · exact h
                · omega
              subst hd
              clear s2
              go_wp2_with fail
              generalize (wrap64 ((IntKind.u64.wrap z0).tmod 2000)) = z at *
              refine (pLeft _ _ _ _ _ P.out).mono ?_
              rintro e w9 ⟨rfl, rfl⟩
              go_wp2_with fail
              refine (pDry _ _ _ _ _ P.out).mono ?_
              rintro e w9 ⟨rfl, rfl⟩
              go_wp2_with fail
              refine sp.out.mono ?_
              rintro e w3 ⟨rfl, h8, h9⟩
              have P8 := hide h8
              have G8 := hide (G.out.trans (h9.mono (fun k _ h => by omega)))
              clear h8 h9 sp
              go_wp2_with fail
              refine (pDry _ _ _ _ _ P8.out).mono ?_
              rintro e w9 ⟨rfl, rfl⟩
              go_wp2_with fail
              go_roundw
              case rel => exact ⟨k + 1, _, _, _, by omega, by omega, by go_num, P8.out, G8.out, bd1, by omega, by omega⟩
              case measure => simp [intOf]; omega
            · clear s2
              go_wp2_with fail
              generalize (wrap64 ((IntKind.u64.wrap z0).tmod 2000)) = z at *
              refine (pLeft _ _ _ _ _ P.out).mono ?_
              rintro e w9 ⟨rfl, rfl⟩
              go_wp2_with fail
              refine sp.out.mono ?_
              rintro e w3 ⟨rfl, h8, h9⟩
              have P8 := hide h8
              have G8 := hide (G.out.trans (h9.mono (fun k _ h => by omega)))
              clear h8 h9 sp
              go_wp2_with fail
              refine (pDry _ _ _ _ _ P8.out).mono ?_
              rintro e w9 ⟨rfl, rfl⟩
              go_wp2_with fail
              go_roundw
              case rel => exact ⟨k + 1, _, _, _, by omega, by omega, by go_num, P8.out, G8.out, bd1, by omega, by omega⟩
              case measure => simp [intOf]; omega
        · go_wp2_with fail
          refine (pLeft _ _ _ _ _ P.out).mono ?_
          rintro e w9 ⟨rfl, rfl⟩
          cases d
          · go_wp2_with fail
            refine (pSpend_yes _ _ _ _ _ P.out (by omega) (by omega) (by omega) (by omega)).mono ?_
            rintro e w2 ⟨rfl, q1, g1⟩
            rw [show l - l = 0 by omega] at q1
            have K1 := hide (G.out.trans (g1.mono (fun k _ h => by omega)))
            have Q1 := hide q1
            clear q1 g1
            go_wp2_with fail
            refine (pDry _ _ _ _ _ Q1.out).mono ?_
            rintro e w9 ⟨rfl, rfl⟩
            go_wp2_with fail
            refine (pSpend_yes _ _ _ _ _ Q1.out (by omega) (by omega) (by omega) (by omega)).mono ?_
            rintro e w3 ⟨rfl, q2, g2⟩
            rw [show (0 : Int) - 0 = 0 by omega, show u + l + 0 = u + l by omega] at q2
            have K2 := hide (K1.out.trans (g2.mono (fun k _ h => by omega)))
            have Q2 := hide q2
            clear q2 g2
            go_wp2_with fail
            refine (pSpend_no _ _ _ _ _ _ Q2.out (by omega) (Or.inr (by omega)) (by omega) (by omega) (by omega)).mono ?_
            rintro e w4 ⟨rfl, q4, g4⟩
            have H4 := hide (K2.out.trans (g4.mono (fun k _ h => by omega)))
            rw [show (u + l + 0 : Int) = u + l by omega] at q4
            have Q4 := hide q4
            clear q4 g4
            go_wp2_with fail
            refine (pNew_at 9 9 (by omega) _).mono ?_
            rintro e w5 ⟨rfl, c5, g5⟩
            have al := (Chg.refl (fun _ => False) w5).alloc (.cells #[.pointer (some ⟨w4.heap.size, 0, none⟩)] 24)
            have H6 := hide ((H4.out.trans (g5.mono (fun _ _ h => h.elim))).trans (al.mono (fun _ _ h => h.elim)))
            have C6 := hide (c5.chg al (fun h => h))
            have Q6 := hide ((Q4.out.chg g5 (fun h => h)).chg al (fun h => h))
            have s4 := Q4.out.lt
            have cc : (w5.alloc (.cells #[.pointer (some ⟨w4.heap.size, 0, none⟩)] 24)).cell? ⟨w5.heap.size, 0, none⟩ = some (.pointer (some ⟨w4.heap.size, 0, none⟩)) := by simp
            have CC := hide cc
            clear g5 c5 al cc
            go_wp2_with fail
            refine (pBack_other B w4.heap.size w5.heap.size 0 1 0 (u + l) 9 0 true false _ (by omega) Q6.out C6.out CC.out (by omega) (by omega) (by omega) (by omega)).mono ?_
            rintro e w7 ⟨rfl, q7, c7, g7⟩
            rw [Bool.true_or] at q7
            have H7 := hide (H6.out.trans (g7.mono (fun k _ h => by have := H4.out.size; have := HB.out; omega)))
            have Q7 := hide q7
            clear q7 c7 g7
            go_wp2_with fail
            refine (known_any _).mono ?_
            rintro e w8 ⟨rfl, g8⟩
            have H8 := hide (H7.out.trans (g8.mono (fun _ _ h => h.elim)))
            have Q8 := hide (Q7.out.chg g8 (fun h => h))
            clear g8
            go_wp2_with fail
            refine (pDry _ _ _ _ _ Q8.out).mono ?_
            rintro e w9 ⟨rfl, rfl⟩
            go_wp2_with fail
            refine (pSpend_no _ _ _ _ _ _ Q8.out (by omega) (Or.inl rfl) (by omega) (by omega) (by omega)).mono ?_
            rintro e w9 ⟨rfl, q9, g9⟩
            have H9 := hide (H8.out.trans (g9.mono (fun k _ h => by omega)))
            have Q9 := hide q9
            clear q9 g9
            go_wp2_with fail
            refine (pLeft _ _ _ _ _ Q9.out).mono ?_
            rintro e w10 ⟨rfl, rfl⟩
            go_wp2_with fail
            go_ret
            refine ⟨rfl, ?_⟩
            have hb := HB.out
            exact H9.out.below (by omega) (fun k h => by omega)
          · go_wp2_with fail
            refine (pSpend_no _ _ _ _ _ _ P.out (by omega) (Or.inl rfl) (by omega) (by omega) (by omega)).mono ?_
            rintro e w2 ⟨rfl, q1, g1⟩
            have K1 := hide (G.out.trans (g1.mono (fun k _ h => by omega)))
            have Q1 := hide q1
            clear q1 g1
            go_wp2_with fail
            refine (pDry _ _ _ _ _ Q1.out).mono ?_
            rintro e w9 ⟨rfl, rfl⟩
            go_wp2_with fail
            refine (pSpend_no _ _ _ _ _ _ Q1.out (by omega) (Or.inl rfl) (by omega) (by omega) (by omega)).mono ?_
            rintro e w3 ⟨rfl, q2, g2⟩
            rw [show u + l + 0 = u + l by omega] at q2
            have K2 := hide (K1.out.trans (g2.mono (fun k _ h => by omega)))
            have Q2 := hide q2
            clear q2 g2
            go_wp2_with fail
            refine (pSpend_no _ _ _ _ _ _ Q2.out (by omega) (Or.inr (by omega)) (by omega) (by omega) (by omega)).mono ?_
            rintro e w4 ⟨rfl, q4, g4⟩
            have H4 := hide (K2.out.trans (g4.mono (fun k _ h => by omega)))
            rw [show (u + l + 0 : Int) = u + l by omega] at q4
            have Q4 := hide q4
            clear q4 g4
            go_wp2_with fail
            refine (pNew_at 9 9 (by omega) _).mono ?_
            rintro e w5 ⟨rfl, c5, g5⟩
            have al := (Chg.refl (fun _ => False) w5).alloc (.cells #[.pointer (some ⟨w4.heap.size, 0, none⟩)] 24)
            have H6 := hide ((H4.out.trans (g5.mono (fun _ _ h => h.elim))).trans (al.mono (fun _ _ h => h.elim)))
            have C6 := hide (c5.chg al (fun h => h))
            have Q6 := hide ((Q4.out.chg g5 (fun h => h)).chg al (fun h => h))
            have s4 := Q4.out.lt
            have cc : (w5.alloc (.cells #[.pointer (some ⟨w4.heap.size, 0, none⟩)] 24)).cell? ⟨w5.heap.size, 0, none⟩ = some (.pointer (some ⟨w4.heap.size, 0, none⟩)) := by simp
            have CC := hide cc
            clear g5 c5 al cc
            go_wp2_with fail
            refine (pBack_other B w4.heap.size w5.heap.size 0 1 0 (u + l) 9 0 true false _ (by omega) Q6.out C6.out CC.out (by omega) (by omega) (by omega) (by omega)).mono ?_
            rintro e w7 ⟨rfl, q7, c7, g7⟩
            rw [Bool.true_or] at q7
            have H7 := hide (H6.out.trans (g7.mono (fun k _ h => by have := H4.out.size; have := HB.out; omega)))
            have Q7 := hide q7
            clear q7 c7 g7
            go_wp2_with fail
            refine (known_any _).mono ?_
            rintro e w8 ⟨rfl, g8⟩
            have H8 := hide (H7.out.trans (g8.mono (fun _ _ h => h.elim)))
            have Q8 := hide (Q7.out.chg g8 (fun h => h))
            clear g8
            go_wp2_with fail
            refine (pDry _ _ _ _ _ Q8.out).mono ?_
            rintro e w9 ⟨rfl, rfl⟩
            go_wp2_with fail
            refine (pSpend_no _ _ _ _ _ _ Q8.out (by omega) (Or.inl rfl) (by omega) (by omega) (by omega)).mono ?_
            rintro e w9 ⟨rfl, q9, g9⟩
            have H9 := hide (H8.out.trans (g9.mono (fun k _ h => by omega)))
            have Q9 := hide q9
            clear q9 g9
            go_wp2_with fail
            refine (pLeft _ _ _ _ _ Q9.out).mono ?_
            rintro e w10 ⟨rfl, rfl⟩
            go_wp2_with fail
            go_ret
            refine ⟨rfl, ?_⟩
            have hb := HB.out
            exact H9.out.below (by omega) (fun k h => by omega)
      · go_wp2_with fail
        refine (pLeft _ _ _ _ _ P.out).mono ?_
        rintro e w9 ⟨rfl, rfl⟩
        cases d
        · go_wp2_with fail
          refine (pSpend_yes _ _ _ _ _ P.out (by omega) (by omega) (by omega) (by omega)).mono ?_
          rintro e w2 ⟨rfl, q1, g1⟩
          rw [show l - l = 0 by omega] at q1
          have K1 := hide (G.out.trans (g1.mono (fun k _ h => by omega)))
          have Q1 := hide q1
          clear q1 g1
          go_wp2_with fail
          refine (pDry _ _ _ _ _ Q1.out).mono ?_
          rintro e w9 ⟨rfl, rfl⟩
          go_wp2_with fail
          refine (pSpend_yes _ _ _ _ _ Q1.out (by omega) (by omega) (by omega) (by omega)).mono ?_
          rintro e w3 ⟨rfl, q2, g2⟩
          rw [show (0 : Int) - 0 = 0 by omega, show u + l + 0 = u + l by omega] at q2
          have K2 := hide (K1.out.trans (g2.mono (fun k _ h => by omega)))
          have Q2 := hide q2
          clear q2 g2
          go_wp2_with fail
          refine (pSpend_no _ _ _ _ _ _ Q2.out (by omega) (Or.inr (by omega)) (by omega) (by omega) (by omega)).mono ?_
          rintro e w4 ⟨rfl, q4, g4⟩
          have H4 := hide (K2.out.trans (g4.mono (fun k _ h => by omega)))
          rw [show (u + l + 0 : Int) = u + l by omega] at q4
          have Q4 := hide q4
          clear q4 g4
          go_wp2_with fail
          refine (pNew_at 9 9 (by omega) _).mono ?_
          rintro e w5 ⟨rfl, c5, g5⟩
          have al := (Chg.refl (fun _ => False) w5).alloc (.cells #[.pointer (some ⟨w4.heap.size, 0, none⟩)] 24)
          have H6 := hide ((H4.out.trans (g5.mono (fun _ _ h => h.elim))).trans (al.mono (fun _ _ h => h.elim)))
          have C6 := hide (c5.chg al (fun h => h))
          have Q6 := hide ((Q4.out.chg g5 (fun h => h)).chg al (fun h => h))
          have s4 := Q4.out.lt
          have cc : (w5.alloc (.cells #[.pointer (some ⟨w4.heap.size, 0, none⟩)] 24)).cell? ⟨w5.heap.size, 0, none⟩ = some (.pointer (some ⟨w4.heap.size, 0, none⟩)) := by simp
          have CC := hide cc
          clear g5 c5 al cc
          go_wp2_with fail
          refine (pBack_other B w4.heap.size w5.heap.size 0 1 0 (u + l) 9 0 true false _ (by omega) Q6.out C6.out CC.out (by omega) (by omega) (by omega) (by omega)).mono ?_
          rintro e w7 ⟨rfl, q7, c7, g7⟩
          rw [Bool.true_or] at q7
          have H7 := hide (H6.out.trans (g7.mono (fun k _ h => by have := H4.out.size; have := HB.out; omega)))
          have Q7 := hide q7
          clear q7 c7 g7
          go_wp2_with fail
          refine (known_any _).mono ?_
          rintro e w8 ⟨rfl, g8⟩
          have H8 := hide (H7.out.trans (g8.mono (fun _ _ h => h.elim)))
          have Q8 := hide (Q7.out.chg g8 (fun h => h))
          clear g8
          go_wp2_with fail
          refine (pDry _ _ _ _ _ Q8.out).mono ?_
          rintro e w9 ⟨rfl, rfl⟩
          go_wp2_with fail
          refine (pSpend_no _ _ _ _ _ _ Q8.out (by omega) (Or.inl rfl) (by omega) (by omega) (by omega)).mono ?_
          rintro e w9 ⟨rfl, q9, g9⟩
          have H9 := hide (H8.out.trans (g9.mono (fun k _ h => by omega)))
          have Q9 := hide q9
          clear q9 g9
          go_wp2_with fail
          refine (pLeft _ _ _ _ _ Q9.out).mono ?_
          rintro e w10 ⟨rfl, rfl⟩
          go_wp2_with fail
          go_ret
          refine ⟨rfl, ?_⟩
          have hb := HB.out
          exact H9.out.below (by omega) (fun k h => by omega)
        · go_wp2_with fail
          refine (pSpend_no _ _ _ _ _ _ P.out (by omega) (Or.inl rfl) (by omega) (by omega) (by omega)).mono ?_
          rintro e w2 ⟨rfl, q1, g1⟩
          have K1 := hide (G.out.trans (g1.mono (fun k _ h => by omega)))
          have Q1 := hide q1
          clear q1 g1
          go_wp2_with fail
          refine (pDry _ _ _ _ _ Q1.out).mono ?_
          rintro e w9 ⟨rfl, rfl⟩
          go_wp2_with fail
          refine (pSpend_no _ _ _ _ _ _ Q1.out (by omega) (Or.inl rfl) (by omega) (by omega) (by omega)).mono ?_
          rintro e w3 ⟨rfl, q2, g2⟩
          rw [show u + l + 0 = u + l by omega] at q2
          have K2 := hide (K1.out.trans (g2.mono (fun k _ h => by omega)))
          have Q2 := hide q2
          clear q2 g2
          go_wp2_with fail
          refine (pSpend_no _ _ _ _ _ _ Q2.out (by omega) (Or.inr (by omega)) (by omega) (by omega) (by omega)).mono ?_
          rintro e w4 ⟨rfl, q4, g4⟩
          have H4 := hide (K2.out.trans (g4.mono (fun k _ h => by omega)))
          rw [show (u + l + 0 : Int) = u + l by omega] at q4
          have Q4 := hide q4
          clear q4 g4
          go_wp2_with fail
          refine (pNew_at 9 9 (by omega) _).mono ?_
          rintro e w5 ⟨rfl, c5, g5⟩
          have al := (Chg.refl (fun _ => False) w5).alloc (.cells #[.pointer (some ⟨w4.heap.size, 0, none⟩)] 24)
          have H6 := hide ((H4.out.trans (g5.mono (fun _ _ h => h.elim))).trans (al.mono (fun _ _ h => h.elim)))
          have C6 := hide (c5.chg al (fun h => h))
          have Q6 := hide ((Q4.out.chg g5 (fun h => h)).chg al (fun h => h))
          have s4 := Q4.out.lt
          have cc : (w5.alloc (.cells #[.pointer (some ⟨w4.heap.size, 0, none⟩)] 24)).cell? ⟨w5.heap.size, 0, none⟩ = some (.pointer (some ⟨w4.heap.size, 0, none⟩)) := by simp
          have CC := hide cc
          clear g5 c5 al cc
          go_wp2_with fail
          refine (pBack_other B w4.heap.size w5.heap.size 0 1 0 (u + l) 9 0 true false _ (by omega) Q6.out C6.out CC.out (by omega) (by omega) (by omega) (by omega)).mono ?_
          rintro e w7 ⟨rfl, q7, c7, g7⟩
          rw [Bool.true_or] at q7
          have H7 := hide (H6.out.trans (g7.mono (fun k _ h => by have := H4.out.size; have := HB.out; omega)))
          have Q7 := hide q7
          clear q7 c7 g7
          go_wp2_with fail
          refine (known_any _).mono ?_
          rintro e w8 ⟨rfl, g8⟩
          have H8 := hide (H7.out.trans (g8.mono (fun _ _ h => h.elim)))
          have Q8 := hide (Q7.out.chg g8 (fun h => h))
          clear g8
          go_wp2_with fail
          refine (pDry _ _ _ _ _ Q8.out).mono ?_
          rintro e w9 ⟨rfl, rfl⟩
          go_wp2_with fail
          refine (pSpend_no _ _ _ _ _ _ Q8.out (by omega) (Or.inl rfl) (by omega) (by omega) (by omega)).mono ?_
          rintro e w9 ⟨rfl, q9, g9⟩
          have H9 := hide (H8.out.trans (g9.mono (fun k _ h => by omega)))
          have Q9 := hide q9
          clear q9 g9
          go_wp2_with fail
          refine (pLeft _ _ _ _ _ Q9.out).mono ?_
          rintro e w10 ⟨rfl, rfl⟩
          go_wp2_with fail
          go_ret
          refine ⟨rfl, ?_⟩
          have hb := HB.out
          exact H9.out.below (by omega) (fun k h => by omega)
end Go.Proofs.Ytjghglkeppagaaa
