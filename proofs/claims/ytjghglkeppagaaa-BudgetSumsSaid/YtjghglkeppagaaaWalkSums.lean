/- The walk of BudgetSums. -/
import Derived.Test.YtjghglkeppagaaaWalkAlls
namespace Go.Proofs.Ytjghglkeppagaaa
open Go.RowKit

theorem sums_back (B C : Nat) (hBC : B < C) (m was l u : Int) (d : Bool) (w w2 wr : World) (hB : w.heap.size = B) (hm0 : 0 ≤ m) (hm1 : m < 1000000) (hc : 0 ≤ was ∧ was ≤ m)
    (a1 : 0 ≤ l) (a2 : l ≤ was) (a3 : l + u = was) (p2 : PB w2 B (m - was) was false) (g3 : Chg (fun k => k = B) w w2) (p : PB wr C l u d) (g : Chg (fun k => k = C) w2 wr) :
    (Calls Try.prog 17 #[.pointer (some ⟨B, 0, none⟩), .slice (some ⟨wr.heap.size, 0, none⟩) 4 4] (wr.alloc (.cells #[.pointer (some ⟨C, 0, none⟩), .pointer none, .pointer (some ⟨B, 0, none⟩), .pointer (some ⟨C, 0, none⟩)] 24)) fun e w' =>
      e = .returned (.tuple #[]) ∧ PB w' B (m - was + l) (was - l) d ∧ PB w' C 0 (u + l) d ∧ Chg (fun k => k = B ∨ k = C) (wr.alloc (.cells #[.pointer (some ⟨C, 0, none⟩), .pointer none, .pointer (some ⟨B, 0, none⟩), .pointer (some ⟨C, 0, none⟩)] 24)) w') ∧
    ∀ w4 wk, Chg (fun k => k = B ∨ k = C) (wr.alloc (.cells #[.pointer (some ⟨C, 0, none⟩), .pointer none, .pointer (some ⟨B, 0, none⟩), .pointer (some ⟨C, 0, none⟩)] 24)) w4 → Chg (fun _ => False) w4 wk → Below w.heap.size w wk := by
  have hb := (p2.chg g (by omega))
  have al := (Chg.refl (fun _ => False) wr).alloc (.cells #[.pointer (some ⟨C, 0, none⟩), .pointer none, .pointer (some ⟨B, 0, none⟩), .pointer (some ⟨C, 0, none⟩)] 24)
  have hl1 := hb.lt
  have hl2 := p.lt
  refine ⟨?_, fun w4 wk g4 gk => ?_⟩
  · have := pBack_four B C wr.heap.size (m - was) was l u false d (wr.alloc (.cells #[.pointer (some ⟨C, 0, none⟩), .pointer none, .pointer (some ⟨B, 0, none⟩), .pointer (some ⟨C, 0, none⟩)] 24))
      (by omega) (by omega) (by omega) (hb.chg al (fun h => h)) (p.chg al (fun h => h)) (by simp) (by simp) (by simp) (by simp) (by omega) (by omega) (by omega) (by omega)
    rw [Bool.false_or] at this
    exact this
  · have k1 : Chg (fun k => w.heap.size ≤ k) w wk :=
      ((((g3.mono (fun k _ h => by omega)).trans (g.mono (fun k _ h => by omega))).trans (al.mono (fun _ _ h => h.elim))).trans (g4.mono (fun k _ h => by omega))).trans (gk.mono (fun _ _ h => h.elim))
    exact k1.below (Nat.le_refl _) (fun k h => h)

set_option maxHeartbeats 1000000 in
theorem sums_walk (n : Int) (a : Option Addr) (len cap : Nat) (zs : List Int) (q : Int) (w : World) (h : Sl w a len cap zs) :
    Calls Try.prog 6 #[.int .i64 n, .slice a len cap, .int .i64 q] w fun e w' => e = .returned (.bool true) ∧ Below w.heap.size w w' := by
  rcases h with ⟨rfl, rfl, hcap⟩ | ⟨g, off, rfl, h1, h2, h3, h4, h5, h6⟩
  · clear hcap
    go_enter Try.func6, Try.ntmps6
    go_wp2_with fail
    have hbd := mod_bd n 1000000 (by omega) (by omega)
    generalize wrap64 ((IntKind.u64.wrap n).tmod 1000000) = m at *
    obtain ⟨hm0, hm1⟩ := hbd
    refine (pNew_at m m (Or.inr ⟨hm0, rfl⟩) _).mono ?_
    rintro e w1 ⟨rfl, p1, g1⟩
    go_wp2_with fail
    have hcut := cut_bd q m hm0
    refine (pSplit _ m 0 q false _ p1 hm0 (by omega) (by omega)).mono ?_
    rintro e w2 ⟨C, rfl, hC, p2, c2, g2⟩
    generalize cut q m = was at *
    rw [show (0 : Int) + was = was by omega] at p2
    have hs := g1.size
    have hbl := p1.lt
    have g3 : Chg (fun k => k = w.heap.size) w w2 := (g1.mono (fun _ _ h => h.elim)).trans g2
    generalize hB : w.heap.size = B at *
    have hBC : B < C := by omega
    have HB := hide hB
    have G3 := hide g3
    have P2 := hide p2
    have C2 := hide c2
    have HBC := hide hBC
    clear p1 g1 g2 hs hbl hC hB hBC g3 p2 c2
    obtain ⟨hc1, hc2⟩ := hcut
    go_wp2_with fail
    refine (pLeft _ _ _ _ _ C2.out).mono ?_
    rintro e w9 ⟨rfl, rfl⟩
    go_wp2_with fail
    refine wp_loop_rounds 1 ?_
    rw [rounds_succ]
    have a1 : (0 : Int) ≤ was := hc1
    have a2 : was ≤ was := Int.le_refl _
    have a3 : was + 0 = was := by omega
    have P := C2
    have G := hide (Chg.refl (fun k => k = C) w2)
    go_wp2_with fail

    refine (pLeft _ _ _ _ _ P.out).mono ?_
    rintro e w9 ⟨rfl, rfl⟩
    go_wp2_with fail
    refine (pDry _ _ _ _ _ P.out).mono ?_
    rintro e w9 ⟨rfl, rfl⟩
    go_wp2_with fail
    have hx := sums_back B C HBC.out m was was 0 false w w2 w2 HB.out hm0 hm1 ⟨hc1, hc2⟩ a1 a2 a3 P2.out G3.out P.out G.out
    obtain ⟨hx1, hx2⟩ := hx
    have HX2 := hide hx2
    clear hx2
    refine hx1.mono ?_
    rintro e w4 ⟨rfl, p4, c4, g4⟩
    have P4 := hide p4
    have C4 := hide c4
    have G4 := hide g4
    clear p4 c4 g4 hx1
    have e1 : (m - was + was + (was - was) == m) = true := beq_iff_eq.2 (by omega)
    have e2 : (m - was + was == m - was + was) = true := beq_iff_eq.2 rfl
    have e3 : (false == false) = true := by simp
    go_wp2_with fail
    refine (known_any _).mono ?_
    rintro e wk ⟨rfl, gk⟩
    have P5 := hide (P4.out.chg gk (fun h => h))
    have C5 := hide (C4.out.chg gk (fun h => h))
    have GK := hide gk
    clear gk
    go_wp2_with fail
    refine (pLeft _ _ _ _ _ P5.out).mono ?_
    rintro e w9 ⟨rfl, rfl⟩
    go_wp2_with fail
    refine (pLeft _ _ _ _ _ P5.out).mono ?_
    rintro e w9 ⟨rfl, rfl⟩
    go_wp2_with fail
    refine (pUsed _ _ _ _ _ P5.out).mono ?_
    rintro e w9 ⟨rfl, rfl⟩
    go_wp2_with fail
    refine (pLeft _ _ _ _ _ C5.out).mono ?_
    rintro e w9 ⟨rfl, rfl⟩
    go_wp2_with fail
    refine (pDry _ _ _ _ _ P5.out).mono ?_
    rintro e w9 ⟨rfl, rfl⟩
    go_wp2_with fail
    go_ret
    exact ⟨rfl, HX2.out w4 wk G4.out GK.out⟩
  · have H6 := hide h6
    have H5 := hide h5
    clear h6 h5
    go_enter Try.func6, Try.ntmps6
    go_wp2_with fail
    have hbd := mod_bd n 1000000 (by omega) (by omega)
    generalize wrap64 ((IntKind.u64.wrap n).tmod 1000000) = m at *
    obtain ⟨hm0, hm1⟩ := hbd
    refine (pNew_at m m (Or.inr ⟨hm0, rfl⟩) _).mono ?_
    rintro e w1 ⟨rfl, p1, g1⟩
    go_wp2_with fail
    have hcut := cut_bd q m hm0
    refine (pSplit _ m 0 q false _ p1 hm0 (by omega) (by omega)).mono ?_
    rintro e w2 ⟨C, rfl, hC, p2, c2, g2⟩
    generalize cut q m = was at *
    rw [show (0 : Int) + was = was by omega] at p2
    have hs := g1.size
    have hbl := p1.lt
    have g3 : Chg (fun k => k = w.heap.size) w w2 := (g1.mono (fun _ _ h => h.elim)).trans g2
    generalize hB : w.heap.size = B at *
    have hBC : B < C := by omega
    have HB := hide hB
    have G3 := hide g3
    have P2 := hide p2
    have C2 := hide c2
    have HBC := hide hBC
    clear p1 g1 g2 hs hbl hC hB hBC g3 p2 c2
    obtain ⟨hc1, hc2⟩ := hcut
    go_wp2_with fail
    refine (pLeft _ _ _ _ _ C2.out).mono ?_
    rintro e w9 ⟨rfl, rfl⟩
    go_wp2_with fail
    go_loopw [10] (fun i wr => ∃ (k : Nat) (l u : Int) (d : Bool), k ≤ len ∧ k ≤ 100 ∧ i = .int .i64 k ∧ PB wr C l u d ∧ Chg (fun k => k = C) w2 wr ∧ 0 ≤ l ∧ l ≤ was ∧ l + u = was) (fun i _ => 100 - (intOf i).toNat)
    case atStart => exact ⟨0, was, 0, false, Nat.zero_le _, by omega, rfl, C2.out, Chg.refl _ _, hc1, Int.le_refl _, by omega⟩
    case round =>
      obtain ⟨k, l, u, d, hk, hk2, rfl, hp, hg, a1, a2, a3⟩ := hrel
      have P := hide hp
      have G := hide hg
      clear hp hg
      by_cases hlt : k < len
      · by_cases hlt2 : k < 100
        · have hcell := G.out.cell (g := g) (by have := HBC.out; omega) (G3.out.cell (g := g) (by omega) (H6.out k hlt))
          have bd := sp_bd l u d (zs.getD k 0) a1
          have sp := hide (pSpend C l u (zs.getD k 0) d wr P.out a1 (by omega) (by omega))
          obtain ⟨bd1, bd2, bd3⟩ := bd
          generalize zs.getD k 0 = z at *
          go_wp2_with fail
          refine sp.out.mono ?_
          rintro e w3 ⟨rfl, h8, h9⟩
          have P8 := hide h8
          have G8 := hide (G.out.trans h9)
          clear h8 h9 sp
          generalize spL l d z = l' at *
          generalize spU l u d z = u' at *
          have e0 : ¬ l' < 0 := by omega
          have e1 : (l' + u' != was) = false := by rw [bne_eq_false_iff_eq]; omega
          go_wp2_with fail
          refine (pLeft _ _ _ _ _ P8.out).mono ?_
          rintro e w9 ⟨rfl, rfl⟩
          go_wp2_with fail
          refine (pLeft _ _ _ _ _ P8.out).mono ?_
          rintro e w9 ⟨rfl, rfl⟩
          go_wp2_with fail
          refine (pUsed _ _ _ _ _ P8.out).mono ?_
          rintro e w9 ⟨rfl, rfl⟩
          go_wp2_with fail
          go_roundw
          case rel => exact ⟨k + 1, _, _, _, by omega, by omega, by go_num, P8.out, G8.out, bd1, by omega, by omega⟩
          case measure => simp [intOf]; omega
        · go_wp2_with fail
          refine (pLeft _ _ _ _ _ P.out).mono ?_
          rintro e w9 ⟨rfl, rfl⟩
          go_wp2_with fail
          refine (pDry _ _ _ _ _ P.out).mono ?_
          rintro e w9 ⟨rfl, rfl⟩
          go_wp2_with fail
          have hx := sums_back B C HBC.out m was l u d w w2 wr HB.out hm0 hm1 ⟨hc1, hc2⟩ a1 a2 a3 P2.out G3.out P.out G.out
          obtain ⟨hx1, hx2⟩ := hx
          have HX2 := hide hx2
          clear hx2
          refine hx1.mono ?_
          rintro e w4 ⟨rfl, p4, c4, g4⟩
          have P4 := hide p4
          have C4 := hide c4
          have G4 := hide g4
          clear p4 c4 g4 hx1
          have e1 : (m - was + l + (was - l) == m) = true := beq_iff_eq.2 (by omega)
          have e2 : (m - was + l == m - was + l) = true := beq_iff_eq.2 rfl
          have e3 : (d == d) = true := by simp
          go_wp2_with fail
          refine (known_any _).mono ?_
          rintro e wk ⟨rfl, gk⟩
          have P5 := hide (P4.out.chg gk (fun h => h))
          have C5 := hide (C4.out.chg gk (fun h => h))
          have GK := hide gk
          clear gk
          go_wp2_with fail
          refine (pLeft _ _ _ _ _ P5.out).mono ?_
          rintro e w9 ⟨rfl, rfl⟩
          go_wp2_with fail
          refine (pLeft _ _ _ _ _ P5.out).mono ?_
          rintro e w9 ⟨rfl, rfl⟩
          go_wp2_with fail
          refine (pUsed _ _ _ _ _ P5.out).mono ?_
          rintro e w9 ⟨rfl, rfl⟩
          go_wp2_with fail
          refine (pLeft _ _ _ _ _ C5.out).mono ?_
          rintro e w9 ⟨rfl, rfl⟩
          go_wp2_with fail
          refine (pDry _ _ _ _ _ P5.out).mono ?_
          rintro e w9 ⟨rfl, rfl⟩
          go_wp2_with fail
          go_ret
          exact ⟨rfl, HX2.out w4 wk G4.out GK.out⟩
      · go_wp2_with fail
        refine (pLeft _ _ _ _ _ P.out).mono ?_
        rintro e w9 ⟨rfl, rfl⟩
        go_wp2_with fail
        refine (pDry _ _ _ _ _ P.out).mono ?_
        rintro e w9 ⟨rfl, rfl⟩
        go_wp2_with fail
        have hx := sums_back B C HBC.out m was l u d w w2 wr HB.out hm0 hm1 ⟨hc1, hc2⟩ a1 a2 a3 P2.out G3.out P.out G.out
        obtain ⟨hx1, hx2⟩ := hx
        have HX2 := hide hx2
        clear hx2
        refine hx1.mono ?_
        rintro e w4 ⟨rfl, p4, c4, g4⟩
        have P4 := hide p4
        have C4 := hide c4
        have G4 := hide g4
        clear p4 c4 g4 hx1
        have e1 : (m - was + l + (was - l) == m) = true := beq_iff_eq.2 (by omega)
        have e2 : (m - was + l == m - was + l) = true := beq_iff_eq.2 rfl
        have e3 : (d == d) = true := by simp
        go_wp2_with fail
        refine (known_any _).mono ?_
        rintro e wk ⟨rfl, gk⟩
        have P5 := hide (P4.out.chg gk (fun h => h))
        have C5 := hide (C4.out.chg gk (fun h => h))
        have GK := hide gk
        clear gk
        go_wp2_with fail
        refine (pLeft _ _ _ _ _ P5.out).mono ?_
        rintro e w9 ⟨rfl, rfl⟩
        go_wp2_with fail
        refine (pLeft _ _ _ _ _ P5.out).mono ?_
        rintro e w9 ⟨rfl, rfl⟩
        go_wp2_with fail
        refine (pUsed _ _ _ _ _ P5.out).mono ?_
        rintro e w9 ⟨rfl, rfl⟩
        go_wp2_with fail
        refine (pLeft _ _ _ _ _ C5.out).mono ?_
        rintro e w9 ⟨rfl, rfl⟩
        go_wp2_with fail
        refine (pDry _ _ _ _ _ P5.out).mono ?_
        rintro e w9 ⟨rfl, rfl⟩
        go_wp2_with fail
        go_ret
        exact ⟨rfl, HX2.out w4 wk G4.out GK.out⟩
end Go.Proofs.Ytjghglkeppagaaa
