/- The walk of BudgetAlls. -/
import Derived.Test.YtjghglkeppagaaaBack
namespace Go.Proofs.Ytjghglkeppagaaa
open Go.RowKit

/-- A slice of integers that came in: it is empty, or its elements lie in an old block. -/
def Sl (w : World) (a : Option Addr) (len cap : Nat) (zs : List Int) : Prop :=
  (len = 0 ∧ zs = [] ∧ (a = none → cap = 0)) ∨
  ∃ g off, a = some ⟨g, off, none⟩ ∧ 0 < len ∧ len ≤ cap ∧ cap ≤ 9223372036854775807 ∧ g < w.heap.size ∧ zs.length = len ∧
    ∀ i, i < len → w.cell? ⟨g, off + i, none⟩ = some (.int .i64 (zs.getD i 0))

theorem mod_bd (n k : Int) (hk : 0 < k) (hk2 : k ≤ 1000000000) : 0 ≤ wrap64 ((IntKind.u64.wrap n).tmod k) ∧ wrap64 ((IntKind.u64.wrap n).tmod k) < k := by
  have h0 : 0 ≤ IntKind.u64.wrap n := by rw [IntKind.wrap_u64]; omega
  rw [Int.tmod_eq_emod_of_nonneg h0]
  have h1 := Int.emod_nonneg (IntKind.u64.wrap n) (show k ≠ 0 by omega)
  have h2 := Int.emod_lt_of_pos (IntKind.u64.wrap n) hk
  rw [wrap_in _ (by omega)]
  exact ⟨h1, h2⟩

theorem pAll_L (b g off cap L : Nat) (zs : List Int) (hL : zs.length = L) (l u : Int) (d : Bool) (w : World) (h : PB w b l u d) (hgb : g ≠ b) (hz : L ≤ 100)
    (hc : ∀ i, i < L → w.cell? ⟨g, off + i, none⟩ = some (.int .i64 (zs.getD i 0)))
    (hl0 : 0 ≤ l) (hl : l ≤ 1000000000) (hu : -1000000000 ≤ u ∧ u ≤ 1000000000) :
    Calls Try.prog 12 #[.pointer (some ⟨b, 0, none⟩), .slice (some ⟨g, off, none⟩) L cap] w fun e w' =>
      e = .returned (.bool (run zs l u d).1) ∧ PB w' b (run zs l u d).2.1 (run zs l u d).2.2.1 (run zs l u d).2.2.2 ∧ Chg (fun k => k = b) w w' := by
  subst hL
  exact pAll_some b g off cap zs l u d w h hgb hz hc hl0 hl hu

theorem alls_head (w w1 : World) (n : Int) (h1 : PB w1 w.heap.size (max n 0) 0 false) (g1 : Chg (fun _ => False) w w1) (hn : 0 ≤ n) :
    PB (w1.alloc (.cells #[.int .i64 (max n 0), .int .i64 0, .bool false] 63)) w.heap.size n 0 false ∧
    RB (w1.alloc (.cells #[.int .i64 (max n 0), .int .i64 0, .bool false] 63)) w1.heap.size n 0 false ∧
    Chg (fun _ => False) w (w1.alloc (.cells #[.int .i64 (max n 0), .int .i64 0, .bool false] 63)) ∧ w.heap.size < w1.heap.size := by
  have e : max n 0 = n := by omega
  rw [e] at h1 ⊢
  refine ⟨h1.chg ((Chg.refl (fun _ => False) w1).alloc _) (fun h => h), ?_, g1.alloc _, h1.lt⟩
  have := heap_alloc_new w1 (.cells #[.int .i64 n, .int .i64 0, .bool false] 63)
  simpa [RB] using this

theorem below_drewN {B : Nat} {w w' : World} (h : Below B w w') (n : Nat) : Below B w (w'.drewN n) := ⟨h.os, h.tape, h.output, h.size, h.block⟩

theorem alls_tail (w w1 w2 : World) (B C : Nat) (hB : w.heap.size = B) (hC : w1.heap.size = C) (hlt : w.heap.size < w1.heap.size) (g2 : Chg (fun _ => False) w w2) (R : Bool × Int × Int × Bool) :
    ∀ wr, RB wr C R.2.1 R.2.2.1 R.2.2.2 → Chg (fun k => k = C) w2 wr → ∀ wk, Chg (fun _ => False) wr wk → ∀ wa, PB wa B R.2.1 R.2.2.1 R.2.2.2 → Chg (fun k => k = B) wk wa →
      RB wa C R.2.1 R.2.2.1 R.2.2.2 ∧ Below w.heap.size w wa := by
  intro wr hr gr wk gk wa ha ga
  refine ⟨(hr.chg gk (fun h => h)).chg ga (by omega), ?_⟩
  have k1 : Chg (fun k => w.heap.size ≤ k) w wa := ((g2.mono (fun _ _ h => h.elim)).trans (gr.mono (fun k _ h => by omega))).trans ((gk.mono (fun _ _ h => h.elim)).trans (ga.mono (fun k _ h => by omega)))
  exact k1.below (Nat.le_refl _) (fun k h => h)

theorem take_getD (zs : List Int) (i : Nat) (h : i < 100) : (zs.take 100).getD i 0 = zs.getD i 0 := by
  simp only [List.getD_eq_getElem?_getD, List.getElem?_take, if_pos h]

set_option maxHeartbeats 1000000 in
theorem alls_walk (n : Int) (a : Option Addr) (len cap : Nat) (zs : List Int) (w : World) (h : Sl w a len cap zs) :
    Calls Try.prog 3 #[.int .i64 n, .slice a len cap] w fun e w' => e = .returned (.bool true) ∧ Below w.heap.size w w' := by
  rcases h with ⟨rfl, rfl, hcap⟩ | ⟨g, off, rfl, h1, h2, h3, h4, h5, h6⟩
  · cases a
    · obtain rfl := hcap rfl
      go_enter Try.func3, Try.ntmps3
      go_wp2_with fail
      have hbd := mod_bd n 1000000 (by omega) (by omega)
      generalize wrap64 ((IntKind.u64.wrap n).tmod 1000000) = m at *
      obtain ⟨hm0, hm1⟩ := hbd
      refine (pNew _ _).mono ?_
      rintro e w1 ⟨rfl, p1, g1⟩
      go_wp2_with fail
      refine (refNew _ _).mono ?_
      rintro e w2 ⟨rfl, hw2⟩
      obtain ⟨p2, r2, g2, hlt⟩ := alls_head w w1 m p1 g1 hm0
      rw [← hw2] at p2 r2 g2
      have G2 := hide g2
      have HL := hide hlt
      generalize hB : w.heap.size = B at p1 p2 hlt ⊢
      generalize hC : w1.heap.size = C at r2 hlt ⊢
      have HB := hide hB
      have HC := hide hC
      have P2 := hide p2
      have R2 := hide r2
      clear p1 g1 g2 hlt hw2 hB hC p2 r2
      obtain ⟨R, hR⟩ : ∃ R, R = run ([] : List Int) m 0 false := ⟨_, rfl⟩
      have HR := hide hR
      clear hR
      go_wp2_with fail
      refine wp_loop_rounds 1 ?_
      rw [rounds_succ]
      go_wp2_with fail
      refine (known_any _).mono ?_
      rintro e wk ⟨rfl, gk⟩
      go_wp2_with fail
      refine (pAll_nil _ _ _ _).mono ?_
      rintro e wa ⟨rfl, rfl⟩
      have hfin := alls_tail w w1 w2 B C HB.out HC.out HL.out G2.out (true, m, 0, false) w2 R2.out (Chg.refl _ _) wk gk wk (P2.out.chg gk (fun h => h)) (Chg.refl _ _)
      have F := hide hfin.2
      have sy := same_yes B C _ _ _ wk (P2.out.chg gk (fun h => h)) hfin.1
      clear hfin gk
      go_wp2_with fail
      refine sy.mono ?_
      rintro e ws ⟨rfl, nn, rfl⟩
      go_wp2_with fail
      go_ret
      exact ⟨rfl, below_drewN F.out nn⟩
    · go_enter Try.func3, Try.ntmps3
      go_wp2_with fail
      have hbd := mod_bd n 1000000 (by omega) (by omega)
      generalize wrap64 ((IntKind.u64.wrap n).tmod 1000000) = m at *
      obtain ⟨hm0, hm1⟩ := hbd
      refine (pNew _ _).mono ?_
      rintro e w1 ⟨rfl, p1, g1⟩
      go_wp2_with fail
      refine (refNew _ _).mono ?_
      rintro e w2 ⟨rfl, hw2⟩
      obtain ⟨p2, r2, g2, hlt⟩ := alls_head w w1 m p1 g1 hm0
      rw [← hw2] at p2 r2 g2
      have G2 := hide g2
      have HL := hide hlt
      generalize hB : w.heap.size = B at p1 p2 hlt ⊢
      generalize hC : w1.heap.size = C at r2 hlt ⊢
      have HB := hide hB
      have HC := hide hC
      have P2 := hide p2
      have R2 := hide r2
      clear p1 g1 g2 hlt hw2 hB hC p2 r2
      obtain ⟨R, hR⟩ : ∃ R, R = run ([] : List Int) m 0 false := ⟨_, rfl⟩
      have HR := hide hR
      clear hR
      go_wp2_with fail
      refine wp_loop_rounds 1 ?_
      rw [rounds_succ]
      go_wp2_with fail
      refine (known_any _).mono ?_
      rintro e wk ⟨rfl, gk⟩
      go_wp2_with fail
      refine (pAll_nil _ _ _ _).mono ?_
      rintro e wa ⟨rfl, rfl⟩
      have hfin := alls_tail w w1 w2 B C HB.out HC.out HL.out G2.out (true, m, 0, false) w2 R2.out (Chg.refl _ _) wk gk wk (P2.out.chg gk (fun h => h)) (Chg.refl _ _)
      have F := hide hfin.2
      have sy := same_yes B C _ _ _ wk (P2.out.chg gk (fun h => h)) hfin.1
      clear hfin gk
      go_wp2_with fail
      refine sy.mono ?_
      rintro e ws ⟨rfl, nn, rfl⟩
      go_wp2_with fail
      go_ret
      exact ⟨rfl, below_drewN F.out nn⟩
  · have H6 := hide h6
    have H5 := hide h5
    clear h6 h5
    by_cases hl : len ≤ 100
    · go_enter Try.func3, Try.ntmps3
      go_wp2_with fail
      have hbd := mod_bd n 1000000 (by omega) (by omega)
      generalize wrap64 ((IntKind.u64.wrap n).tmod 1000000) = m at *
      obtain ⟨hm0, hm1⟩ := hbd
      refine (pNew _ _).mono ?_
      rintro e w1 ⟨rfl, p1, g1⟩
      go_wp2_with fail
      refine (refNew _ _).mono ?_
      rintro e w2 ⟨rfl, hw2⟩
      obtain ⟨p2, r2, g2, hlt⟩ := alls_head w w1 m p1 g1 hm0
      rw [← hw2] at p2 r2 g2
      have G2 := hide g2
      have HL := hide hlt
      generalize hB : w.heap.size = B at p1 p2 hlt ⊢
      generalize hC : w1.heap.size = C at r2 hlt ⊢
      have HB := hide hB
      have HC := hide hC
      have P2 := hide p2
      have R2 := hide r2
      clear p1 g1 g2 hlt hw2 hB hC p2 r2
      obtain ⟨R, hR⟩ : ∃ R, R = run zs m 0 false := ⟨_, rfl⟩
      have HR := hide hR
      clear hR
      go_wp2_with fail
      go_loopw [7, 8] (fun ok i wr => ∃ (k : Nat) (okb : Bool) (l u : Int) (d : Bool), k ≤ len ∧ i = .int .i64 k ∧ ok = .bool okb ∧ RB wr C l u d ∧ Chg (fun k => k = C) w2 wr ∧ 0 ≤ l ∧ l ≤ m ∧ l + u = m ∧ Hid (if okb = true then run (zs.drop k) l u d = R else R = (false, l, u, d))) (fun _ i _ => len - (intOf i).toNat)
      case atStart => exact ⟨0, true, m, 0, false, Nat.zero_le _, rfl, rfl, R2.out, Chg.refl _ _, hm0, Int.le_refl _, by omega, by have := HR.out; simp [Hid, this]⟩
      case round =>
        obtain ⟨k, okb, l, u, d, hk, rfl, rfl, hp, hg, a1, a2, a3, hrun⟩ := hrel
        have hfin : ∀ wr, RB wr C R.2.1 R.2.2.1 R.2.2.2 → Chg (fun k => k = C) w2 wr → ∀ wk, Chg (fun _ => False) wr wk → ∀ wa, PB wa B R.2.1 R.2.2.1 R.2.2.2 → Chg (fun k => k = B) wk wa →
            RB wa C R.2.1 R.2.2.1 R.2.2.2 ∧ Below w.heap.size w wa := alls_tail w w1 w2 B C HB.out HC.out HL.out G2.out R
        have Hfin := hide hfin
        clear hfin
        cases okb
        · have hR : R = (false, l, u, d) := by have := hrun.out; simpa using this
          clear hrun
          have hp' : RB wr C R.2.1 R.2.2.1 R.2.2.2 := by rw [hR]; exact hp
          have hok : R.1 = false := by rw [hR]
          have Hp := hide hp'
          have Hok := hide hok
          clear hR hp hp' hok
          by_cases hlt : k < len
          all_goals
            go_wp2_with fail
            refine (known_any _).mono ?_
            rintro e wk ⟨rfl, gk⟩
            go_wp2_with fail
            refine (pAll_L B g off cap len zs H5.out m 0 false wk ((P2.out.chg hg (by have := HL.out; have := HB.out; have := HC.out; omega)).chg gk (fun h => h)) (by have := HB.out; omega) (by omega) (fun i hi => (gk.cell (S := fun _ => False) (fun h => h) (hg.cell (by have := HB.out; have := HC.out; have := HL.out; omega) (G2.out.cell (S := fun _ => False) (fun h => h) (H6.out i hi))))) hm0 (by omega) (by omega)).mono ?_
            rintro e wa ⟨rfl, pa, ga⟩
            rw [← HR.out] at pa ⊢
            have fin := Hfin.out wr Hp.out hg wk gk wa pa ga
            rw [Hok.out]
            have F := hide fin.2
            have sy := same_yes B C _ _ _ wa pa fin.1
            clear fin pa ga gk hg
            go_wp2_with fail
            refine sy.mono ?_
            rintro e ws ⟨rfl, nn, rfl⟩
            go_wp2_with fail
            go_ret
            exact ⟨rfl, below_drewN F.out nn⟩
        · by_cases hlt : k < len
          · have hcell0 := G2.out.cell (S := fun _ => False) (fun h => h) (H6.out k hlt)
            have hcell := hg.cell (g := g) (by have := HL.out; have := HC.out; omega) hcell0
            have hrc := run_cons zs k (by have := H5.out; omega) l u d
            have bd := sp_bd l u d (zs.getD k 0) a1
            have hrun' : run (zs.drop k) l u d = R := by have := hrun.out; simpa using this
            rw [hrc] at hrun'
            have Hrun := hide hrun'
            have sp := hide (rSpend C l u (zs.getD k 0) d wr hp a1 (by omega) (by omega))
            obtain ⟨bd1, bd2, bd3⟩ := bd
            clear hrc hrun' hrun hcell0
            generalize zs.getD k 0 = z at *
            go_wp2_with fail
            refine sp.out.mono ?_
            rintro e w3 ⟨rfl, h8, h9⟩
            go_wp2_with fail
            go_roundw
            case rel => exact ⟨k + 1, _, _, _, _, by omega, by go_num, rfl, h8, hg.trans h9, bd1, by omega, by omega, by
              have := Hrun.out
              unfold Hid
              split at this
              · rename_i hq; rw [if_pos hq]; exact this
              · rename_i hq; rw [if_neg hq]; exact this.symm⟩
            case measure => simp [intOf]; omega
          · have hR : R = (true, l, u, d) := by
              have := hrun.out
              rw [List.drop_eq_nil_of_le (by have := H5.out; omega)] at this
              simpa [run] using this.symm
            clear hrun
            have hp' : RB wr C R.2.1 R.2.2.1 R.2.2.2 := by rw [hR]; exact hp
            have hok : R.1 = true := by rw [hR]
            have Hp := hide hp'
            have Hok := hide hok
            clear hR hp hp' hok
            go_wp2_with fail
            refine (known_any _).mono ?_
            rintro e wk ⟨rfl, gk⟩
            go_wp2_with fail
            refine (pAll_L B g off cap len zs H5.out m 0 false wk ((P2.out.chg hg (by have := HL.out; have := HB.out; have := HC.out; omega)).chg gk (fun h => h)) (by have := HB.out; omega) (by omega) (fun i hi => (gk.cell (S := fun _ => False) (fun h => h) (hg.cell (by have := HB.out; have := HC.out; have := HL.out; omega) (G2.out.cell (S := fun _ => False) (fun h => h) (H6.out i hi))))) hm0 (by omega) (by omega)).mono ?_
            rintro e wa ⟨rfl, pa, ga⟩
            rw [← HR.out] at pa ⊢
            have fin := Hfin.out wr Hp.out hg wk gk wa pa ga
            rw [Hok.out]
            have F := hide fin.2
            have sy := same_yes B C _ _ _ wa pa fin.1
            clear fin pa ga gk hg
            go_wp2_with fail
            refine sy.mono ?_
            rintro e ws ⟨rfl, nn, rfl⟩
            go_wp2_with fail
            go_ret
            exact ⟨rfl, below_drewN F.out nn⟩
    · have H7 : Hid (∀ (i : Nat), i < 100 → w.cell? { block := g, off := off + i } = some (Value.int IntKind.i64 ((zs.take 100).getD i 0))) := fun i hi => by rw [take_getD zs i hi]; exact H6.out i (by omega)
      have H8 : Hid ((zs.take 100).length = 100) := by have := H5.out; unfold Hid; rw [List.length_take]; omega
      go_enter Try.func3, Try.ntmps3
      go_wp2_with fail
      have hbd := mod_bd n 1000000 (by omega) (by omega)
      generalize wrap64 ((IntKind.u64.wrap n).tmod 1000000) = m at *
      obtain ⟨hm0, hm1⟩ := hbd
      refine (pNew _ _).mono ?_
      rintro e w1 ⟨rfl, p1, g1⟩
      go_wp2_with fail
      refine (refNew _ _).mono ?_
      rintro e w2 ⟨rfl, hw2⟩
      obtain ⟨p2, r2, g2, hlt⟩ := alls_head w w1 m p1 g1 hm0
      rw [← hw2] at p2 r2 g2
      have G2 := hide g2
      have HL := hide hlt
      generalize hB : w.heap.size = B at p1 p2 hlt ⊢
      generalize hC : w1.heap.size = C at r2 hlt ⊢
      have HB := hide hB
      have HC := hide hC
      have P2 := hide p2
      have R2 := hide r2
      clear p1 g1 g2 hlt hw2 hB hC p2 r2
      obtain ⟨R, hR⟩ : ∃ R, R = run (zs.take 100) m 0 false := ⟨_, rfl⟩
      have HR := hide hR
      clear hR
      go_wp2_with fail
      go_loopw [7, 8] (fun ok i wr => ∃ (k : Nat) (okb : Bool) (l u : Int) (d : Bool), k ≤ 100 ∧ i = .int .i64 k ∧ ok = .bool okb ∧ RB wr C l u d ∧ Chg (fun k => k = C) w2 wr ∧ 0 ≤ l ∧ l ≤ m ∧ l + u = m ∧ Hid (if okb = true then run ((zs.take 100).drop k) l u d = R else R = (false, l, u, d))) (fun _ i _ => 100 - (intOf i).toNat)
      case atStart => exact ⟨0, true, m, 0, false, Nat.zero_le _, rfl, rfl, R2.out, Chg.refl _ _, hm0, Int.le_refl _, by omega, by have := HR.out; simp [Hid, this]⟩
      case round =>
        obtain ⟨k, okb, l, u, d, hk, rfl, rfl, hp, hg, a1, a2, a3, hrun⟩ := hrel
        have hfin : ∀ wr, RB wr C R.2.1 R.2.2.1 R.2.2.2 → Chg (fun k => k = C) w2 wr → ∀ wk, Chg (fun _ => False) wr wk → ∀ wa, PB wa B R.2.1 R.2.2.1 R.2.2.2 → Chg (fun k => k = B) wk wa →
            RB wa C R.2.1 R.2.2.1 R.2.2.2 ∧ Below w.heap.size w wa := alls_tail w w1 w2 B C HB.out HC.out HL.out G2.out R
        have Hfin := hide hfin
        clear hfin
        cases okb
        · have hR : R = (false, l, u, d) := by have := hrun.out; simpa using this
          clear hrun
          have hp' : RB wr C R.2.1 R.2.2.1 R.2.2.2 := by rw [hR]; exact hp
          have hok : R.1 = false := by rw [hR]
          have Hp := hide hp'
          have Hok := hide hok
          clear hR hp hp' hok
          by_cases hlt : k < 100
          all_goals
            go_wp2_with fail
            refine (known_any _).mono ?_
            rintro e wk ⟨rfl, gk⟩
            go_wp2_with fail
            refine (pAll_L B g off cap 100 (zs.take 100) H8.out m 0 false wk ((P2.out.chg hg (by have := HL.out; have := HB.out; have := HC.out; omega)).chg gk (fun h => h)) (by have := HB.out; omega) (by omega) (fun i hi => (gk.cell (S := fun _ => False) (fun h => h) (hg.cell (by have := HB.out; have := HC.out; have := HL.out; omega) (G2.out.cell (S := fun _ => False) (fun h => h) (H7.out i hi))))) hm0 (by omega) (by omega)).mono ?_
            rintro e wa ⟨rfl, pa, ga⟩
            rw [← HR.out] at pa ⊢
            have fin := Hfin.out wr Hp.out hg wk gk wa pa ga
            rw [Hok.out]
            have F := hide fin.2
            have sy := same_yes B C _ _ _ wa pa fin.1
            clear fin pa ga gk hg
            go_wp2_with fail
            refine sy.mono ?_
            rintro e ws ⟨rfl, nn, rfl⟩
            go_wp2_with fail
            go_ret
            exact ⟨rfl, below_drewN F.out nn⟩
        · by_cases hlt : k < 100
          · have hcell0 := G2.out.cell (S := fun _ => False) (fun h => h) (H7.out k hlt)
            have hcell := hg.cell (g := g) (by have := HL.out; have := HC.out; omega) hcell0
            have hrc := run_cons (zs.take 100) k (by have := H8.out; omega) l u d
            have bd := sp_bd l u d ((zs.take 100).getD k 0) a1
            have hrun' : run ((zs.take 100).drop k) l u d = R := by have := hrun.out; simpa using this
            rw [hrc] at hrun'
            have Hrun := hide hrun'
            have sp := hide (rSpend C l u ((zs.take 100).getD k 0) d wr hp a1 (by omega) (by omega))
            obtain ⟨bd1, bd2, bd3⟩ := bd
            clear hrc hrun' hrun hcell0
            generalize (zs.take 100).getD k 0 = z at *
            go_wp2_with fail
            refine sp.out.mono ?_
            rintro e w3 ⟨rfl, h8, h9⟩
            go_wp2_with fail
            go_roundw
            case rel => exact ⟨k + 1, _, _, _, _, by omega, by go_num, rfl, h8, hg.trans h9, bd1, by omega, by omega, by
              have := Hrun.out
              unfold Hid
              split at this
              · rename_i hq; rw [if_pos hq]; exact this
              · rename_i hq; rw [if_neg hq]; exact this.symm⟩
            case measure => simp [intOf]; omega
          · have hR : R = (true, l, u, d) := by
              have := hrun.out
              rw [List.drop_eq_nil_of_le (by have := H8.out; omega)] at this
              simpa [run] using this.symm
            clear hrun
            have hp' : RB wr C R.2.1 R.2.2.1 R.2.2.2 := by rw [hR]; exact hp
            have hok : R.1 = true := by rw [hR]
            have Hp := hide hp'
            have Hok := hide hok
            clear hR hp hp' hok
            go_wp2_with fail
            refine (known_any _).mono ?_
            rintro e wk ⟨rfl, gk⟩
            go_wp2_with fail
            refine (pAll_L B g off cap 100 (zs.take 100) H8.out m 0 false wk ((P2.out.chg hg (by have := HL.out; have := HB.out; have := HC.out; omega)).chg gk (fun h => h)) (by have := HB.out; omega) (by omega) (fun i hi => (gk.cell (S := fun _ => False) (fun h => h) (hg.cell (by have := HB.out; have := HC.out; have := HL.out; omega) (G2.out.cell (S := fun _ => False) (fun h => h) (H7.out i hi))))) hm0 (by omega) (by omega)).mono ?_
            rintro e wa ⟨rfl, pa, ga⟩
            rw [← HR.out] at pa ⊢
            have fin := Hfin.out wr Hp.out hg wk gk wa pa ga
            rw [Hok.out]
            have F := hide fin.2
            have sy := same_yes B C _ _ _ wa pa fin.1
            clear fin pa ga gk hg
            go_wp2_with fail
            refine sy.mono ?_
            rintro e ws ⟨rfl, nn, rfl⟩
            go_wp2_with fail
            go_ret
            exact ⟨rfl, below_drewN F.out nn⟩

/-- a row of integers, as the shell of a proof lays it, is such a slice -/
theorem sl_of_row (w : World) (a : Option Addr) (len cap : Nat) (zs : List Int)
    (h : (a = none ∧ len = 0 ∧ cap = 0 ∧ zs = []) ∨ ∃ x : Addr, a = some x ∧ len ≤ cap ∧ cap ≤ maxLen ∧ zs.length = cap ∧ (∀ i, i < zs.length → w.cell? (x.add i) = some (.int .i64 (zs.getD i 0))) ∧ ∀ n ∈ zs, (Lit.int .i64 n).wf = true) :
    Sl w a len cap (zs.take len) := by
  rcases h with ⟨rfl, rfl, rfl, rfl⟩ | ⟨x, rfl, h1, h2, h3, h4, _⟩
  · exact Or.inl ⟨rfl, rfl, fun _ => rfl⟩
  · by_cases h0 : len = 0
    · subst h0
      exact Or.inl ⟨rfl, by simp, fun h => by cases h⟩
    · obtain ⟨b, off, spot⟩ := x
      have hc := h4 0 (by omega)
      have hspot : spot = none := by simpa [Addr.add] using World.cell?_spot hc
      subst hspot
      have hb : b < w.heap.size := by
        have := World.block_lt_of_cell? w _ hc
        simpa [Addr.add] using this
      unfold maxLen at h2
      refine Or.inr ⟨b, off, rfl, by omega, h1, by omega, hb, by rw [List.length_take]; omega, fun i hi => ?_⟩
      have := h4 i (by omega)
      have e : (zs.take len).getD i 0 = zs.getD i 0 := by
        simp only [List.getD_eq_getElem?_getD, List.getElem?_take, if_pos hi]
      rw [e]
      have hadd : (⟨b, off, none⟩ : Addr).add i = ⟨b, off + i, none⟩ := by
        unfold Addr.add
        split
        · subst_vars; rfl
        · rfl
      rw [hadd] at this
      exact this

end Go.Proofs.Ytjghglkeppagaaa
