/- budget's All, Split, Back. -/
import Derived.Test.YtjghglkeppagaaaSame
namespace Go.Proofs.Ytjghglkeppagaaa
open Go.RowKit

theorem Chg.cell {S : Nat → Prop} {w w' : World} (h : Chg S w w') {g i : Nat} {v : Value} (hn : ¬ S g) (hc : w.cell? ⟨g, i, none⟩ = some v) : w'.cell? ⟨g, i, none⟩ = some v :=
  (World.cell?_of_block (w := w) (a := ⟨g, i, none⟩) (h.block g (World.block_lt_of_cell? w _ hc) hn)).trans hc

theorem run_cons (zs : List Int) (i : Nat) (hi : i < zs.length) (l u : Int) (d : Bool) :
    run (zs.drop i) l u d = if spOk l d (zs.getD i 0) = true then run (zs.drop (i + 1)) (spL l d (zs.getD i 0)) (spU l u d (zs.getD i 0)) (spD l d (zs.getD i 0)) else (false, spL l d (zs.getD i 0), spU l u d (zs.getD i 0), spD l d (zs.getD i 0)) := by
  rw [List.drop_eq_getElem_cons hi]
  have e : zs.getD i 0 = zs[i] := by simp [List.getD, hi]
  rw [e]
  rfl

theorem pAll_nil (p a : Option Addr) (cap : Nat) (w : World) :
    Calls Try.prog 12 #[.pointer p, .slice a 0 cap] w fun e w' => e = .returned (.bool true) ∧ w = w' := by
  go_enter Try.func12, Try.ntmps12
  go_wp2_with fail
  refine wp_loop_rounds 1 ?_
  rw [rounds_succ]
  go_wp2_with fail
  go_ret
  exact ⟨rfl, rfl⟩

theorem pAll_some (b g off cap : Nat) (zs : List Int) (l u : Int) (d : Bool) (w : World) (h : PB w b l u d) (hgb : g ≠ b) (hz : zs.length ≤ 100)
    (hc : ∀ i, i < zs.length → w.cell? ⟨g, off + i, none⟩ = some (.int .i64 (zs.getD i 0)))
    (hl0 : 0 ≤ l) (hl : l ≤ 1000000000) (hu : -1000000000 ≤ u ∧ u ≤ 1000000000) :
    Calls Try.prog 12 #[.pointer (some ⟨b, 0, none⟩), .slice (some ⟨g, off, none⟩) zs.length cap] w fun e w' =>
      e = .returned (.bool (run zs l u d).1) ∧ PB w' b (run zs l u d).2.1 (run zs l u d).2.2.1 (run zs l u d).2.2.2 ∧ Chg (fun k => k = b) w w' := by
  obtain ⟨R, hR⟩ : ∃ R, R = run zs l u d := ⟨_, rfl⟩
  rw [← hR]
  have HR := hide hR
  have Hc := hide hc
  have Hh := hide h
  clear hR hc h
  go_enter Try.func12, Try.ntmps12
  go_wp2_with fail
  go_loopw [9] (fun i wr => ∃ k : Nat, ∃ l' u' : Int, ∃ d' : Bool, k ≤ zs.length ∧ i = .int .i64 k ∧ PB wr b l' u' d' ∧ Chg (fun k => k = b) w wr ∧ 0 ≤ l' ∧ l' ≤ l ∧ l' + u' = l + u ∧ Hid (run (zs.drop k) l' u' d' = R)) (fun i _ => zs.length - (intOf i).toNat)
  case atStart => exact ⟨0, l, u, d, Nat.zero_le _, rfl, Hh.out, Chg.refl _ _, hl0, Int.le_refl _, rfl, by have := HR.out; simp [Hid, this]⟩
  case round =>
    obtain ⟨k, l', u', d', hk, rfl, hp, hg, a1, a2, a3, hrun⟩ := hrel
    by_cases hlt : k < zs.length
    · have hcell := hg.cell hgb (Hc.out k hlt)
      have sp := hide (pSpend b l' u' (zs.getD k 0) d' wr hp a1 (by omega) (by omega))
      have bd := sp_bd l' u' d' (zs.getD k 0) a1
      have hrc := run_cons zs k hlt l' u' d'
      obtain ⟨bd1, bd2, bd3⟩ := bd
      cases hok : spOk l' d' (zs.getD k 0)
      · have hfin : R = (false, spL l' d' (zs.getD k 0), spU l' u' d' (zs.getD k 0), spD l' d' (zs.getD k 0)) := by
          rw [← hrun.out, hrc, hok]; rfl
        have Hfin := hide hfin
        rw [hok] at sp
        clear hfin hrc hok bd1 bd2 bd3 hrun
        generalize zs.getD k 0 = z at *
        go_wp2_with fail
        refine sp.out.mono ?_
        rintro e w' ⟨rfl, h1, h2⟩
        go_wp2_with fail
        go_ret
        rw [Hfin.out]
        exact ⟨rfl, h1, hg.trans h2⟩
      · have hnext : run (zs.drop (k + 1)) (spL l' d' (zs.getD k 0)) (spU l' u' d' (zs.getD k 0)) (spD l' d' (zs.getD k 0)) = R := by
          rw [← hrun.out, hrc, hok]; rfl
        have Hnext := hide hnext
        rw [hok] at sp
        clear hnext hrc hok hrun
        generalize zs.getD k 0 = z at *
        go_wp2_with fail
        refine sp.out.mono ?_
        rintro e w' ⟨rfl, h1, h2⟩
        go_wp2_with fail
        go_roundw
        case rel => exact ⟨k + 1, _, _, _, by omega, by go_num, h1, hg.trans h2, bd1, by omega, by omega, Hnext⟩
        case measure => simp [intOf]; omega
    · have hfin : R = (true, l', u', d') := by
        rw [← hrun.out, List.drop_eq_nil_of_le (by omega)]; rfl
      have Hfin := hide hfin
      clear hfin hrun
      go_wp2_with fail
      go_ret
      rw [Hfin.out]
      exact ⟨rfl, hp, hg⟩

theorem cut_bd (n l : Int) (h : 0 ≤ l) : 0 ≤ cut n l ∧ cut n l ≤ l := by unfold cut; omega

set_option maxHeartbeats 800000 in
theorem pSplit (b : Nat) (l u n : Int) (d : Bool) (w : World) (h : PB w b l u d) (hl0 : 0 ≤ l) (hl : l ≤ 1000000000) (hu : -1000000000 ≤ u ∧ u ≤ 1000000000) :
    Calls Try.prog 18 #[.pointer (some ⟨b, 0, none⟩), .int .i64 n] w fun e w' => ∃ c, e = .returned (.pointer (some ⟨c, 0, none⟩)) ∧ w.heap.size ≤ c ∧ PB w' b (l - cut n l) (u + cut n l) d ∧ PB w' c (cut n l) 0 false ∧ Chg (fun k => k = b) w w' := by
  have hc1 := cut_bd n l hl0
  have c2 := hide (pLeft b l u d w h)
  have c3 := hide (pTake b l u (cut n l) d w h ⟨hl0, hl⟩ (by omega) (by omega))
  have c4 := hide (fun w => pNew (cut n l) w)
  have hb := hide h.lt
  have em : max (cut n l) 0 = cut n l := by omega
  rw [em] at c4
  have fin : ∀ w1 w2 : World, PB w1 b (l - cut n l) (u + cut n l) d → Chg (fun k => k = b) w w1 → PB w2 w1.heap.size (cut n l) 0 false → Chg (fun _ => False) w1 w2 →
      ∃ c, Ending.returned (.pointer (some ⟨w1.heap.size, 0, none⟩)) = .returned (.pointer (some ⟨c, 0, none⟩)) ∧ w.heap.size ≤ c ∧ PB w2 b (l - cut n l) (u + cut n l) d ∧ PB w2 c (cut n l) 0 false ∧ Chg (fun k => k = b) w w2 :=
    fun w1 w2 p q r s => ⟨_, rfl, q.size, p.chg s (fun h => h), r, q.trans (s.mono (fun _ _ h => h.elim))⟩
  have Fin := hide fin
  clear fin h
  by_cases h1 : n < 0
  · have e : cut n l = 0 := by unfold cut; omega
    have hnl : ¬ (l < 0) := by omega
    rw [e] at c3 c4 Fin
    rw [e]
    clear e em hc1
    go_enter Try.func18, Try.ntmps18
    go_wp2_with fail
    refine c2.out.mono ?_
    rintro e w' ⟨rfl, rfl⟩
    go_wp2_with fail
    refine c3.out.mono ?_
    rintro e w1 ⟨rfl, h1, h2⟩
    go_wp2_with fail
    refine (c4.out _).mono ?_
    rintro e w2 ⟨rfl, h3, h4⟩
    go_wp2_with fail
    go_ret
    exact Fin.out w1 w2 h1 h2 h3 h4
  · by_cases h2 : l < n
    · have e : cut n l = l := by unfold cut; omega
      rw [e] at c3 c4 Fin
      rw [e]
      clear e em hc1
      go_enter Try.func18, Try.ntmps18
      go_wp2_with fail
      refine c2.out.mono ?_
      rintro e w' ⟨rfl, rfl⟩
      go_wp2_with fail
      refine c3.out.mono ?_
      rintro e w1 ⟨rfl, h1, h2⟩
      go_wp2_with fail
      refine (c4.out _).mono ?_
      rintro e w2 ⟨rfl, h3, h4⟩
      go_wp2_with fail
      go_ret
      exact Fin.out w1 w2 h1 h2 h3 h4
    · have e : cut n l = n := by unfold cut; omega
      rw [e] at c3 c4 Fin
      rw [e]
      clear e em hc1
      go_enter Try.func18, Try.ntmps18
      go_wp2_with fail
      refine c2.out.mono ?_
      rintro e w' ⟨rfl, rfl⟩
      go_wp2_with fail
      refine c3.out.mono ?_
      rintro e w1 ⟨rfl, h1, h2⟩
      go_wp2_with fail
      refine (c4.out _).mono ?_
      rintro e w2 ⟨rfl, h3, h4⟩
      go_wp2_with fail
      go_ret
      exact Fin.out w1 w2 h1 h2 h3 h4

theorem pSplit_nil (n : Int) (w : World) :
    Calls Try.prog 18 #[.pointer none, .int .i64 n] w fun e w' => e = .returned (.pointer (some ⟨w.heap.size, 0, none⟩)) ∧ PB w' w.heap.size 0 0 false ∧ Chg (fun _ => False) w w' := by
  have c4 := hide (pNew_at 0 0 (by omega) w)
  go_enter Try.func18, Try.ntmps18
  go_wp2_with fail
  refine c4.out.mono ?_
  rintro e w2 ⟨rfl, h3, h4⟩
  go_wp2_with fail
  go_ret
  exact ⟨rfl, h3, h4⟩

theorem known_any (w : World) : Calls Try.prog 11 #[] w fun e w' => e = .returned (.bool true) ∧ Chg (fun _ => False) w w' := by
  go_enter Try.func11, Try.ntmps11
  go_wp2_with fail
  refine (pNew_at 5 5 (by omega) _).mono ?_
  rintro e w1 ⟨rfl, h1, g1⟩
  go_wp2_with fail
  refine (pSpend_yes _ _ _ _ _ h1 (by omega) (by omega) (by omega) (by omega)).mono ?_
  rintro e w2 ⟨rfl, h2', g2⟩
  have h2 : PB w2 w.heap.size 2 3 false := h2'
  clear h2'
  go_wp2_with fail
  refine (pLeft _ _ _ _ _ h2).mono ?_
  rintro e w3 ⟨rfl, rfl⟩
  go_wp2_with fail
  refine (pSpend_no _ _ _ _ _ _ h2 (by omega) (by omega) (by omega) (by omega) (by omega)).mono ?_
  rintro e w3 ⟨rfl, h3', g3⟩
  have h3 : PB w3 w.heap.size 0 5 true := h3'
  clear h3'
  go_wp2_with fail
  refine (pNew_at 5 5 (by omega) _).mono ?_
  rintro e w4 ⟨rfl, h4, g4⟩
  go_wp2_with fail
  refine (pSplit _ _ _ _ _ _ h4 (by omega) (by omega) (by omega)).mono ?_
  rintro e w5 ⟨c, rfl, hc, h5', h6', g5⟩
  have h5 : PB w5 w3.heap.size 3 2 false := h5'
  have h6 : PB w5 c 2 0 false := h6'
  clear h5' h6'
  have h7 : PB w5 w.heap.size 0 5 true := (h3.chg g4 (fun h => h)).chg g5 (fun h => by have := h3.lt; omega)
  have gg : Chg (fun _ => False) w w5 := by
    have s1 := g1.size
    have s2 := g2.size
    have s3 := g3.size
    have k1 : Chg (fun k => w.heap.size ≤ k) w w5 :=
      (((g1.mono (fun _ _ h => h.elim)).trans (g2.mono (fun k _ h => by omega))).trans (g3.mono (fun k _ h => by omega))).trans ((g4.mono (fun _ _ h => h.elim)).trans (g5.mono (fun k _ h => by omega)))
    exact k1.mono (fun k hk h => by omega)
  have G := hide gg
  clear gg g1 g2 g3 g4 g5
  go_wp2_with fail
  refine (pLeft _ _ _ _ _ h7).mono ?_
  rintro e w6 ⟨rfl, rfl⟩
  go_wp2_with fail
  refine (pDry _ _ _ _ _ h7).mono ?_
  rintro e w6 ⟨rfl, rfl⟩
  go_wp2_with fail
  refine (pLeft _ _ _ _ _ h5).mono ?_
  rintro e w6 ⟨rfl, rfl⟩
  go_wp2_with fail
  refine (pLeft _ _ _ _ _ h6).mono ?_
  rintro e w6 ⟨rfl, rfl⟩
  go_wp2_with fail
  refine (pDry _ _ _ _ _ h5).mono ?_
  rintro e w6 ⟨rfl, rfl⟩
  go_wp2_with fail
  go_ret
  exact ⟨rfl, G.out⟩

end Go.Proofs.Ytjghglkeppagaaa
