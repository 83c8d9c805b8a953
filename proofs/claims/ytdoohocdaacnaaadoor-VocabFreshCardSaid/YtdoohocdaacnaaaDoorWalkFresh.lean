/- VocabFresh's walk. -/
import Derived.Test.YtdoohocdaacnaaaDoorRCheck
import Derived.Test.YtdoohocdaacnaaaDoorRFresh
import Derived.Test.YtdoohocdaacnaaaDoorOpens
import Derived.Test.YtdoohocdaacnaaaDoorKnown
import Derived.Test.YtdoohocdaacnaaaDoorLaid
namespace Go.Proofs.YtdoohocdaacnaaaDoor
open Go.RowKit Go.Maps
set_option linter.unusedVariables false
set_option linter.unusedSimpArgs false

theorem Cns.grow {w w' : World} {v : Value} {l : List Cn} (h : Cns w (fun x => x < w.heap.size) v l) (g : Chg (fun _ => False) w w') : Cns w' (fun x => x < w'.heap.size) v l :=
  (h.chg g (fun _ _ h => h)).up (fun x hx => Nat.lt_of_lt_of_le hx g.size)
theorem strs_take {w : World} {X : Nat → Prop} {a : Option Addr} {c : Nat} {l : List ByteArray} (k : Nat) (h : Strs w X (.slice a l.length c) l) : Strs w X (.slice a (l.take k).length c) (l.take k) := by
  obtain ⟨h0, a', c', e, h1⟩ := h
  injection e with e1 e2 e3
  subst e1
  subst e3
  refine ⟨fun s hs => h0 s (List.mem_of_mem_take hs), a, c, rfl, ?_⟩
  rcases h1 with h1 | ⟨g, off, e4, hg, h2⟩
  · exact Or.inl (by rw [h1]; simp)
  · refine Or.inr ⟨g, off, e4, hg, fun i hi => ?_⟩
    have hi' : i < l.length := by rw [List.length_take] at hi; omega
    rw [List.getElem_take]
    exact h2 i hi'

theorem freshV_or (s : ByteArray) (n : Nat) : (freshV s n).2 ≠ 0 ∨ freshV s n = (tryF s n, 0) := by
  unfold freshV
  split
  · exact Or.inl (by decide)
  · split
    · exact Or.inl (by decide)
    · exact Or.inr rfl
theorem freshV_size (s : ByteArray) (n : Nat) : (freshV s n).1.size ≤ 30 := by
  unfold freshV
  split
  · exact Nat.zero_le _
  · split
    · exact Nat.zero_le _
    · show (tryF s n).size ≤ 30
      omega

set_option maxRecDepth 100000 in
set_option maxHeartbeats 32000000 in
theorem fresh_walk (v : Value) (t : TabIn) (W : World) (ht : TabIs W v t) (s : ByteArray) (hs : s.size ≤ maxLen) : Calls Tryd.prog 4 #[v, .string s] W fun e w' => e = .returned (.bool true) ∧ Chg (fun _ => False) W w' := by
  obtain ⟨ba, bc, bs, cv, cs⟩ := t
  obtain ⟨rfl, q1, q2, q3, q4, q5⟩ := ht
  dsimp only at q1 q2 q3 q4 q5 ⊢
  obtain ⟨ca, cc, rfl, _⟩ := id q5
  have G1 := hide (al W (.cells #[.slice ba bs.length bc, .slice ca cs.length cc] 39))
  have BX := blk_new W (.cells #[.slice ba bs.length bc, .slice ca cs.length cc] 39)
  have y0 := blk_cell BX 0
  have y1 := blk_cell BX 1
  simp only [List.getElem?_toArray, List.getElem?_cons_zero, List.getElem?_cons_succ] at y0 y1
  have toc := hide (toT_any cs bs.length ba bc q1 q2 (.slice ca cs.length cc) q4 (fun x => x < W.heap.size) (W.alloc (.cells #[.slice ba bs.length bc, .slice ca cs.length cc] 39)) (fun x hx => Nat.lt_of_lt_of_le hx G1.out.size) (q5.chg G1.out (fun _ _ h => h)))
  have HSB := hide ((strs_take 30 q3).chg G1.out (fun _ _ h => h))
  have hmn : min bs.length 30 = (bs.take 30).length := by rw [List.length_take, Nat.min_comm]
  rw [hmn] at toc
  clear q1 q2 q3 q4 q5 BX hmn
  go_enter Tryd.func4, Tryd.ntmps4
  go_wp2_with fail
  generalize W.alloc (.cells #[.slice ba bs.length bc, .slice ca cs.length cc] 39) = w1 at *
  refine toc.out.mono ?_
  rintro e w2 ⟨⟨cv1, rfl, hc1⟩, g2⟩
  have hbl : (bs.take 30).length ≤ 30 := by rw [List.length_take]; omega
  have hcl : (toCs cs).length ≤ 30 := by have := toCs_len cs; omega
  have HS2 := HSB.out.chg g2 (fun _ _ h => h)
  have GW2 := hide (G1.out.trans g2)
  generalize bs.take 30 = N at *
  generalize toCs cs = C at *
  obtain ⟨_, ca1, cc1, rfl, _⟩ := id hc1
  have G3 := al w2 (.cells #[.slice ba N.length bc, .slice ca1 C.length cc1] 26)
  have B3 := blk_new w2 (.cells #[.slice ba N.length bc, .slice ca1 C.length cc1] 26)
  have GW3 := hide (GW2.out.trans G3)
  have SB3 : Hid (Strs (w2.alloc (.cells #[.slice ba N.length bc, .slice ca1 C.length cc1] 26)) (fun x => x < (w2.alloc (.cells #[.slice ba N.length bc, .slice ca1 C.length cc1] 26)).heap.size) (.slice ba N.length bc) N) := hide ((HS2.chg G3 (fun _ _ h => h)).up (fun x hx => Nat.lt_of_lt_of_le hx GW3.out.size))
  have SC3 : Hid (Cns (w2.alloc (.cells #[.slice ba N.length bc, .slice ca1 C.length cc1] 26)) (fun x => x < (w2.alloc (.cells #[.slice ba N.length bc, .slice ca1 C.length cc1] 26)).heap.size) (.slice ca1 C.length cc1) C) := hide ((hc1.chg G3 (fun _ _ h => h)).up (fun x hx => Nat.lt_of_lt_of_le hx.2 G3.size))
  have y0 := blk_cell B3 0
  have y1 := blk_cell B3 1
  simp only [List.getElem?_toArray, List.getElem?_cons_zero, List.getElem?_cons_succ] at y0 y1
  have HB3 := hide B3
  clear toc HSB HS2 hc1 g2 GW2 G3 B3 G1
  go_wp2_with fail
  obtain ⟨A1, hA1⟩ : ∃ A1, w2.heap.size = A1 := ⟨_, rfl⟩
  rw [hA1] at y0 y1 HB3 ⊢
  clear hA1
  generalize w2.alloc (.cells #[.slice ba N.length bc, .slice ca1 C.length cc1] 26) = w3 at *
  refine (ofT_any C (by omega) (.slice ba N.length bc) (.slice ca1 C.length cc1) ba N.length bc rfl (fun x => x < w3.heap.size) w3 (fun x hx => hx) SC3.out).mono ?_
  rintro e w4 ⟨⟨cv2, rfl, hc2⟩, g4⟩
  obtain ⟨_, ca2, cc2, rfl, _⟩ := id hc2
  have G5 := al w4 (.cells #[.slice ba N.length bc, .slice ca2 C.length cc2] 39)
  have B5 := blk_new w4 (.cells #[.slice ba N.length bc, .slice ca2 C.length cc2] 39)
  have G45 := g4.trans G5
  have GW5 := hide (GW3.out.trans G45)
  have SB5 := hide (SB3.out.grow G45)
  have SC5 := hide (SC3.out.grow G45)
  have SD5 : Hid (Cns (w4.alloc (.cells #[.slice ba N.length bc, .slice ca2 C.length cc2] 39)) (fun x => x < (w4.alloc (.cells #[.slice ba N.length bc, .slice ca2 C.length cc2] 39)).heap.size) (.slice ca2 C.length cc2) C) := hide ((hc2.chg G5 (fun _ _ h => h)).up (fun x hx => Nat.lt_of_lt_of_le hx.2 G5.size))
  have BA5 := hide (G45.blk (fun h => h) HB3.out)
  have BB5 := hide B5
  clear hc2 g4 G5 B5 G45 y0 y1 HB3 SB3 SC3 GW3
  have y0 := blk_cell BA5.out 0
  have y1 := blk_cell BA5.out 1
  have z0 := blk_cell BB5.out 0
  have z1 := blk_cell BB5.out 1
  simp only [List.getElem?_toArray, List.getElem?_cons_zero, List.getElem?_cons_succ] at y0 y1 z0 z1
  go_wp2_with fail
  obtain ⟨A2, hA2⟩ : ∃ A2, w4.heap.size = A2 := ⟨_, rfl⟩
  rw [hA2] at z0 z1 BB5 ⊢
  clear hA2
  generalize w4.alloc (.cells #[.slice ba N.length bc, .slice ca2 C.length cc2] 39) = w5 at *
  obtain ⟨s0, hs0⟩ : ∃ s0, s.extract 0 (min (s.size : Int) 60).toNat = s0 := ⟨_, rfl⟩
  have hsz : s0.size ≤ 60 := by rw [← hs0, ByteArray.size_extract]; omega
  rw [hs0]
  clear hs0
  have y05 := y0
  have y15 := y1
  have z05 := z0
  have z15 := z1
  clear y0 y1 z0 z1
  refine (new_any N C (.slice ba N.length bc) (.slice ca1 C.length cc1) (fun x => x < w5.heap.size) w5 (fun x hx => hx) SB5.out SC5.out).mono ?_
  rintro e w6 ⟨hn, g6⟩
  rcases hn with ⟨h0, rfl⟩ | ⟨h0, L, xb, rfl, hML, hx⟩
  · have nz : ¬ checkT N C = 0 := h0
    have nb : (checkT N C == 0) = false := by simpa using h0
    have nc : (checkT N C != 0) = true := by simpa using h0
    have SB6 := hide (SB5.out.grow g6)
    have SC6 := hide (SC5.out.grow g6)
    have SD6 := hide (SD5.out.grow g6)
    have BA6 := hide (g6.blk (fun h => h) BA5.out)
    have BB6 := hide (g6.blk (fun h => h) BB5.out)
    have GW6 := hide (GW5.out.trans g6)
    have y06 := g6.cell (fun h => h) y05
    have y16 := g6.cell (fun h => h) y15
    have z06 := g6.cell (fun h => h) z05
    have z16 := g6.cell (fun h => h) z15
    clear g6 SB5 SC5 SD5 BA5 BB5 GW5 y05 y15 z05 z15
    go_wp2_with fail
    refine (known_any w6).mono ?_
    rintro e w7 ⟨rfl, g7⟩
    have SB7 := hide (SB6.out.grow g7)
    have SC7 := hide (SC6.out.grow g7)
    have SD7 := hide (SD6.out.grow g7)
    have BA7 := hide (g7.blk (fun h => h) BA6.out)
    have BB7 := hide (g7.blk (fun h => h) BB6.out)
    have GW7 := hide (GW6.out.trans g7)
    have y07 := g7.cell (fun h => h) y06
    have y17 := g7.cell (fun h => h) y16
    have z07 := g7.cell (fun h => h) z06
    have z17 := g7.cell (fun h => h) z16
    clear g7 SB6 SC6 SD6 BA6 BB6 GW6 y06 y16 z06 z16
    go_wp2_with fail
    refine (refCheck_any N C (by omega) (by omega) ba bc ca2 cc2 (fun x => x < w7.heap.size) w7 (fun x hx => hx) SB7.out SD7.out).mono ?_
    rintro e w8 ⟨rfl, g8⟩
    have SB8 := hide (SB7.out.grow g8)
    have SC8 := hide (SC7.out.grow g8)
    have SD8 := hide (SD7.out.grow g8)
    have BA8 := hide (g8.blk (fun h => h) BA7.out)
    have BB8 := hide (g8.blk (fun h => h) BB7.out)
    have GW8 := hide (GW7.out.trans g8)
    have y08 := g8.cell (fun h => h) y07
    have y18 := g8.cell (fun h => h) y17
    have z08 := g8.cell (fun h => h) z07
    have z18 := g8.cell (fun h => h) z17
    clear g8 SB7 SC7 SD7 BA7 BB7 GW7 y07 y17 z07 z17
    go_wp2_with fail
    go_ret
    exact ⟨rfl, GW8.out⟩
  · obtain ⟨M, hM⟩ : ∃ M, w5.heap.size = M := ⟨_, rfl⟩
    rw [hM] at SB5 SC5 SD5 hML
    have XS6 := hide hx
    have ML : Hid (M ≤ xb ∧ W.heap.size ≤ M ∧ A2 < M) := hide (by have h1 := hx.1; have h2 := GW5.out.size; have h3 := blk_lt BB5.out; refine ⟨by omega, by omega, by omega⟩)
    clear hx hML h0 hM
    have SBM : Hid (Strs w6 (fun x => x < M) (.slice ba N.length bc) N) := hide (SB5.out.chg g6 (fun _ _ h => h))
    have SDM : Hid (Cns w6 (fun x => x < M) (.slice ca2 C.length cc2) C) := hide (SD5.out.chg g6 (fun _ _ h => h))
    have BB6 := hide (g6.blk (fun h => h) BB5.out)
    have GW6 : Hid (Chg (fun x => x = xb) W w6) := hide (GW5.out.trans g6).none
    have z06 := g6.cell (fun h => h) z05
    have z16 := g6.cell (fun h => h) z15
    have SB6 := SBM
    have SD6 := SDM
    clear g6 SBM SDM SB5 SC5 SD5 BA5 BB5 z05 z15 y05 y15
    obtain ⟨n, hn60, hno, hall⟩ := some_try N C hbl hcl s0
    have HNO := hide hno
    have FA := hide (fun w h => fresh_any xb L N C (by omega) (by omega) s0 (by omega) n (by omega) hno hall w h)
    have RF := hide (fun w h1 h2 => refFresh_any N C (by omega) (by omega) s0 (by omega) n (by omega) hno hall ba bc ca2 cc2 (fun x => x < M) w h1 h2)
    clear hno hall
    go_wp2_with fail
    refine (FA.out w6 XS6.out).mono ?_
    rintro e w7 ⟨rfl, hx7, g7⟩
    have XS7 := hide hx7
    clear hx7 XS6
    have SB7 := hide (SB6.out.chg g7 (fun x hx e => by have := ML.out; omega))
    have SD7 := hide (SD6.out.chg g7 (fun x hx e => by have := ML.out; omega))
    have BB7 := hide (g7.blk (fun e => by have := ML.out; omega) BB6.out)
    have GW7 := hide (GW6.out.trans g7)
    have z07 := g7.cell (fun e => by have := ML.out; omega) z06
    have z17 := g7.cell (fun e => by have := ML.out; omega) z16
    clear g7 SB6 SD6 BB6 GW6 z06 z16
    have FO := hide (freshV_or s0 n)
    have FS := hide (freshV_size s0 n)
    clear FA
    go_wp2_with fail
    refine (RF.out w7 SB7.out SD7.out).mono ?_
    rintro e w8 ⟨rfl, g8⟩
    have SB8 := hide (SB7.out.chg g8 (fun _ _ h => h))
    have SD8 := hide (SD7.out.chg g8 (fun _ _ h => h))
    have BB8 := hide (g8.blk (fun h => h) BB7.out)
    have GW8 := hide (GW7.out.trans g8.none)
    have z08 := g8.cell (fun h => h) z07
    have z18 := g8.cell (fun h => h) z17
    have XS8 := hide (XS7.out.chg g8 (fun _ _ h => h))
    clear XS7
    clear g8 SB7 SD7 BB7 GW7 z07 z17
    clear RF
    obtain ⟨fv, hfv⟩ : ∃ fv, freshV s0 n = fv := ⟨_, rfl⟩
    rw [hfv] at FO FS ⊢
    clear hfv
    obtain ⟨a, c⟩ := fv
    dsimp only at FO FS ⊢
    go_wp2_with fail
    refine (known_any w8).mono ?_
    rintro e w9 ⟨rfl, g9⟩
    have SB9 := hide (SB8.out.chg g9 (fun _ _ h => h))
    have SD9 := hide (SD8.out.chg g9 (fun _ _ h => h))
    have BB9 := hide (g9.blk (fun h => h) BB8.out)
    have GW9 := hide (GW8.out.trans g9.none)
    have z09 := g9.cell (fun h => h) z08
    have z19 := g9.cell (fun h => h) z18
    have XS9 := hide (XS8.out.chg g9 (fun _ _ h => h))
    clear XS8
    clear g9 SB8 SD8 BB8 GW8 z08 z18
    have ea : (a.toList == a.toList) = true := by simp
    by_cases hc : c = 0
    · subst hc
      have FA : Hid (a = tryF s0 n) := hide (by
        rcases FO.out with h | h
        · exact absurd rfl h
        · exact congrArg Prod.fst h)
      have HF : Hid (([a] : List ByteArray).all (isN N C) = false) := hide (by rw [FA.out]; simp [HNO.out])
      have ha : Hid (a.size ≤ maxLen) := hide (by have := FS.out; unfold maxLen; omega)
      have GA := hide (al w9 (.cells #[.string a] 9))
      have XSA := hide (XS9.out.chg GA.out (fun _ _ h => h))
      have hl := hide (XS9.out.lt)
      have hh := hide (has_any xb L N C (by omega) (by omega) (.slice (some ⟨w9.heap.size, 0, none⟩) 1 1) [a] (by simp) (fun x => x = w9.heap.size) (w9.alloc (.cells #[.string a] 9)) (fun x hx => by have := hl.out; omega) (one_row w9 a ha.out) XSA.out)
      rw [HF.out] at hh
      go_wp2_with fail
      refine hh.out.mono ?_
      rintro e w10 ⟨rfl, -, g10⟩
      have GF : Hid (Chg (fun _ => False) W w10) := hide (((GW9.out.trans GA.out.none).trans g10).mono (fun x hx e => by have := ML.out; omega))
      clear g10
      go_wp2_with fail
      go_ret
      exact ⟨rfl, GF.out⟩
    · have ec : (c == 0) = false := by simpa using hc
      have ed : (c != 0) = true := by simpa using hc
      have GF : Hid (Chg (fun _ => False) W w9) := hide (GW9.out.mono (fun x hx e => by have := ML.out; omega))
      go_wp2_with fail
      go_ret
      exact ⟨rfl, GF.out⟩
theorem fresh_law (W : World) (hT : Tabs W) {v : Value} (t : TabIn) (ht : TabIs W v t) (s : ByteArray) (hs : s.size ≤ maxLen) : Calls Tryd.prog 4 #[v, .string s] W fun e W' => e = .returned (.bool true) ∧ Below W.heap.size W W' :=
  (fresh_walk v t W ht s hs).mono fun e W' ⟨h, g⟩ => ⟨h, g.below (Nat.le_refl _) (fun _ h => h.elim)⟩
end Go.Proofs.YtdoohocdaacnaaaDoor
