/- VocabChecks's walk. -/
import Derived.Test.YtdoohocdaacnaaaDoorRCheck
import Derived.Test.YtdoohocdaacnaaaDoorOpens
import Derived.Test.YtdoohocdaacnaaaDoorKnown
import Derived.Test.YtdoohocdaacnaaaDoorLaid
namespace Go.Proofs.YtdoohocdaacnaaaDoor
open Go.RowKit Go.Maps
set_option linter.unusedVariables false
set_option linter.unusedSimpArgs false

theorem Cns.grow {w w' : World} {v : Value} {l : List Cn} (h : Cns w (fun x => x < w.heap.size) v l) (g : Chg (fun _ => False) w w') : Cns w' (fun x => x < w'.heap.size) v l :=
  (h.chg g (fun _ _ h => h)).up (fun x hx => Nat.lt_of_lt_of_le hx g.size)
theorem strs_take {w : World} {X : Nat → Prop} {a : Option Addr} {c : Nat} {l : List ByteArray} (k : Nat) (h : Strs w X (.slice a l.length c) l) : Strs w X (.slice a (l.take k).length c) (l.take k) := by
  obtain ⟨h0, a', c', e, h1⟩ := h
  injection e with e1 e2 e3
  subst e1
  subst e3
  refine ⟨fun s hs => h0 s (List.mem_of_mem_take hs), a, c, rfl, ?_⟩
  rcases h1 with h1 | ⟨g, off, e4, hg, h2⟩
  · exact Or.inl (by rw [h1]; simp)
  · refine Or.inr ⟨g, off, e4, hg, fun i hi => ?_⟩
    have hi' : i < l.length := by rw [List.length_take] at hi; omega
    rw [List.getElem_take]
    exact h2 i hi'

set_option maxRecDepth 100000 in
set_option maxHeartbeats 32000000 in
theorem checks_walk (v : Value) (t : TabIn) (W : World) (ht : TabIs W v t) : Calls Tryd.prog 5 #[v] W fun e w' => e = .returned (.bool true) ∧ Chg (fun _ => False) W w' := by
  obtain ⟨ba, bc, bs, cv, cs⟩ := t
  obtain ⟨rfl, q1, q2, q3, q4, q5⟩ := ht
  dsimp only at q1 q2 q3 q4 q5 ⊢
  obtain ⟨ca, cc, rfl, _⟩ := id q5
  have G1 := hide (al W (.cells #[.slice ba bs.length bc, .slice ca cs.length cc] 39))
  have BX := blk_new W (.cells #[.slice ba bs.length bc, .slice ca cs.length cc] 39)
  have y0 := blk_cell BX 0
  have y1 := blk_cell BX 1
  simp only [List.getElem?_toArray, List.getElem?_cons_zero, List.getElem?_cons_succ] at y0 y1
  have toc := hide (toT_any cs bs.length ba bc q1 q2 (.slice ca cs.length cc) q4 (fun x => x < W.heap.size) (W.alloc (.cells #[.slice ba bs.length bc, .slice ca cs.length cc] 39)) (fun x hx => Nat.lt_of_lt_of_le hx G1.out.size) (q5.chg G1.out (fun _ _ h => h)))
  have HSB := hide ((strs_take 30 q3).chg G1.out (fun _ _ h => h))
  have hmn : min bs.length 30 = (bs.take 30).length := by rw [List.length_take, Nat.min_comm]
  rw [hmn] at toc
  clear q1 q2 q3 q4 q5 BX hmn
  go_enter Tryd.func5, Tryd.ntmps5
  go_wp2_with fail
  generalize W.alloc (.cells #[.slice ba bs.length bc, .slice ca cs.length cc] 39) = w1 at *
  refine toc.out.mono ?_
  rintro e w2 ⟨⟨cv1, rfl, hc1⟩, g2⟩
  have hbl : (bs.take 30).length ≤ 30 := by rw [List.length_take]; omega
  have hcl : (toCs cs).length ≤ 30 := by have := toCs_len cs; omega
  have HS2 := HSB.out.chg g2 (fun _ _ h => h)
  have GW2 := hide (G1.out.trans g2)
  generalize bs.take 30 = N at *
  generalize toCs cs = C at *
  obtain ⟨_, ca1, cc1, rfl, _⟩ := id hc1
  have G3 := al w2 (.cells #[.slice ba N.length bc, .slice ca1 C.length cc1] 26)
  have B3 := blk_new w2 (.cells #[.slice ba N.length bc, .slice ca1 C.length cc1] 26)
  have GW3 := hide (GW2.out.trans G3)
  have SB3 : Hid (Strs (w2.alloc (.cells #[.slice ba N.length bc, .slice ca1 C.length cc1] 26)) (fun x => x < (w2.alloc (.cells #[.slice ba N.length bc, .slice ca1 C.length cc1] 26)).heap.size) (.slice ba N.length bc) N) := hide ((HS2.chg G3 (fun _ _ h => h)).up (fun x hx => Nat.lt_of_lt_of_le hx GW3.out.size))
  have SC3 : Hid (Cns (w2.alloc (.cells #[.slice ba N.length bc, .slice ca1 C.length cc1] 26)) (fun x => x < (w2.alloc (.cells #[.slice ba N.length bc, .slice ca1 C.length cc1] 26)).heap.size) (.slice ca1 C.length cc1) C) := hide ((hc1.chg G3 (fun _ _ h => h)).up (fun x hx => Nat.lt_of_lt_of_le hx.2 G3.size))
  have y0 := blk_cell B3 0
  have y1 := blk_cell B3 1
  simp only [List.getElem?_toArray, List.getElem?_cons_zero, List.getElem?_cons_succ] at y0 y1
  have HB3 := hide B3
  clear toc HSB HS2 hc1 g2 GW2 G3 B3 G1
  go_wp2_with fail
  obtain ⟨A1, hA1⟩ : ∃ A1, w2.heap.size = A1 := ⟨_, rfl⟩
  rw [hA1] at y0 y1 HB3 ⊢
  clear hA1
  generalize w2.alloc (.cells #[.slice ba N.length bc, .slice ca1 C.length cc1] 26) = w3 at *
  refine (ofT_any C (by omega) (.slice ba N.length bc) (.slice ca1 C.length cc1) ba N.length bc rfl (fun x => x < w3.heap.size) w3 (fun x hx => hx) SC3.out).mono ?_
  rintro e w4 ⟨⟨cv2, rfl, hc2⟩, g4⟩
  obtain ⟨_, ca2, cc2, rfl, _⟩ := id hc2
  have G5 := al w4 (.cells #[.slice ba N.length bc, .slice ca2 C.length cc2] 39)
  have B5 := blk_new w4 (.cells #[.slice ba N.length bc, .slice ca2 C.length cc2] 39)
  have G45 := g4.trans G5
  have GW5 := hide (GW3.out.trans G45)
  have SB5 := hide (SB3.out.grow G45)
  have SC5 := hide (SC3.out.grow G45)
  have SD5 : Hid (Cns (w4.alloc (.cells #[.slice ba N.length bc, .slice ca2 C.length cc2] 39)) (fun x => x < (w4.alloc (.cells #[.slice ba N.length bc, .slice ca2 C.length cc2] 39)).heap.size) (.slice ca2 C.length cc2) C) := hide ((hc2.chg G5 (fun _ _ h => h)).up (fun x hx => Nat.lt_of_lt_of_le hx.2 G5.size))
  have BA5 := hide (G45.blk (fun h => h) HB3.out)
  have BB5 := hide B5
  clear hc2 g4 G5 B5 G45 y0 y1 HB3 SB3 SC3 GW3
  have y0 := blk_cell BA5.out 0
  have y1 := blk_cell BA5.out 1
  have z0 := blk_cell BB5.out 0
  have z1 := blk_cell BB5.out 1
  simp only [List.getElem?_toArray, List.getElem?_cons_zero, List.getElem?_cons_succ] at y0 y1 z0 z1
  go_wp2_with fail
  obtain ⟨A2, hA2⟩ : ∃ A2, w4.heap.size = A2 := ⟨_, rfl⟩
  rw [hA2] at z0 z1 BB5 ⊢
  clear hA2
  generalize w4.alloc (.cells #[.slice ba N.length bc, .slice ca2 C.length cc2] 39) = w5 at *
  have y05 := y0
  have y15 := y1
  have z05 := z0
  have z15 := z1
  clear y0 y1 z0 z1
  have ck := hide (fun w hX hb hc => check_any N C (.slice ba N.length bc) (.slice ca1 C.length cc1) (fun x => x < w.heap.size) w hX hb hc)
  refine (new_any N C (.slice ba N.length bc) (.slice ca1 C.length cc1) (fun x => x < w5.heap.size) w5 (fun x hx => hx) SB5.out SC5.out).mono ?_
  rintro e w6 ⟨hn, g6⟩
  have SB6 := hide (SB5.out.grow g6)
  have SC6 := hide (SC5.out.grow g6)
  have SD6 := hide (SD5.out.grow g6)
  have BA6 := hide (g6.blk (fun h => h) BA5.out)
  have BB6 := hide (g6.blk (fun h => h) BB5.out)
  have GW6 := hide (GW5.out.trans g6)
  have y06 := g6.cell (fun h => h) y05
  have y16 := g6.cell (fun h => h) y15
  have z06 := g6.cell (fun h => h) z05
  have z16 := g6.cell (fun h => h) z15
  clear g6 SB5 SC5 SD5 BA5 BB5 GW5 y05 y15 z05 z15
  have ck := hide (ck.out w6 (fun x hx => hx) SB6.out SC6.out)
  rcases hn with ⟨h0, rfl⟩ | ⟨h0, L, xb, rfl, -, hx⟩
  · have nz : ¬ checkT N C = 0 := h0
    have nb : (checkT N C == 0) = false := by simpa using h0
    have nc : (checkT N C != 0) = true := by simpa using h0
    go_wp2_with fail
    refine ck.out.mono ?_
    rintro e w7 ⟨rfl, g7⟩
    have SB7 := hide (SB6.out.grow g7)
    have SC7 := hide (SC6.out.grow g7)
    have SD7 := hide (SD6.out.grow g7)
    have BA7 := hide (g7.blk (fun h => h) BA6.out)
    have BB7 := hide (g7.blk (fun h => h) BB6.out)
    have GW7 := hide (GW6.out.trans g7)
    have y07 := g7.cell (fun h => h) y06
    have y17 := g7.cell (fun h => h) y16
    have z07 := g7.cell (fun h => h) z06
    have z17 := g7.cell (fun h => h) z16
    clear g7 SB6 SC6 SD6 BA6 BB6 GW6 y06 y16 z06 z16
    clear ck
    go_wp2_with fail
    refine (known_any w7).mono ?_
    rintro e w8 ⟨rfl, g8⟩
    have SB8 := hide (SB7.out.grow g8)
    have SC8 := hide (SC7.out.grow g8)
    have SD8 := hide (SD7.out.grow g8)
    have BA8 := hide (g8.blk (fun h => h) BA7.out)
    have BB8 := hide (g8.blk (fun h => h) BB7.out)
    have GW8 := hide (GW7.out.trans g8)
    have y08 := g8.cell (fun h => h) y07
    have y18 := g8.cell (fun h => h) y17
    have z08 := g8.cell (fun h => h) z07
    have z18 := g8.cell (fun h => h) z17
    clear g8 SB7 SC7 SD7 BA7 BB7 GW7 y07 y17 z07 z17
    go_wp2_with fail
    refine (refCheck_any N C (by omega) (by omega) ba bc ca2 cc2 (fun x => x < w8.heap.size) w8 (fun x hx => hx) SB8.out SD8.out).mono ?_
    rintro e w9 ⟨rfl, g9⟩
    have SB9 := hide (SB8.out.grow g9)
    have SC9 := hide (SC8.out.grow g9)
    have SD9 := hide (SD8.out.grow g9)
    have BA9 := hide (g9.blk (fun h => h) BA8.out)
    have BB9 := hide (g9.blk (fun h => h) BB8.out)
    have GW9 := hide (GW8.out.trans g9)
    have y09 := g9.cell (fun h => h) y08
    have y19 := g9.cell (fun h => h) y18
    have z09 := g9.cell (fun h => h) z08
    have z19 := g9.cell (fun h => h) z18
    clear g9 SB8 SC8 SD8 BA8 BB8 GW8 y08 y18 z08 z18
    go_wp2_with fail
    refine wp_region_held_drew (S := (fun w' => w'.cell? ⟨A1, 0, none⟩ = some (.slice ba N.length bc) ∧ w'.cell? ⟨A1, 1, none⟩ = some (.slice ca1 C.length cc1) ∧ w'.cell? ⟨A2, 0, none⟩ = some (.slice ba N.length bc) ∧ w'.cell? ⟨A2, 1, none⟩ = some (.slice ca2 C.length cc2))) (by kernel_rfl) (by go_keep) (fun hHeld => ?_)
    first
      | (refine wpAnyH_take (i := 0) (v := undef) rfl (by kernel_rfl) (by kernel_rfl) (by kernel_rfl) (fun _ _ _ h => h) (Or.inr ⟨by rfl, rfl⟩) (by assumption) ?_)
      | (refine wpAnyH_take (i := 0) (v := ?_) rfl (by kernel_rfl) (by kernel_rfl) (by kernel_rfl) (fun _ _ _ h => h) (Or.inl ⟨by rfl, ?_⟩) (by assumption) ?_
         rotate_left
         (intro w hSw
          (try dsimp only at hSw)
          (go_simp <;> with_reducible rfl)))
    try simp only [Act.put, List.getElem_toArray, List.getElem_cons_zero, List.getElem_cons_succ, List.setIfInBounds_toArray, List.set_cons_zero, List.set_cons_succ]
    first
      | (refine wpAnyH_take (i := 1) (v := undef) rfl (by kernel_rfl) (by kernel_rfl) (by kernel_rfl) (fun _ _ _ h => h) (Or.inr ⟨by rfl, rfl⟩) (by assumption) ?_)
      | (refine wpAnyH_take (i := 1) (v := ?_) rfl (by kernel_rfl) (by kernel_rfl) (by kernel_rfl) (fun _ _ _ h => h) (Or.inl ⟨by rfl, ?_⟩) (by assumption) ?_
         rotate_left
         (intro w hSw
          (try dsimp only at hSw)
          (go_simp <;> with_reducible rfl)))
    try simp only [Act.put, List.getElem_toArray, List.getElem_cons_zero, List.getElem_cons_succ, List.setIfInBounds_toArray, List.set_cons_zero, List.set_cons_succ]
    first
      | (refine wpAnyH_take (i := 2) (v := undef) rfl (by kernel_rfl) (by kernel_rfl) (by kernel_rfl) (fun _ _ _ h => h) (Or.inr ⟨by rfl, rfl⟩) (by assumption) ?_)
      | (refine wpAnyH_take (i := 2) (v := ?_) rfl (by kernel_rfl) (by kernel_rfl) (by kernel_rfl) (fun _ _ _ h => h) (Or.inl ⟨by rfl, ?_⟩) (by assumption) ?_
         rotate_left
         (intro w hSw
          (try dsimp only at hSw)
          (go_simp <;> with_reducible rfl)))
    try simp only [Act.put, List.getElem_toArray, List.getElem_cons_zero, List.getElem_cons_succ, List.setIfInBounds_toArray, List.set_cons_zero, List.set_cons_succ]
    refine wpAnyH_take (i := 3) (v := undef) rfl (by kernel_rfl) (by kernel_rfl) (by kernel_rfl) (fun _ _ _ h => h) (Or.inr ⟨by rfl, rfl⟩) (by assumption) ?_
    try simp only [Act.put, List.getElem_toArray, List.getElem_cons_zero, List.getElem_cons_succ, List.setIfInBounds_toArray, List.set_cons_zero, List.set_cons_succ]
    refine wpAnyH_take (i := 4) (v := undef) rfl (by kernel_rfl) (by kernel_rfl) (by kernel_rfl) (fun _ _ _ h => h) (Or.inr ⟨by rfl, rfl⟩) (by assumption) ?_
    try simp only [Act.put, List.getElem_toArray, List.getElem_cons_zero, List.getElem_cons_succ, List.setIfInBounds_toArray, List.set_cons_zero, List.set_cons_succ]
    refine wpAnyH_take (i := 5) (v := undef) rfl (by kernel_rfl) (by kernel_rfl) (by kernel_rfl) (fun _ _ _ h => h) (Or.inr ⟨by rfl, rfl⟩) (by assumption) ?_
    try simp only [Act.put, List.getElem_toArray, List.getElem_cons_zero, List.getElem_cons_succ, List.setIfInBounds_toArray, List.set_cons_zero, List.set_cons_succ]
    refine wpAnyH_take (i := 6) (v := undef) rfl (by kernel_rfl) (by kernel_rfl) (by kernel_rfl) (fun _ _ _ h => h) (Or.inr ⟨by rfl, rfl⟩) (by assumption) ?_
    try simp only [Act.put, List.getElem_toArray, List.getElem_cons_zero, List.getElem_cons_succ, List.setIfInBounds_toArray, List.set_cons_zero, List.set_cons_succ]
    refine wpAnyH_take (i := 7) (v := undef) rfl (by kernel_rfl) (by kernel_rfl) (by kernel_rfl) (fun _ _ _ h => h) (Or.inr ⟨by rfl, rfl⟩) (by assumption) ?_
    try simp only [Act.put, List.getElem_toArray, List.getElem_cons_zero, List.getElem_cons_succ, List.setIfInBounds_toArray, List.set_cons_zero, List.set_cons_succ]
    refine wpAnyH_take (i := 8) (v := undef) rfl (by kernel_rfl) (by kernel_rfl) (by kernel_rfl) (fun _ _ _ h => h) (Or.inr ⟨by rfl, rfl⟩) (by assumption) ?_
    try simp only [Act.put, List.getElem_toArray, List.getElem_cons_zero, List.getElem_cons_succ, List.setIfInBounds_toArray, List.set_cons_zero, List.set_cons_succ]
    refine wpAnyH_take (i := 9) (v := undef) rfl (by kernel_rfl) (by kernel_rfl) (by kernel_rfl) (fun _ _ _ h => h) (Or.inr ⟨by rfl, rfl⟩) (by assumption) ?_
    try simp only [Act.put, List.getElem_toArray, List.getElem_cons_zero, List.getElem_cons_succ, List.setIfInBounds_toArray, List.set_cons_zero, List.set_cons_succ]
    refine wpAnyH_take (i := 10) (v := undef) rfl (by kernel_rfl) (by kernel_rfl) (by kernel_rfl) (fun _ _ _ h => h) (Or.inr ⟨by rfl, rfl⟩) (by assumption) ?_
    try simp only [Act.put, List.getElem_toArray, List.getElem_cons_zero, List.getElem_cons_succ, List.setIfInBounds_toArray, List.set_cons_zero, List.set_cons_succ]
    refine wpAnyH_take (i := 11) (v := undef) rfl (by kernel_rfl) (by kernel_rfl) (by kernel_rfl) (fun _ _ _ h => h) (Or.inr ⟨by rfl, rfl⟩) (by assumption) ?_
    try simp only [Act.put, List.getElem_toArray, List.getElem_cons_zero, List.getElem_cons_succ, List.setIfInBounds_toArray, List.set_cons_zero, List.set_cons_succ]
    refine wpAnyH_take (i := 12) (v := undef) rfl (by kernel_rfl) (by kernel_rfl) (by kernel_rfl) (fun _ _ _ h => h) (Or.inr ⟨by rfl, rfl⟩) (by assumption) ?_
    try simp only [Act.put, List.getElem_toArray, List.getElem_cons_zero, List.getElem_cons_succ, List.setIfInBounds_toArray, List.set_cons_zero, List.set_cons_succ]
    refine wpAnyH_take (i := 13) (v := undef) rfl (by kernel_rfl) (by kernel_rfl) (by kernel_rfl) (fun _ _ _ h => h) (Or.inr ⟨by rfl, rfl⟩) (by assumption) ?_
    try simp only [Act.put, List.getElem_toArray, List.getElem_cons_zero, List.getElem_cons_succ, List.setIfInBounds_toArray, List.set_cons_zero, List.set_cons_succ]
    first
      | (refine wpAnyH_take (i := 14) (v := undef) rfl (by kernel_rfl) (by kernel_rfl) (by kernel_rfl) (fun _ _ _ h => h) (Or.inr ⟨by rfl, rfl⟩) (by assumption) ?_)
      | (refine wpAnyH_take (i := 14) (v := ?_) rfl (by kernel_rfl) (by kernel_rfl) (by kernel_rfl) (fun _ _ _ h => h) (Or.inl ⟨by rfl, ?_⟩) (by assumption) ?_
         rotate_left
         (intro w hSw
          (try dsimp only at hSw)
          (go_simp <;> with_reducible rfl)))
    try simp only [Act.put, List.getElem_toArray, List.getElem_cons_zero, List.getElem_cons_succ, List.setIfInBounds_toArray, List.set_cons_zero, List.set_cons_succ]
    first
      | (refine wpAnyH_take (i := 15) (v := undef) rfl (by kernel_rfl) (by kernel_rfl) (by kernel_rfl) (fun _ _ _ h => h) (Or.inr ⟨by rfl, rfl⟩) (by assumption) ?_)
      | (refine wpAnyH_take (i := 15) (v := ?_) rfl (by kernel_rfl) (by kernel_rfl) (by kernel_rfl) (fun _ _ _ h => h) (Or.inl ⟨by rfl, ?_⟩) (by assumption) ?_
         rotate_left
         (intro w hSw
          (try dsimp only at hSw)
          (go_simp <;> with_reducible rfl)))
    try simp only [Act.put, List.getElem_toArray, List.getElem_cons_zero, List.getElem_cons_succ, List.setIfInBounds_toArray, List.set_cons_zero, List.set_cons_succ]
    refine wpAnyH_done (by kernel_rfl) ?_ _
    go_wp2_with fail
    go_ret
    exact ⟨rfl, GW9.out.drew⟩
  · rw [h0] at ck
    have CK0 := hide h0
    clear h0
    have XS6 := hide hx
    clear hx
    go_wp2_with fail
    refine ck.out.mono ?_
    rintro e w7 ⟨rfl, g7⟩
    have SB7 := hide (SB6.out.grow g7)
    have SC7 := hide (SC6.out.grow g7)
    have SD7 := hide (SD6.out.grow g7)
    have BA7 := hide (g7.blk (fun h => h) BA6.out)
    have BB7 := hide (g7.blk (fun h => h) BB6.out)
    have GW7 := hide (GW6.out.trans g7)
    have y07 := g7.cell (fun h => h) y06
    have y17 := g7.cell (fun h => h) y16
    have z07 := g7.cell (fun h => h) z06
    have z17 := g7.cell (fun h => h) z16
    have XS7 := hide (XS6.out.chg g7 (fun _ _ h => h))
    clear XS6
    clear g7 SB6 SC6 SD6 BA6 BB6 GW6 y06 y16 z06 z16
    clear ck
    go_wp2_with fail
    refine (known_any w7).mono ?_
    rintro e w8 ⟨rfl, g8⟩
    have SB8 := hide (SB7.out.grow g8)
    have SC8 := hide (SC7.out.grow g8)
    have SD8 := hide (SD7.out.grow g8)
    have BA8 := hide (g8.blk (fun h => h) BA7.out)
    have BB8 := hide (g8.blk (fun h => h) BB7.out)
    have GW8 := hide (GW7.out.trans g8)
    have y08 := g8.cell (fun h => h) y07
    have y18 := g8.cell (fun h => h) y17
    have z08 := g8.cell (fun h => h) z07
    have z18 := g8.cell (fun h => h) z17
    have XS8 := hide (XS7.out.chg g8 (fun _ _ h => h))
    clear XS7
    clear g8 SB7 SC7 SD7 BA7 BB7 GW7 y07 y17 z07 z17
    go_wp2_with fail
    refine (refCheck_any N C (by omega) (by omega) ba bc ca2 cc2 (fun x => x < w8.heap.size) w8 (fun x hx => hx) SB8.out SD8.out).mono ?_
    rw [CK0.out]
    rintro e w9 ⟨rfl, g9⟩
    have SB9 := hide (SB8.out.grow g9)
    have SC9 := hide (SC8.out.grow g9)
    have SD9 := hide (SD8.out.grow g9)
    have BA9 := hide (g9.blk (fun h => h) BA8.out)
    have BB9 := hide (g9.blk (fun h => h) BB8.out)
    have GW9 := hide (GW8.out.trans g9)
    have y09 := g9.cell (fun h => h) y08
    have y19 := g9.cell (fun h => h) y18
    have z09 := g9.cell (fun h => h) z08
    have z19 := g9.cell (fun h => h) z18
    have XS9 := hide (XS8.out.chg g9 (fun _ _ h => h))
    clear XS8
    clear g9 SB8 SC8 SD8 BA8 BB8 GW8 y08 y18 z08 z18
    go_wp2_with fail
    refine wp_region_held_drew (S := (fun w' => w'.cell? ⟨A1, 0, none⟩ = some (.slice ba N.length bc) ∧ w'.cell? ⟨A1, 1, none⟩ = some (.slice ca1 C.length cc1) ∧ w'.cell? ⟨A2, 0, none⟩ = some (.slice ba N.length bc) ∧ w'.cell? ⟨A2, 1, none⟩ = some (.slice ca2 C.length cc2))) (by kernel_rfl) (by go_keep) (fun hHeld => ?_)
    first
      | (refine wpAnyH_take (i := 0) (v := undef) rfl (by kernel_rfl) (by kernel_rfl) (by kernel_rfl) (fun _ _ _ h => h) (Or.inr ⟨by rfl, rfl⟩) (by assumption) ?_)
      | (refine wpAnyH_take (i := 0) (v := ?_) rfl (by kernel_rfl) (by kernel_rfl) (by kernel_rfl) (fun _ _ _ h => h) (Or.inl ⟨by rfl, ?_⟩) (by assumption) ?_
         rotate_left
         (intro w hSw
          (try dsimp only at hSw)
          (go_simp <;> with_reducible rfl)))
    try simp only [Act.put, List.getElem_toArray, List.getElem_cons_zero, List.getElem_cons_succ, List.setIfInBounds_toArray, List.set_cons_zero, List.set_cons_succ]
    first
      | (refine wpAnyH_take (i := 1) (v := undef) rfl (by kernel_rfl) (by kernel_rfl) (by kernel_rfl) (fun _ _ _ h => h) (Or.inr ⟨by rfl, rfl⟩) (by assumption) ?_)
      | (refine wpAnyH_take (i := 1) (v := ?_) rfl (by kernel_rfl) (by kernel_rfl) (by kernel_rfl) (fun _ _ _ h => h) (Or.inl ⟨by rfl, ?_⟩) (by assumption) ?_
         rotate_left
         (intro w hSw
          (try dsimp only at hSw)
          (go_simp <;> with_reducible rfl)))
    try simp only [Act.put, List.getElem_toArray, List.getElem_cons_zero, List.getElem_cons_succ, List.setIfInBounds_toArray, List.set_cons_zero, List.set_cons_succ]
    first
      | (refine wpAnyH_take (i := 2) (v := undef) rfl (by kernel_rfl) (by kernel_rfl) (by kernel_rfl) (fun _ _ _ h => h) (Or.inr ⟨by rfl, rfl⟩) (by assumption) ?_)
      | (refine wpAnyH_take (i := 2) (v := ?_) rfl (by kernel_rfl) (by kernel_rfl) (by kernel_rfl) (fun _ _ _ h => h) (Or.inl ⟨by rfl, ?_⟩) (by assumption) ?_
         rotate_left
         (intro w hSw
          (try dsimp only at hSw)
          (go_simp <;> with_reducible rfl)))
    try simp only [Act.put, List.getElem_toArray, List.getElem_cons_zero, List.getElem_cons_succ, List.setIfInBounds_toArray, List.set_cons_zero, List.set_cons_succ]
    first
      | (refine wpAnyH_take (i := 3) (v := undef) rfl (by kernel_rfl) (by kernel_rfl) (by kernel_rfl) (fun _ _ _ h => h) (Or.inr ⟨by rfl, rfl⟩) (by assumption) ?_)
      | (refine wpAnyH_take (i := 3) (v := ?_) rfl (by kernel_rfl) (by kernel_rfl) (by kernel_rfl) (fun _ _ _ h => h) (Or.inl ⟨by rfl, ?_⟩) (by assumption) ?_
         rotate_left
         (intro w hSw
          (try dsimp only at hSw)
          (go_simp <;> with_reducible rfl)))
    try simp only [Act.put, List.getElem_toArray, List.getElem_cons_zero, List.getElem_cons_succ, List.setIfInBounds_toArray, List.set_cons_zero, List.set_cons_succ]
    first
      | (refine wpAnyH_take (i := 6) (v := undef) rfl (by kernel_rfl) (by kernel_rfl) (by kernel_rfl) (fun _ _ _ h => h) (Or.inr ⟨by rfl, rfl⟩) (by assumption) ?_)
      | (refine wpAnyH_take (i := 6) (v := ?_) rfl (by kernel_rfl) (by kernel_rfl) (by kernel_rfl) (fun _ _ _ h => h) (Or.inl ⟨by rfl, ?_⟩) (by assumption) ?_
         rotate_left
         (intro w hSw
          (try dsimp only at hSw)
          (go_simp <;> with_reducible rfl)))
    try simp only [Act.put, List.getElem_toArray, List.getElem_cons_zero, List.getElem_cons_succ, List.setIfInBounds_toArray, List.set_cons_zero, List.set_cons_succ]
    refine wpAnyH_ready (rs := [4]) (by kernel_rfl) (by simp) ?_
    refine AllReadyH.cons (i := 4) (o := _) rfl (fun K hK => ?_) ?_
    rotate_left
    · exact AllReadyH.nil
    go_simp
    refine (table_any xb L N C (by omega) (by omega) w9.drew (XS9.out.chg (Chg.refl (fun _ => False) w9).drew (fun _ _ h => h))).mono ?_
    rintro e w10 ⟨⟨bv3, cv3, rfl, hb3, hc3⟩, g100⟩
    have g10 := (Chg.refl (fun _ => False) w9).drew.trans g100
    obtain ⟨_, ba3, bc3, rfl, _⟩ := id hb3
    obtain ⟨_, ca3, cc3, rfl, _⟩ := id hc3
    have TB10 : Hid (Strs w10 (fun x => x < w10.heap.size) (.slice ba3 N.length bc3) N) := hide (hb3.up (fun x hx => hx.2))
    have TC10 : Hid (Cns w10 (fun x => x < w10.heap.size) (.slice ca3 C.length cc3) C) := hide (hc3.up (fun x hx => hx.2))
    clear hb3 hc3
    have SB10 := hide (SB9.out.grow g10)
    have SC10 := hide (SC9.out.grow g10)
    have SD10 := hide (SD9.out.grow g10)
    have BA10 := hide (g10.blk (fun h => h) BA9.out)
    have BB10 := hide (g10.blk (fun h => h) BB9.out)
    have GW10 := hide (GW9.out.trans g10)
    have y010 := g10.cell (fun h => h) y09
    have y110 := g10.cell (fun h => h) y19
    have z010 := g10.cell (fun h => h) z09
    have z110 := g10.cell (fun h => h) z19
    have XS10 := hide (XS9.out.chg g10 (fun _ _ h => h))
    clear XS9
    clear g10 SB9 SC9 SD9 BA9 BB9 GW9 y09 y19 z09 z19
    clear g100
    go_simp
    refine hK.out _ _ ⟨y010, y110, z010, z110⟩ (fun hHeld => ?_)
    clear hK K
    try simp only [Act.put, List.getElem_toArray, List.getElem_cons_zero, List.getElem_cons_succ, List.setIfInBounds_toArray, List.set_cons_zero, List.set_cons_succ]
    refine wpAnyH_ready (rs := [5]) (by kernel_rfl) (by simp) ?_
    refine AllReadyH.cons (i := 5) (o := _) rfl (fun K hK => ?_) ?_
    rotate_left
    · exact AllReadyH.nil
    go_simp
    refine (ofT_any C (by omega) (.slice ba3 N.length bc3) (.slice ca3 C.length cc3) ba3 N.length bc3 rfl (fun x => x < w10.heap.size) w10 (fun x hx => hx) TC10.out).mono ?_
    rintro e w11 ⟨⟨cv4, rfl, hc4⟩, g11⟩
    obtain ⟨_, ca4, cc4, rfl, _⟩ := id hc4
    have TC11 : Hid (Cns w11 (fun x => x < w11.heap.size) (.slice ca4 C.length cc4) C) := hide (hc4.up (fun x hx => hx.2))
    have TB11 := hide (TB10.out.grow g11)
    clear hc4 TB10 TC10
    have SB11 := hide (SB10.out.grow g11)
    have SC11 := hide (SC10.out.grow g11)
    have SD11 := hide (SD10.out.grow g11)
    have BA11 := hide (g11.blk (fun h => h) BA10.out)
    have BB11 := hide (g11.blk (fun h => h) BB10.out)
    have GW11 := hide (GW10.out.trans g11)
    have y011 := g11.cell (fun h => h) y010
    have y111 := g11.cell (fun h => h) y110
    have z011 := g11.cell (fun h => h) z010
    have z111 := g11.cell (fun h => h) z110
    have XS11 := hide (XS10.out.chg g11 (fun _ _ h => h))
    clear XS10
    clear g11 SB10 SC10 SD10 BA10 BB10 GW10 y010 y110 z010 z110
    go_simp
    refine hK.out _ _ ⟨y011, y111, z011, z111⟩ (fun hHeld => ?_)
    clear hK K
    try simp only [Act.put, List.getElem_toArray, List.getElem_cons_zero, List.getElem_cons_succ, List.setIfInBounds_toArray, List.set_cons_zero, List.set_cons_succ]
    refine wpAnyH_ready (rs := [7]) (by kernel_rfl) (by simp) ?_
    refine AllReadyH.cons (i := 7) (o := _) rfl (fun K hK => ?_) ?_
    rotate_left
    · exact AllReadyH.nil
    go_simp
    refine (refSameT_any N C (by omega) (by omega) ba3 ba bc3 bc ca4 ca2 cc4 cc2 (fun x => x < w11.heap.size) w11 (fun x hx => hx) TB11.out TC11.out SB11.out SD11.out).mono ?_
    rintro e w12 ⟨rfl, g12⟩
    clear TB11 TC11
    have SB12 := hide (SB11.out.grow g12)
    have SC12 := hide (SC11.out.grow g12)
    have SD12 := hide (SD11.out.grow g12)
    have BA12 := hide (g12.blk (fun h => h) BA11.out)
    have BB12 := hide (g12.blk (fun h => h) BB11.out)
    have GW12 := hide (GW11.out.trans g12)
    have y012 := g12.cell (fun h => h) y011
    have y112 := g12.cell (fun h => h) y111
    have z012 := g12.cell (fun h => h) z011
    have z112 := g12.cell (fun h => h) z111
    have XS12 := hide (XS11.out.chg g12 (fun _ _ h => h))
    clear XS11
    clear g12 SB11 SC11 SD11 BA11 BB11 GW11 y011 y111 z011 z111
    go_simp
    refine hK.out _ _ ⟨y012, y112, z012, z112⟩ (fun hHeld => ?_)
    clear hK K
    try simp only [Act.put, List.getElem_toArray, List.getElem_cons_zero, List.getElem_cons_succ, List.setIfInBounds_toArray, List.set_cons_zero, List.set_cons_succ]
    first
      | (refine wpAnyH_take (i := 8) (v := undef) rfl (by kernel_rfl) (by kernel_rfl) (by kernel_rfl) (fun _ _ _ h => h) (Or.inr ⟨by rfl, rfl⟩) (by assumption) ?_)
      | (refine wpAnyH_take (i := 8) (v := ?_) rfl (by kernel_rfl) (by kernel_rfl) (by kernel_rfl) (fun _ _ _ h => h) (Or.inl ⟨by rfl, ?_⟩) (by assumption) ?_
         rotate_left
         (intro w hSw
          (try dsimp only at hSw)
          (go_simp <;> with_reducible rfl)))
    try simp only [Act.put, List.getElem_toArray, List.getElem_cons_zero, List.getElem_cons_succ, List.setIfInBounds_toArray, List.set_cons_zero, List.set_cons_succ]
    first
      | (refine wpAnyH_take (i := 9) (v := undef) rfl (by kernel_rfl) (by kernel_rfl) (by kernel_rfl) (fun _ _ _ h => h) (Or.inr ⟨by rfl, rfl⟩) (by assumption) ?_)
      | (refine wpAnyH_take (i := 9) (v := ?_) rfl (by kernel_rfl) (by kernel_rfl) (by kernel_rfl) (fun _ _ _ h => h) (Or.inl ⟨by rfl, ?_⟩) (by assumption) ?_
         rotate_left
         (intro w hSw
          (try dsimp only at hSw)
          (go_simp <;> with_reducible rfl)))
    try simp only [Act.put, List.getElem_toArray, List.getElem_cons_zero, List.getElem_cons_succ, List.setIfInBounds_toArray, List.set_cons_zero, List.set_cons_succ]
    first
      | (refine wpAnyH_take (i := 11) (v := undef) rfl (by kernel_rfl) (by kernel_rfl) (by kernel_rfl) (fun _ _ _ h => h) (Or.inr ⟨by rfl, rfl⟩) (by assumption) ?_)
      | (refine wpAnyH_take (i := 11) (v := ?_) rfl (by kernel_rfl) (by kernel_rfl) (by kernel_rfl) (fun _ _ _ h => h) (Or.inl ⟨by rfl, ?_⟩) (by assumption) ?_
         rotate_left
         (intro w hSw
          (try dsimp only at hSw)
          (go_simp <;> with_reducible rfl)))
    try simp only [Act.put, List.getElem_toArray, List.getElem_cons_zero, List.getElem_cons_succ, List.setIfInBounds_toArray, List.set_cons_zero, List.set_cons_succ]
    refine wpAnyH_ready (rs := [10]) (by kernel_rfl) (by simp) ?_
    refine AllReadyH.cons (i := 10) (o := _) rfl (fun K hK => ?_) ?_
    rotate_left
    · exact AllReadyH.nil
    go_simp
    refine (ofT_any C (by omega) (.slice ba N.length bc) (.slice ca1 C.length cc1) ba N.length bc rfl (fun x => x < w12.heap.size) w12 (fun x hx => hx) SC12.out).mono ?_
    rintro e w13 ⟨⟨cv4, rfl, hc4⟩, g13⟩
    obtain ⟨_, ca5, cc5, rfl, _⟩ := id hc4
    have TC13 : Hid (Cns w13 (fun x => x < w13.heap.size) (.slice ca5 C.length cc5) C) := hide (hc4.up (fun x hx => hx.2))
    clear hc4
    have SB13 := hide (SB12.out.grow g13)
    have SC13 := hide (SC12.out.grow g13)
    have SD13 := hide (SD12.out.grow g13)
    have BA13 := hide (g13.blk (fun h => h) BA12.out)
    have BB13 := hide (g13.blk (fun h => h) BB12.out)
    have GW13 := hide (GW12.out.trans g13)
    have y013 := g13.cell (fun h => h) y012
    have y113 := g13.cell (fun h => h) y112
    have z013 := g13.cell (fun h => h) z012
    have z113 := g13.cell (fun h => h) z112
    have XS13 := hide (XS12.out.chg g13 (fun _ _ h => h))
    clear XS12
    clear g13 SB12 SC12 SD12 BA12 BB12 GW12 y012 y112 z012 z112
    go_simp
    refine hK.out _ _ ⟨y013, y113, z013, z113⟩ (fun hHeld => ?_)
    clear hK K
    try simp only [Act.put, List.getElem_toArray, List.getElem_cons_zero, List.getElem_cons_succ, List.setIfInBounds_toArray, List.set_cons_zero, List.set_cons_succ]
    refine wpAnyH_ready (rs := [12]) (by kernel_rfl) (by simp) ?_
    refine AllReadyH.cons (i := 12) (o := _) rfl (fun K hK => ?_) ?_
    rotate_left
    · exact AllReadyH.nil
    go_simp
    refine (refSameT_any N C (by omega) (by omega) ba ba bc bc ca5 ca2 cc5 cc2 (fun x => x < w13.heap.size) w13 (fun x hx => hx) SB13.out TC13.out SB13.out SD13.out).mono ?_
    rintro e w14 ⟨rfl, g14⟩
    clear TC13
    have SB14 := hide (SB13.out.grow g14)
    have SC14 := hide (SC13.out.grow g14)
    have SD14 := hide (SD13.out.grow g14)
    have BA14 := hide (g14.blk (fun h => h) BA13.out)
    have BB14 := hide (g14.blk (fun h => h) BB13.out)
    have GW14 := hide (GW13.out.trans g14)
    have y014 := g14.cell (fun h => h) y013
    have y114 := g14.cell (fun h => h) y113
    have z014 := g14.cell (fun h => h) z013
    have z114 := g14.cell (fun h => h) z113
    have XS14 := hide (XS13.out.chg g14 (fun _ _ h => h))
    clear XS13
    clear g14 SB13 SC13 SD13 BA13 BB13 GW13 y013 y113 z013 z113
    go_simp
    refine hK.out _ _ ⟨y014, y114, z014, z114⟩ (fun hHeld => ?_)
    clear hK K
    try simp only [Act.put, List.getElem_toArray, List.getElem_cons_zero, List.getElem_cons_succ, List.setIfInBounds_toArray, List.set_cons_zero, List.set_cons_succ]
    first
      | (refine wpAnyH_take (i := 13) (v := undef) rfl (by kernel_rfl) (by kernel_rfl) (by kernel_rfl) (fun _ _ _ h => h) (Or.inr ⟨by rfl, rfl⟩) (by assumption) ?_)
      | (refine wpAnyH_take (i := 13) (v := ?_) rfl (by kernel_rfl) (by kernel_rfl) (by kernel_rfl) (fun _ _ _ h => h) (Or.inl ⟨by rfl, ?_⟩) (by assumption) ?_
         rotate_left
         (intro w hSw
          (try dsimp only at hSw)
          (go_simp <;> with_reducible rfl)))
    try simp only [Act.put, List.getElem_toArray, List.getElem_cons_zero, List.getElem_cons_succ, List.setIfInBounds_toArray, List.set_cons_zero, List.set_cons_succ]
    first
      | (refine wpAnyH_take (i := 14) (v := undef) rfl (by kernel_rfl) (by kernel_rfl) (by kernel_rfl) (fun _ _ _ h => h) (Or.inr ⟨by rfl, rfl⟩) (by assumption) ?_)
      | (refine wpAnyH_take (i := 14) (v := ?_) rfl (by kernel_rfl) (by kernel_rfl) (by kernel_rfl) (fun _ _ _ h => h) (Or.inl ⟨by rfl, ?_⟩) (by assumption) ?_
         rotate_left
         (intro w hSw
          (try dsimp only at hSw)
          (go_simp <;> with_reducible rfl)))
    try simp only [Act.put, List.getElem_toArray, List.getElem_cons_zero, List.getElem_cons_succ, List.setIfInBounds_toArray, List.set_cons_zero, List.set_cons_succ]
    first
      | (refine wpAnyH_take (i := 15) (v := undef) rfl (by kernel_rfl) (by kernel_rfl) (by kernel_rfl) (fun _ _ _ h => h) (Or.inr ⟨by rfl, rfl⟩) (by assumption) ?_)
      | (refine wpAnyH_take (i := 15) (v := ?_) rfl (by kernel_rfl) (by kernel_rfl) (by kernel_rfl) (fun _ _ _ h => h) (Or.inl ⟨by rfl, ?_⟩) (by assumption) ?_
         rotate_left
         (intro w hSw
          (try dsimp only at hSw)
          (go_simp <;> with_reducible rfl)))
    try simp only [Act.put, List.getElem_toArray, List.getElem_cons_zero, List.getElem_cons_succ, List.setIfInBounds_toArray, List.set_cons_zero, List.set_cons_succ]
    refine wpAnyH_done (by kernel_rfl) ?_ _
    go_wp2_with fail
    go_ret
    exact ⟨rfl, GW14.out⟩
theorem checks_law (W : World) (hT : Tabs W) {v : Value} (t : TabIn) (ht : TabIs W v t) : Calls Tryd.prog 5 #[v] W fun e W' => e = .returned (.bool true) ∧ Below W.heap.size W W' :=
  (checks_walk v t W ht).mono fun e W' ⟨h, g⟩ => ⟨h, g.below (Nat.le_refl _) (fun _ h => h.elim)⟩
end Go.Proofs.YtdoohocdaacnaaaDoor
