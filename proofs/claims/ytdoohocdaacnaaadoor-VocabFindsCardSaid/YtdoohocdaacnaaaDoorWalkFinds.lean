/- VocabFinds's walk. -/
import Derived.Test.YtdoohocdaacnaaaDoorFindLaw
import Derived.Test.YtdoohocdaacnaaaDoorTypes
import Derived.Test.YtdoohocdaacnaaaDoorType
import Derived.Test.YtdoohocdaacnaaaDoorOpens
import Derived.Test.YtdoohocdaacnaaaDoorKnown
import Derived.Test.YtdoohocdaacnaaaDoorLaid
import Derived.Deep.DeepCutAuto
import Derived.Deep.CutBlock
namespace Go.Proofs.YtdoohocdaacnaaaDoor
open Go.RowKit Go.Maps
set_option linter.unusedVariables false
set_option linter.unusedSimpArgs false

theorem Cns.grow {w w' : World} {v : Value} {l : List Cn} (h : Cns w (fun x => x < w.heap.size) v l) (g : Chg (fun _ => False) w w') : Cns w' (fun x => x < w'.heap.size) v l :=
  (h.chg g (fun _ _ h => h)).up (fun x hx => Nat.lt_of_lt_of_le hx g.size)
theorem strs_take {w : World} {X : Nat → Prop} {a : Option Addr} {c : Nat} {l : List ByteArray} (k : Nat) (h : Strs w X (.slice a l.length c) l) : Strs w X (.slice a (l.take k).length c) (l.take k) := by
  obtain ⟨h0, a', c', e, h1⟩ := h
  injection e with e1 e2 e3
  subst e1
  subst e3
  refine ⟨fun s hs => h0 s (List.mem_of_mem_take hs), a, c, rfl, ?_⟩
  rcases h1 with h1 | ⟨g, off, e4, hg, h2⟩
  · exact Or.inl (by rw [h1]; simp)
  · refine Or.inr ⟨g, off, e4, hg, fun i hi => ?_⟩
    have hi' : i < l.length := by rw [List.length_take] at hi; omega
    rw [List.getElem_take]
    exact h2 i hi'

theorem findV_or (N : List ByteArray) (C : List Cn) (hn : (N ++ C.map (·.1)).Nodup) (s : ByteArray) :
    ((0 ≤ posL s N 0 ∧ findV N C s true = (posL s N 0, 0)) ∨ (posL s N 0 < 0 ∧ findV N C s true = (0, 10))) ∧ ((0 ≤ posL s (C.map (·.1)) 0 ∧ findV N C s false = (posL s (C.map (·.1)) 0, 0)) ∨ (posL s (C.map (·.1)) 0 < 0 ∧ findV N C s false = (0, 10))) := by
  obtain ⟨h1, h2⟩ := findV_val N C hn s
  constructor
  · by_cases h : 0 ≤ posL s N 0
    · exact Or.inl ⟨h, by rw [h1, if_pos h]⟩
    · exact Or.inr ⟨by omega, by rw [h1, if_neg h]⟩
  · by_cases h : 0 ≤ posL s (C.map (·.1)) 0
    · exact Or.inl ⟨h, by rw [h2, if_pos h]⟩
    · exact Or.inr ⟨by omega, by rw [h2, if_neg h]⟩
theorem isN_pos (N : List ByteArray) (C : List Cn) (s : ByteArray) : isN N C s = (decide (0 ≤ posL s N 0) || decide (0 ≤ posL s (C.map (·.1)) 0)) := by
  rw [Bool.eq_iff_iff, isN_iff]
  simp [posL_iff]
theorem tys_cell {w : World} {X : Nat → Prop} {a : Option Addr} {n cap : Nat} {C : List Cn} (h : Ts w X (.slice a n cap) (tysF C)) {i : Nat} (hi : i < C.length) : ∃ g off u c', a = some ⟨g, off, none⟩ ∧ w.cell? ⟨g, off + i * 2, none⟩ = some (.slice u C[i].2.1.len c') ∧ Ts w X (.slice u C[i].2.1.len c') C[i].2.1 ∧ w.cell? ⟨g, off + i * 2 + 1, none⟩ = some (.int .i64 C[i].2.2) := by
  have hl : i < (tysF C).toL.length := by rw [tysF_len]; exact hi
  have e := tysF_at C i hl hi
  obtain ⟨a', c', e1, h1⟩ := h
  injection e1 with e1 e2 e3
  subst e1
  rcases h1 with h0 | ⟨g, off, rfl, hg, h1⟩
  · have h2 := tysF_len C
    rw [h0] at h2
    simp [Fs.toL] at h2
    omega
  · obtain ⟨⟨v, c0, ti⟩, c1⟩ := lies_get h1 i hl
    rw [e] at ti c1
    obtain ⟨ka, kc, rfl, _⟩ := id ti
    exact ⟨g, off, ka, kc, rfl, c0, ti, c1⟩
theorem Strs.nil0 (w : World) (X : Nat → Prop) : Strs w X (.slice none 0 0) [] := ⟨fun s hs => by (cases hs), none, 0, rfl, Or.inl rfl⟩
theorem two_rows (w : World) (a b : ByteArray) (ha : a.size ≤ maxLen) (hb : b.size ≤ maxLen) : Strs (w.alloc (.cells #[.string a, .string b] 9)) (fun x => x = w.heap.size) (.slice (some ⟨w.heap.size, 0, none⟩) 2 2) [a, b] := by
  refine ⟨?_, _, _, rfl, Or.inr ⟨w.heap.size, 0, rfl, rfl, ?_⟩⟩
  · intro s hs
    rcases List.mem_cons.1 hs with rfl | hs
    · exact ha
    · rcases List.mem_cons.1 hs with rfl | hs
      · exact hb
      · cases hs
  · intro i hi
    match i, hi with
    | 0, _ => exact blk_cell (blk_new w (.cells #[.string a, .string b] 9)) 0
    | 1, _ => exact blk_cell (blk_new w (.cells #[.string a, .string b] 9)) 1

set_option maxRecDepth 100000 in
set_option maxHeartbeats 64000000 in
theorem finds_walk (v : Value) (t : TabIn) (W : World) (ht : TabIs W v t) (s : ByteArray) (hs : s.size ≤ maxLen) (o : ByteArray) (ho : o.size ≤ maxLen) (n : Int) (hnr : (Lit.int .i64 n).wf = true) : Calls Tryd.prog 6 #[v, .string s, .string o, .int .i64 n] W fun e w' => e = .returned (.bool true) ∧ Chg (fun _ => False) W w' := by
  obtain ⟨ba, bc, bs, cv, cs⟩ := t
  obtain ⟨rfl, q1, q2, q3, q4, q5⟩ := ht
  dsimp only at q1 q2 q3 q4 q5 ⊢
  obtain ⟨ca, cc, rfl, _⟩ := id q5
  have G1 := hide (al W (.cells #[.slice ba bs.length bc, .slice ca cs.length cc] 39))
  have BX := blk_new W (.cells #[.slice ba bs.length bc, .slice ca cs.length cc] 39)
  have y0 := blk_cell BX 0
  have y1 := blk_cell BX 1
  simp only [List.getElem?_toArray, List.getElem?_cons_zero, List.getElem?_cons_succ] at y0 y1
  have toc := hide (toT_any cs bs.length ba bc q1 q2 (.slice ca cs.length cc) q4 (fun x => x < W.heap.size) (W.alloc (.cells #[.slice ba bs.length bc, .slice ca cs.length cc] 39)) (fun x hx => Nat.lt_of_lt_of_le hx G1.out.size) (q5.chg G1.out (fun _ _ h => h)))
  have HSB := hide ((strs_take 30 q3).chg G1.out (fun _ _ h => h))
  have hmn : min bs.length 30 = (bs.take 30).length := by rw [List.length_take, Nat.min_comm]
  rw [hmn] at toc
  clear q1 q2 q3 q4 q5 BX hmn
  go_enter Tryd.func6, Tryd.ntmps6
  go_wp2_with fail
  generalize W.alloc (.cells #[.slice ba bs.length bc, .slice ca cs.length cc] 39) = w1 at *
  refine toc.out.mono ?_
  rintro e w2 ⟨⟨cv1, rfl, hc1⟩, g2⟩
  have hbl : (bs.take 30).length ≤ 30 := by rw [List.length_take]; omega
  have hcl : (toCs cs).length ≤ 30 := by have := toCs_len cs; omega
  have HS2 := HSB.out.chg g2 (fun _ _ h => h)
  have GW2 := hide (G1.out.trans g2)
  generalize bs.take 30 = N at *
  generalize toCs cs = C at *
  obtain ⟨_, ca1, cc1, rfl, _⟩ := id hc1
  have G3 := al w2 (.cells #[.slice ba N.length bc, .slice ca1 C.length cc1] 26)
  have B3 := blk_new w2 (.cells #[.slice ba N.length bc, .slice ca1 C.length cc1] 26)
  have GW3 := hide (GW2.out.trans G3)
  have SB3 : Hid (Strs (w2.alloc (.cells #[.slice ba N.length bc, .slice ca1 C.length cc1] 26)) (fun x => x < (w2.alloc (.cells #[.slice ba N.length bc, .slice ca1 C.length cc1] 26)).heap.size) (.slice ba N.length bc) N) := hide ((HS2.chg G3 (fun _ _ h => h)).up (fun x hx => Nat.lt_of_lt_of_le hx GW3.out.size))
  have SC3 : Hid (Cns (w2.alloc (.cells #[.slice ba N.length bc, .slice ca1 C.length cc1] 26)) (fun x => x < (w2.alloc (.cells #[.slice ba N.length bc, .slice ca1 C.length cc1] 26)).heap.size) (.slice ca1 C.length cc1) C) := hide ((hc1.chg G3 (fun _ _ h => h)).up (fun x hx => Nat.lt_of_lt_of_le hx.2 G3.size))
  have y0 := blk_cell B3 0
  have y1 := blk_cell B3 1
  simp only [List.getElem?_toArray, List.getElem?_cons_zero, List.getElem?_cons_succ] at y0 y1
  have HB3 := hide B3
  clear toc HSB HS2 hc1 g2 GW2 G3 B3 G1
  go_wp2_with fail
  obtain ⟨A1, hA1⟩ : ∃ A1, w2.heap.size = A1 := ⟨_, rfl⟩
  rw [hA1] at y0 y1 HB3 ⊢
  clear hA1
  generalize w2.alloc (.cells #[.slice ba N.length bc, .slice ca1 C.length cc1] 26) = w3 at *
  refine (ofT_any C (by omega) (.slice ba N.length bc) (.slice ca1 C.length cc1) ba N.length bc rfl (fun x => x < w3.heap.size) w3 (fun x hx => hx) SC3.out).mono ?_
  rintro e w4 ⟨⟨cv2, rfl, hc2⟩, g4⟩
  obtain ⟨_, ca2, cc2, rfl, _⟩ := id hc2
  have G5 := al w4 (.cells #[.slice ba N.length bc, .slice ca2 C.length cc2] 39)
  have B5 := blk_new w4 (.cells #[.slice ba N.length bc, .slice ca2 C.length cc2] 39)
  have G45 := g4.trans G5
  have GW5 := hide (GW3.out.trans G45)
  have SB5 := hide (SB3.out.grow G45)
  have SC5 := hide (SC3.out.grow G45)
  have SD5 : Hid (Cns (w4.alloc (.cells #[.slice ba N.length bc, .slice ca2 C.length cc2] 39)) (fun x => x < (w4.alloc (.cells #[.slice ba N.length bc, .slice ca2 C.length cc2] 39)).heap.size) (.slice ca2 C.length cc2) C) := hide ((hc2.chg G5 (fun _ _ h => h)).up (fun x hx => Nat.lt_of_lt_of_le hx.2 G5.size))
  have BA5 := hide (G45.blk (fun h => h) HB3.out)
  have BB5 := hide B5
  clear hc2 g4 G5 B5 G45 y0 y1 HB3 SB3 SC3 GW3
  have y0 := blk_cell BA5.out 0
  have y1 := blk_cell BA5.out 1
  have z0 := blk_cell BB5.out 0
  have z1 := blk_cell BB5.out 1
  simp only [List.getElem?_toArray, List.getElem?_cons_zero, List.getElem?_cons_succ] at y0 y1 z0 z1
  go_wp2_with fail
  obtain ⟨A2, hA2⟩ : ∃ A2, w4.heap.size = A2 := ⟨_, rfl⟩
  rw [hA2] at z0 z1 BB5 ⊢
  clear hA2
  generalize w4.alloc (.cells #[.slice ba N.length bc, .slice ca2 C.length cc2] 39) = w5 at *
  have y05 := y0
  have y15 := y1
  have z05 := z0
  have z15 := z1
  clear y0 y1 z0 z1
  refine (new_any N C (.slice ba N.length bc) (.slice ca1 C.length cc1) (fun x => x < w5.heap.size) w5 (fun x hx => hx) SB5.out SC5.out).mono ?_
  rintro e w6 ⟨hn, g6⟩
  rcases hn with ⟨h0, rfl⟩ | ⟨h0, L, xb, rfl, hML, hx⟩
  · have nz : ¬ checkT N C = 0 := h0
    have nb : (checkT N C == 0) = false := by simpa using h0
    have nc : (checkT N C != 0) = true := by simpa using h0
    have SB6 := hide (SB5.out.grow g6)
    have SC6 := hide (SC5.out.grow g6)
    have SD6 := hide (SD5.out.grow g6)
    have BA6 := hide (g6.blk (fun h => h) BA5.out)
    have BB6 := hide (g6.blk (fun h => h) BB5.out)
    have GW6 := hide (GW5.out.trans g6)
    have y06 := g6.cell (fun h => h) y05
    have y16 := g6.cell (fun h => h) y15
    have z06 := g6.cell (fun h => h) z05
    have z16 := g6.cell (fun h => h) z15
    clear g6 SB5 SC5 SD5 BA5 BB5 GW5 y05 y15 z05 z15
    go_wp2_with fail
    refine (known_any w6).mono ?_
    rintro e w7 ⟨rfl, g7⟩
    have SB7 := hide (SB6.out.grow g7)
    have SC7 := hide (SC6.out.grow g7)
    have SD7 := hide (SD6.out.grow g7)
    have BA7 := hide (g7.blk (fun h => h) BA6.out)
    have BB7 := hide (g7.blk (fun h => h) BB6.out)
    have GW7 := hide (GW6.out.trans g7)
    have y07 := g7.cell (fun h => h) y06
    have y17 := g7.cell (fun h => h) y16
    have z07 := g7.cell (fun h => h) z06
    have z17 := g7.cell (fun h => h) z16
    clear g7 SB6 SC6 SD6 BA6 BB6 GW6 y06 y16 z06 z16
    go_wp2_with fail
    refine (refCheck_any N C (by omega) (by omega) ba bc ca2 cc2 (fun x => x < w7.heap.size) w7 (fun x hx => hx) SB7.out SD7.out).mono ?_
    rintro e w8 ⟨rfl, g8⟩
    have SB8 := hide (SB7.out.grow g8)
    have SC8 := hide (SC7.out.grow g8)
    have SD8 := hide (SD7.out.grow g8)
    have BA8 := hide (g8.blk (fun h => h) BA7.out)
    have BB8 := hide (g8.blk (fun h => h) BB7.out)
    have GW8 := hide (GW7.out.trans g8)
    have y08 := g8.cell (fun h => h) y07
    have y18 := g8.cell (fun h => h) y17
    have z08 := g8.cell (fun h => h) z07
    have z18 := g8.cell (fun h => h) z17
    clear g8 SB7 SC7 SD7 BA7 BB7 GW7 y07 y17 z07 z17
    go_wp2_with fail
    go_ret
    exact ⟨rfl, GW8.out⟩
  · obtain ⟨M, hM⟩ : ∃ M, w5.heap.size = M := ⟨_, rfl⟩
    rw [hM] at SB5 SC5 SD5 hML
    have XS6 := hide hx
    have ML : Hid (M ≤ xb ∧ W.heap.size ≤ M ∧ A2 < M) := hide (by have h1 := hx.1; have h2 := GW5.out.size; have h3 := blk_lt BB5.out; refine ⟨by omega, by omega, by omega⟩)
    have FV := hide (findV_or N C (checkT_nodup N C (by omega) (by omega) h0))
    clear hx hML h0 hM
    have SBM : Hid (Strs w6 (fun x => x < M) (.slice ba N.length bc) N) := hide (SB5.out.chg g6 (fun _ _ h => h))
    have SDM : Hid (Cns w6 (fun x => x < M) (.slice ca2 C.length cc2) C) := hide (SD5.out.chg g6 (fun _ _ h => h))
    have BB6 := hide (g6.blk (fun h => h) BB5.out)
    have GW6 : Hid (Chg (fun x => x = xb) W w6) := hide (GW5.out.trans g6).none
    have z06 := g6.cell (fun h => h) z05
    have z16 := g6.cell (fun h => h) z15
    have SB6 := SBM
    have SD6 := SDM
    clear g6 SBM SDM SB5 SC5 SD5 BA5 BB5 z05 z15 y05 y15
    have FV1 := hide (FV.out s).1
    have FV2 := hide (FV.out s).2
    clear FV
    have IS := hide (isN_pos N C s)
    have IO := hide (isN_pos N C o)
    have hba := hide (fun w h => base_any xb L N C (by omega) (by omega) s hs w h)
    have hca := hide (fun w h => const_any xb L N C (by omega) (by omega) s hs w h)
    obtain ⟨f1, hf1⟩ : ∃ f1, findV N C s true = f1 := ⟨_, rfl⟩
    obtain ⟨f2, hf2⟩ : ∃ f2, findV N C s false = f2 := ⟨_, rfl⟩
    rw [hf1] at FV1 hba
    rw [hf2] at FV2 hca
    clear hf1 hf2
    have rb := hide (fun s w h1 h2 => refBase_any N C (by omega) (by omega) s ba bc ca2 cc2 (fun x => x < M) w h1 h2)
    have rc := hide (fun s w h1 h2 => refConst_any N C (by omega) (by omega) s ba bc ca2 cc2 (fun x => x < M) w h1 h2)
    have rbs := hide (rb.out s)
    have rcs := hide (rc.out s)
    have rbo := hide (rb.out o)
    have rco := hide (rc.out o)
    clear rb rc
    obtain ⟨P, hP⟩ : ∃ P, posL s N 0 = P := ⟨_, rfl⟩
    obtain ⟨Q, hQ⟩ : ∃ Q, posL s (C.map (·.1)) 0 = Q := ⟨_, rfl⟩
    obtain ⟨PO, hPO⟩ : ∃ P, posL o N 0 = P := ⟨_, rfl⟩
    obtain ⟨QO, hQO⟩ : ∃ Q, posL o (C.map (·.1)) 0 = Q := ⟨_, rfl⟩
    rw [hP] at FV1 IS rbs
    rw [hQ] at FV2 IS rcs
    rw [hPO] at IO rbo
    rw [hQO] at IO rco
    clear hP hQ hPO hQO
    obtain ⟨a, f⟩ := f1
    obtain ⟨b, g⟩ := f2
    dsimp only at hba hca FV1 FV2
    have ty := hide (fun w hb h => type_any L xb (.pointer (some ⟨xb, 0, none⟩)) (some (N, C)) n w hb ⟨rfl, h, by omega, by omega⟩)
    have nm := hide (fun w h => name_any L xb (.pointer (some ⟨xb, 0, none⟩)) (some (N, C)) n w ⟨rfl, h, by omega, by omega⟩)
    have hA : Hid ((0 ≤ n ∧ n < C.length ∧ atV (some C) n = (C.getD n.toNat cn0, 0)) ∨ (¬ (0 ≤ n ∧ n < C.length) ∧ atV (some C) n = (cn0, 10))) := hide (by
      unfold atV
      dsimp only
      by_cases h : 0 ≤ n ∧ n < C.length
      · rw [if_pos h]; exact Or.inl ⟨h.1, h.2, rfl⟩
      · rw [if_neg h]; exact Or.inr ⟨h, rfl⟩)
    simp only [Option.map_some] at ty nm
    obtain ⟨r, hr⟩ : ∃ r, atV (some C) n = r := ⟨_, rfl⟩
    rw [hr] at ty nm hA
    clear hr
    obtain ⟨⟨nn, kk, kb⟩, er⟩ := r
    dsimp only at ty nm hA
    go_wp2_with fail
    refine (hba.out w6 XS6.out).mono ?_
    rintro e w7 ⟨rfl, hx7, g7⟩
    have XS7 := hide hx7
    clear hx7 XS6 hba
    have SB7 := hide (SB6.out.chg g7 (fun x hx e => by have := ML.out; omega))
    have SD7 := hide (SD6.out.chg g7 (fun x hx e => by have := ML.out; omega))
    have BB7 := hide (g7.blk (fun e => by have := ML.out; omega) BB6.out)
    have GW7 := hide (GW6.out.trans g7)
    have z07 := g7.cell (fun e => by have := ML.out; omega) z06
    have z17 := g7.cell (fun e => by have := ML.out; omega) z16
    clear g7 SB6 SD6 BB6 GW6 z06 z16
    go_wp2_with fail
    refine (hca.out w7 XS7.out).mono ?_
    rintro e w8 ⟨rfl, hx8, g8⟩
    have XS8 := hide hx8
    clear hx8 XS7 hca
    have SB8 := hide (SB7.out.chg g8 (fun x hx e => by have := ML.out; omega))
    have SD8 := hide (SD7.out.chg g8 (fun x hx e => by have := ML.out; omega))
    have BB8 := hide (g8.blk (fun e => by have := ML.out; omega) BB7.out)
    have GW8 := hide (GW7.out.trans g8)
    have z08 := g8.cell (fun e => by have := ML.out; omega) z07
    have z18 := g8.cell (fun e => by have := ML.out; omega) z17
    clear g8 SB7 SD7 BB7 GW7 z07 z17
    go_wp2_with fail
    refine wp_region_held_drew (S := (fun w' => w'.cell? ⟨A2, 0, none⟩ = some (.slice ba N.length bc) ∧ w'.cell? ⟨A2, 1, none⟩ = some (.slice ca2 C.length cc2))) (by kernel_rfl) (by go_keep) (fun hHeld => ?_)
    first
      | (refine wpAnyH_take (i := 0) (v := undef) rfl (by kernel_rfl) (by kernel_rfl) (by kernel_rfl) (fun _ _ _ h => h) (Or.inr ⟨by rfl, rfl⟩) (by assumption) ?_)
      | (refine wpAnyH_take (i := 0) (v := ?_) rfl (by kernel_rfl) (by kernel_rfl) (by kernel_rfl) (fun _ _ _ h => h) (Or.inl ⟨by rfl, ?_⟩) (by assumption) ?_
         rotate_left
         (intro w hSw
          (try dsimp only at hSw)
          (go_simp <;> with_reducible rfl)))
    try simp only [Act.put, List.getElem_toArray, List.getElem_cons_zero, List.getElem_cons_succ, List.setIfInBounds_toArray, List.set_cons_zero, List.set_cons_succ]
    first
      | (refine wpAnyH_take (i := 1) (v := undef) rfl (by kernel_rfl) (by kernel_rfl) (by kernel_rfl) (fun _ _ _ h => h) (Or.inr ⟨by rfl, rfl⟩) (by assumption) ?_)
      | (refine wpAnyH_take (i := 1) (v := ?_) rfl (by kernel_rfl) (by kernel_rfl) (by kernel_rfl) (fun _ _ _ h => h) (Or.inl ⟨by rfl, ?_⟩) (by assumption) ?_
         rotate_left
         (intro w hSw
          (try dsimp only at hSw)
          (go_simp <;> with_reducible rfl)))
    try simp only [Act.put, List.getElem_toArray, List.getElem_cons_zero, List.getElem_cons_succ, List.setIfInBounds_toArray, List.set_cons_zero, List.set_cons_succ]
    first
      | (refine wpAnyH_take (i := 3) (v := undef) rfl (by kernel_rfl) (by kernel_rfl) (by kernel_rfl) (fun _ _ _ h => h) (Or.inr ⟨by rfl, rfl⟩) (by assumption) ?_)
      | (refine wpAnyH_take (i := 3) (v := ?_) rfl (by kernel_rfl) (by kernel_rfl) (by kernel_rfl) (fun _ _ _ h => h) (Or.inl ⟨by rfl, ?_⟩) (by assumption) ?_
         rotate_left
         (intro w hSw
          (try dsimp only at hSw)
          (go_simp <;> with_reducible rfl)))
    try simp only [Act.put, List.getElem_toArray, List.getElem_cons_zero, List.getElem_cons_succ, List.setIfInBounds_toArray, List.set_cons_zero, List.set_cons_succ]
    first
      | (refine wpAnyH_take (i := 4) (v := undef) rfl (by kernel_rfl) (by kernel_rfl) (by kernel_rfl) (fun _ _ _ h => h) (Or.inr ⟨by rfl, rfl⟩) (by assumption) ?_)
      | (refine wpAnyH_take (i := 4) (v := ?_) rfl (by kernel_rfl) (by kernel_rfl) (by kernel_rfl) (fun _ _ _ h => h) (Or.inl ⟨by rfl, ?_⟩) (by assumption) ?_
         rotate_left
         (intro w hSw
          (try dsimp only at hSw)
          (go_simp <;> with_reducible rfl)))
    try simp only [Act.put, List.getElem_toArray, List.getElem_cons_zero, List.getElem_cons_succ, List.setIfInBounds_toArray, List.set_cons_zero, List.set_cons_succ]
    refine wpAnyH_ready (rs := [2]) (by kernel_rfl) (by simp) ?_
    refine AllReadyH.cons (i := 2) (o := _) rfl (fun K hK => ?_) ?_
    rotate_left
    · exact AllReadyH.nil
    go_simp
    refine (rbs.out w8.drew (SB8.out.chg (Chg.refl (fun _ => False) w8).drew (fun _ _ h => h)) (SD8.out.chg (Chg.refl (fun _ => False) w8).drew (fun _ _ h => h))).mono ?_
    rintro e w9 ⟨rfl, g90⟩
    have g9 := (Chg.refl (fun _ => False) w8).drew.trans g90
    have SB9 := hide (SB8.out.chg g9 (fun _ _ h => h))
    have SD9 := hide (SD8.out.chg g9 (fun _ _ h => h))
    have BB9 := hide (g9.blk (fun h => h) BB8.out)
    have GW9 := hide (GW8.out.trans g9.none)
    have z09 := g9.cell (fun h => h) z08
    have z19 := g9.cell (fun h => h) z18
    have XS9 := hide (XS8.out.chg g9 (fun _ _ h => h))
    clear XS8
    clear g9 SB8 SD8 BB8 GW8 z08 z18
    clear g90 rbs
    go_simp
    refine hK.out _ _ ⟨z09, z19⟩ (fun hHeld => ?_)
    clear hK K
    try simp only [Act.put, List.getElem_toArray, List.getElem_cons_zero, List.getElem_cons_succ, List.setIfInBounds_toArray, List.set_cons_zero, List.set_cons_succ]
    refine wpAnyH_ready (rs := [5]) (by kernel_rfl) (by simp) ?_
    refine AllReadyH.cons (i := 5) (o := _) rfl (fun K hK => ?_) ?_
    rotate_left
    · exact AllReadyH.nil
    go_simp
    refine (rcs.out w9 SB9.out SD9.out).mono ?_
    rintro e w10 ⟨rfl, g10⟩
    have SB10 := hide (SB9.out.chg g10 (fun _ _ h => h))
    have SD10 := hide (SD9.out.chg g10 (fun _ _ h => h))
    have BB10 := hide (g10.blk (fun h => h) BB9.out)
    have GW10 := hide (GW9.out.trans g10.none)
    have z010 := g10.cell (fun h => h) z09
    have z110 := g10.cell (fun h => h) z19
    have XS10 := hide (XS9.out.chg g10 (fun _ _ h => h))
    clear XS9
    clear g10 SB9 SD9 BB9 GW9 z09 z19
    clear rcs
    go_simp
    refine hK.out _ _ ⟨z010, z110⟩ (fun hHeld => ?_)
    clear hK K
    try simp only [Act.put, List.getElem_toArray, List.getElem_cons_zero, List.getElem_cons_succ, List.setIfInBounds_toArray, List.set_cons_zero, List.set_cons_succ]
    first
      | (refine wpAnyH_take (i := 6) (v := undef) rfl (by kernel_rfl) (by kernel_rfl) (by kernel_rfl) (fun _ _ _ h => h) (Or.inr ⟨by rfl, rfl⟩) (by assumption) ?_)
      | (refine wpAnyH_take (i := 6) (v := ?_) rfl (by kernel_rfl) (by kernel_rfl) (by kernel_rfl) (fun _ _ _ h => h) (Or.inl ⟨by rfl, ?_⟩) (by assumption) ?_
         rotate_left
         (intro w hSw
          (try dsimp only at hSw)
          (go_simp <;> with_reducible rfl)))
    try simp only [Act.put, List.getElem_toArray, List.getElem_cons_zero, List.getElem_cons_succ, List.setIfInBounds_toArray, List.set_cons_zero, List.set_cons_succ]
    first
      | (refine wpAnyH_take (i := 7) (v := undef) rfl (by kernel_rfl) (by kernel_rfl) (by kernel_rfl) (fun _ _ _ h => h) (Or.inr ⟨by rfl, rfl⟩) (by assumption) ?_)
      | (refine wpAnyH_take (i := 7) (v := ?_) rfl (by kernel_rfl) (by kernel_rfl) (by kernel_rfl) (fun _ _ _ h => h) (Or.inl ⟨by rfl, ?_⟩) (by assumption) ?_
         rotate_left
         (intro w hSw
          (try dsimp only at hSw)
          (go_simp <;> with_reducible rfl)))
    try simp only [Act.put, List.getElem_toArray, List.getElem_cons_zero, List.getElem_cons_succ, List.setIfInBounds_toArray, List.set_cons_zero, List.set_cons_succ]
    refine wpAnyH_done (by kernel_rfl) ?_ _
    go_wp2_with fail
    refine (ty.out w10 (Nat.le_of_lt XS10.out.lt) XS10.out).mono ?_
    rintro e w11 ⟨⟨tv, rfl, ht⟩, g110⟩
    obtain ⟨ta, tc, rfl, _⟩ := id ht
    have HT := hide ht
    have HTL : Hid (w10.heap.size ≤ w11.heap.size) := hide g110.size
    have TX : Hid (M ≤ w10.heap.size ∧ xb < w10.heap.size) := hide ⟨by have := ML.out; have h1 := GW10.out.size; have h2 := XS10.out.lt; omega, XS10.out.lt⟩
    clear ht ty
    have G11 := g110.trans (al w11 (.cells #[.slice ta kk.len tc, .int .i64 kb] 30))
    have BT := hide (blk_new w11 (.cells #[.slice ta kk.len tc, .int .i64 kb] 30))
    have HT1 := hide ((HT.out.chg (al w11 (.cells #[.slice ta kk.len tc, .int .i64 kb] 30)) (fun _ _ h => h)))
    clear g110 HT
    have SB11 := hide (SB10.out.chg G11 (fun _ _ h => h))
    have SD11 := hide (SD10.out.chg G11 (fun _ _ h => h))
    have BB11 := hide (G11.blk (fun h => h) BB10.out)
    have GW11 := hide (GW10.out.trans G11.none)
    have z011 := G11.cell (fun h => h) z010
    have z111 := G11.cell (fun h => h) z110
    have XS11 := hide (XS10.out.chg G11 (fun _ _ h => h))
    clear XS10
    clear G11 SB10 SD10 BB10 GW10 z010 z110
    have t0 := blk_cell BT.out 0
    have t1 := blk_cell BT.out 1
    simp only [List.getElem?_toArray, List.getElem?_cons_zero, List.getElem?_cons_succ] at t0 t1
    go_wp2_with fail
    obtain ⟨A3, hA3⟩ : ∃ A3, w11.heap.size = A3 := ⟨_, rfl⟩
    rw [hA3] at t0 t1 BT HT1 HTL ⊢
    clear hA3
    generalize w11.alloc (.cells #[.slice ta kk.len tc, .int .i64 kb] 30) = w12 at *
    refine (nm.out w12 XS11.out).mono ?_
    rintro e w13 ⟨rfl, g13⟩
    have ea : (nn.toList == nn.toList) = true := by simp
    have t03 := g13.cell (fun h => h) t0
    have t13 := g13.cell (fun h => h) t1
    have HT3 := hide (HT1.out.chg g13 (fun _ _ h => h))
    have BT3 := hide (g13.blk (fun h => h) BT.out)
    have SB13 := hide (SB11.out.chg g13 (fun _ _ h => h))
    have SD13 := hide (SD11.out.chg g13 (fun _ _ h => h))
    have BB13 := hide (g13.blk (fun h => h) BB11.out)
    have GW13 := hide (GW11.out.trans g13.none)
    have z013 := g13.cell (fun h => h) z011
    have z113 := g13.cell (fun h => h) z111
    have XS13 := hide (XS11.out.chg g13 (fun _ _ h => h))
    clear XS11
    clear g13 SB11 SD11 BB11 GW11 z011 z111
    clear nm t0 t1 HT1 BT
    go_upto_region 11 with fail
    go_cut [130] (fun v wx => v = .bool false ∧ w13 = wx)
    case first =>
      as_aux_lemma =>
        rcases FV1.out with ⟨hp, e1⟩ | ⟨hp, e1⟩ <;> rcases FV2.out with ⟨hq, e2⟩ | ⟨hq, e2⟩ <;> injection e1 with e1a e1b <;> injection e2 with e2a e2b <;> subst e1a <;> subst e1b <;> subst e2a <;> subst e2b
        all_goals
          clear FV1 FV2
          go_wp2_with fail
          go_meet
          exact ⟨rfl, rfl⟩
    case rest =>
      obtain ⟨rfl, rfl⟩ := hcut
      clear FV1 FV2
      obtain ⟨R, hR⟩ : ∃ R : Bool, R = !decide (0 ≤ n ∧ n < (C.length : Int)) := ⟨_, rfl⟩
      have HR := hide hR
      clear hR hHeld
      go_upto_region 13 with fail
      go_cut [139] (fun v wx => v = .bool R ∧ w13 = wx)
      case first =>
        as_aux_lemma =>
          have HA : n < 0 ∨ (0 ≤ n ∧ n < (C.length : Int)) ∨ (0 ≤ n ∧ (C.length : Int) ≤ n) := by omega
          rcases HA with h | ⟨h1, h2⟩ | ⟨h1, h2⟩
          · have HE : Hid (true = R) := hide (by rw [HR.out]; simp; omega)
            go_wp2_with fail
            go_meet
            exact ⟨congrArg Value.bool HE.out, rfl⟩
          · have HE : Hid (false = R) := hide (by rw [HR.out]; simp; omega)
            have hn : ¬ n < 0 := by omega
            have hn2 : ¬ (C.length : Int) ≤ n := by omega
            go_wp2_with fail
            go_meet
            exact ⟨congrArg Value.bool HE.out, rfl⟩
          · have HE : Hid (true = R) := hide (by rw [HR.out]; simp; omega)
            have hn : ¬ n < 0 := by omega
            go_wp2_with fail
            go_meet
            exact ⟨congrArg Value.bool HE.out, rfl⟩
      case rest =>
        obtain ⟨rfl, rfl⟩ := hcut
        go_upto_if 139 with fail
        go_cut [8] (fun v wx => v = .bool false ∧ Hid (Chg (fun _ => False) w13 wx))
        case first =>
          as_aux_lemma =>
            cases R
            · skip
              have HI := hide (show (0 ≤ n ∧ n < (C.length : Int)) ∧ ((nn, kk, kb), er) = (C.getD n.toNat cn0, (0 : Int)) from by
                rcases hA.out with ⟨h1, h2, h⟩ | ⟨h1, -⟩
                · exact ⟨⟨h1, h2⟩, h⟩
                · exact absurd HR.out (by simp [h1]))
              clear hA HR
              obtain ⟨⟨hn0, hn1⟩, h1⟩ := HI.out
              clear HI
              injection h1 with h1 h2
              subst h2
              obtain ⟨k, rfl⟩ := Int.eq_ofNat_of_zero_le hn0
              have hk : k < C.length := by omega
              have hgd : C.getD (k : Int).toNat cn0 = C[k] := by simp [List.getD, hk]
              rw [hgd] at h1
              obtain ⟨cg, co, cu, rfl, hcg, d0, d1, ti, d2⟩ := SD13.out.cell hk
              have hz := hide (SD13.out.1 _ (List.getElem_mem hk)).2
              rw [← h1] at d0 d2 ti hz
              dsimp only at d0 d2 ti hz
              clear h1 hgd
              obtain ⟨ua, uc, rfl, _⟩ := id ti
              have TI := hide ti
              have AX : Hid (A3 < w13.heap.size) := hide (blk_lt BT3.out)
              have ML2 : Hid (M ≤ w13.heap.size) := hide (by have h1 := TX.out; have h2 := AX.out; have h3 := HTL.out; omega)
              clear ti
              go_wp2_with fail
              refine wp_region_held_drew (S := (fun w' => w'.cell? ⟨A2, 0, none⟩ = some (.slice ba N.length bc) ∧ w'.cell? ⟨A2, 1, none⟩ = some (.slice (some ⟨cg, co, none⟩) C.length cc2) ∧ w'.cell? ⟨cg, co + k * 3, none⟩ = some (.string nn) ∧ w'.cell? ⟨cg, co + k * 3 + 1, none⟩ = some (.slice ua kk.len uc) ∧ w'.cell? ⟨cg, co + k * 3 + 2, none⟩ = some (.int .i64 kb) ∧ w'.cell? ⟨A3, 0, none⟩ = some (.slice ta kk.len tc) ∧ w'.cell? ⟨A3, 1, none⟩ = some (.int .i64 kb))) (by kernel_rfl) (by go_keep) (fun hHeld => ?_)
              first
                | (refine wpAnyH_take (i := 0) (v := undef) rfl (by kernel_rfl) (by kernel_rfl) (by kernel_rfl) (fun _ _ _ h => h) (Or.inr ⟨by rfl, rfl⟩) (by assumption) ?_)
                | (refine wpAnyH_take (i := 0) (v := ?_) rfl (by kernel_rfl) (by kernel_rfl) (by kernel_rfl) (fun _ _ _ h => h) (Or.inl ⟨by rfl, ?_⟩) (by assumption) ?_
                   rotate_left
                   (intro w hSw
                    (try dsimp only at hSw)
                    (go_simp <;> with_reducible rfl)))
              try simp only [Act.put, List.getElem_toArray, List.getElem_cons_zero, List.getElem_cons_succ, List.setIfInBounds_toArray, List.set_cons_zero, List.set_cons_succ]
              first
                | (refine wpAnyH_take (i := 1) (v := undef) rfl (by kernel_rfl) (by kernel_rfl) (by kernel_rfl) (fun _ _ _ h => h) (Or.inr ⟨by rfl, rfl⟩) (by assumption) ?_)
                | (refine wpAnyH_take (i := 1) (v := ?_) rfl (by kernel_rfl) (by kernel_rfl) (by kernel_rfl) (fun _ _ _ h => h) (Or.inl ⟨by rfl, ?_⟩) (by assumption) ?_
                   rotate_left
                   (intro w hSw
                    (try dsimp only at hSw)
                    (go_simp <;> with_reducible rfl)))
              try simp only [Act.put, List.getElem_toArray, List.getElem_cons_zero, List.getElem_cons_succ, List.setIfInBounds_toArray, List.set_cons_zero, List.set_cons_succ]
              first
                | (refine wpAnyH_take (i := 2) (v := undef) rfl (by kernel_rfl) (by kernel_rfl) (by kernel_rfl) (fun _ _ _ h => h) (Or.inr ⟨by rfl, rfl⟩) (by assumption) ?_)
                | (refine wpAnyH_take (i := 2) (v := ?_) rfl (by kernel_rfl) (by kernel_rfl) (by kernel_rfl) (fun _ _ _ h => h) (Or.inl ⟨by rfl, ?_⟩) (by assumption) ?_
                   rotate_left
                   (intro w hSw
                    (try dsimp only at hSw)
                    (go_simp <;> with_reducible rfl)))
              try simp only [Act.put, List.getElem_toArray, List.getElem_cons_zero, List.getElem_cons_succ, List.setIfInBounds_toArray, List.set_cons_zero, List.set_cons_succ]
              first
                | (refine wpAnyH_take (i := 3) (v := undef) rfl (by kernel_rfl) (by kernel_rfl) (by kernel_rfl) (fun _ _ _ h => h) (Or.inr ⟨by rfl, rfl⟩) (by assumption) ?_)
                | (refine wpAnyH_take (i := 3) (v := ?_) rfl (by kernel_rfl) (by kernel_rfl) (by kernel_rfl) (fun _ _ _ h => h) (Or.inl ⟨by rfl, ?_⟩) (by assumption) ?_
                   rotate_left
                   (intro w hSw
                    (try dsimp only at hSw)
                    (go_simp <;> with_reducible rfl)))
              try simp only [Act.put, List.getElem_toArray, List.getElem_cons_zero, List.getElem_cons_succ, List.setIfInBounds_toArray, List.set_cons_zero, List.set_cons_succ]
              first
                | (refine wpAnyH_take (i := 4) (v := undef) rfl (by kernel_rfl) (by kernel_rfl) (by kernel_rfl) (fun _ _ _ h => h) (Or.inr ⟨by rfl, rfl⟩) (by assumption) ?_)
                | (refine wpAnyH_take (i := 4) (v := ?_) rfl (by kernel_rfl) (by kernel_rfl) (by kernel_rfl) (fun _ _ _ h => h) (Or.inl ⟨by rfl, ?_⟩) (by assumption) ?_
                   rotate_left
                   (intro w hSw
                    (try dsimp only at hSw)
                    (go_simp <;> with_reducible rfl)))
              try simp only [Act.put, List.getElem_toArray, List.getElem_cons_zero, List.getElem_cons_succ, List.setIfInBounds_toArray, List.set_cons_zero, List.set_cons_succ]
              first
                | (refine wpAnyH_take (i := 5) (v := undef) rfl (by kernel_rfl) (by kernel_rfl) (by kernel_rfl) (fun _ _ _ h => h) (Or.inr ⟨by rfl, rfl⟩) (by assumption) ?_)
                | (refine wpAnyH_take (i := 5) (v := ?_) rfl (by kernel_rfl) (by kernel_rfl) (by kernel_rfl) (fun _ _ _ h => h) (Or.inl ⟨by rfl, ?_⟩) (by assumption) ?_
                   rotate_left
                   (intro w hSw
                    (try dsimp only at hSw)
                    (go_simp <;> with_reducible rfl)))
              try simp only [Act.put, List.getElem_toArray, List.getElem_cons_zero, List.getElem_cons_succ, List.setIfInBounds_toArray, List.set_cons_zero, List.set_cons_succ]
              first
                | (refine wpAnyH_take (i := 6) (v := undef) rfl (by kernel_rfl) (by kernel_rfl) (by kernel_rfl) (fun _ _ _ h => h) (Or.inr ⟨by rfl, rfl⟩) (by assumption) ?_)
                | (refine wpAnyH_take (i := 6) (v := ?_) rfl (by kernel_rfl) (by kernel_rfl) (by kernel_rfl) (fun _ _ _ h => h) (Or.inl ⟨by rfl, ?_⟩) (by assumption) ?_
                   rotate_left
                   (intro w hSw
                    (try dsimp only at hSw)
                    (go_simp <;> with_reducible rfl)))
              try simp only [Act.put, List.getElem_toArray, List.getElem_cons_zero, List.getElem_cons_succ, List.setIfInBounds_toArray, List.set_cons_zero, List.set_cons_succ]
              first
                | (refine wpAnyH_take (i := 7) (v := undef) rfl (by kernel_rfl) (by kernel_rfl) (by kernel_rfl) (fun _ _ _ h => h) (Or.inr ⟨by rfl, rfl⟩) (by assumption) ?_)
                | (refine wpAnyH_take (i := 7) (v := ?_) rfl (by kernel_rfl) (by kernel_rfl) (by kernel_rfl) (fun _ _ _ h => h) (Or.inl ⟨by rfl, ?_⟩) (by assumption) ?_
                   rotate_left
                   (intro w hSw
                    (try dsimp only at hSw)
                    (go_simp <;> with_reducible rfl)))
              try simp only [Act.put, List.getElem_toArray, List.getElem_cons_zero, List.getElem_cons_succ, List.setIfInBounds_toArray, List.set_cons_zero, List.set_cons_succ]
              first
                | (refine wpAnyH_take (i := 8) (v := undef) rfl (by kernel_rfl) (by kernel_rfl) (by kernel_rfl) (fun _ _ _ h => h) (Or.inr ⟨by rfl, rfl⟩) (by assumption) ?_)
                | (refine wpAnyH_take (i := 8) (v := ?_) rfl (by kernel_rfl) (by kernel_rfl) (by kernel_rfl) (fun _ _ _ h => h) (Or.inl ⟨by rfl, ?_⟩) (by assumption) ?_
                   rotate_left
                   (intro w hSw
                    (try dsimp only at hSw)
                    (go_simp <;> with_reducible rfl)))
              try simp only [Act.put, List.getElem_toArray, List.getElem_cons_zero, List.getElem_cons_succ, List.setIfInBounds_toArray, List.set_cons_zero, List.set_cons_succ]
              first
                | (refine wpAnyH_take (i := 9) (v := undef) rfl (by kernel_rfl) (by kernel_rfl) (by kernel_rfl) (fun _ _ _ h => h) (Or.inr ⟨by rfl, rfl⟩) (by assumption) ?_)
                | (refine wpAnyH_take (i := 9) (v := ?_) rfl (by kernel_rfl) (by kernel_rfl) (by kernel_rfl) (fun _ _ _ h => h) (Or.inl ⟨by rfl, ?_⟩) (by assumption) ?_
                   rotate_left
                   (intro w hSw
                    (try dsimp only at hSw)
                    (go_simp <;> with_reducible rfl)))
              try simp only [Act.put, List.getElem_toArray, List.getElem_cons_zero, List.getElem_cons_succ, List.setIfInBounds_toArray, List.set_cons_zero, List.set_cons_succ]
              first
                | (refine wpAnyH_take (i := 10) (v := undef) rfl (by kernel_rfl) (by kernel_rfl) (by kernel_rfl) (fun _ _ _ h => h) (Or.inr ⟨by rfl, rfl⟩) (by assumption) ?_)
                | (refine wpAnyH_take (i := 10) (v := ?_) rfl (by kernel_rfl) (by kernel_rfl) (by kernel_rfl) (fun _ _ _ h => h) (Or.inl ⟨by rfl, ?_⟩) (by assumption) ?_
                   rotate_left
                   (intro w hSw
                    (try dsimp only at hSw)
                    (go_simp <;> with_reducible rfl)))
              try simp only [Act.put, List.getElem_toArray, List.getElem_cons_zero, List.getElem_cons_succ, List.setIfInBounds_toArray, List.set_cons_zero, List.set_cons_succ]
              first
                | (refine wpAnyH_take (i := 11) (v := undef) rfl (by kernel_rfl) (by kernel_rfl) (by kernel_rfl) (fun _ _ _ h => h) (Or.inr ⟨by rfl, rfl⟩) (by assumption) ?_)
                | (refine wpAnyH_take (i := 11) (v := ?_) rfl (by kernel_rfl) (by kernel_rfl) (by kernel_rfl) (fun _ _ _ h => h) (Or.inl ⟨by rfl, ?_⟩) (by assumption) ?_
                   rotate_left
                   (intro w hSw
                    (try dsimp only at hSw)
                    (go_simp <;> with_reducible rfl)))
              try simp only [Act.put, List.getElem_toArray, List.getElem_cons_zero, List.getElem_cons_succ, List.setIfInBounds_toArray, List.set_cons_zero, List.set_cons_succ]
              first
                | (refine wpAnyH_take (i := 12) (v := undef) rfl (by kernel_rfl) (by kernel_rfl) (by kernel_rfl) (fun _ _ _ h => h) (Or.inr ⟨by rfl, rfl⟩) (by assumption) ?_)
                | (refine wpAnyH_take (i := 12) (v := ?_) rfl (by kernel_rfl) (by kernel_rfl) (by kernel_rfl) (fun _ _ _ h => h) (Or.inl ⟨by rfl, ?_⟩) (by assumption) ?_
                   rotate_left
                   (intro w hSw
                    (try dsimp only at hSw)
                    (go_simp <;> with_reducible rfl)))
              try simp only [Act.put, List.getElem_toArray, List.getElem_cons_zero, List.getElem_cons_succ, List.setIfInBounds_toArray, List.set_cons_zero, List.set_cons_succ]
              first
                | (refine wpAnyH_take (i := 13) (v := undef) rfl (by kernel_rfl) (by kernel_rfl) (by kernel_rfl) (fun _ _ _ h => h) (Or.inr ⟨by rfl, rfl⟩) (by assumption) ?_)
                | (refine wpAnyH_take (i := 13) (v := ?_) rfl (by kernel_rfl) (by kernel_rfl) (by kernel_rfl) (fun _ _ _ h => h) (Or.inl ⟨by rfl, ?_⟩) (by assumption) ?_
                   rotate_left
                   (intro w hSw
                    (try dsimp only at hSw)
                    (go_simp <;> with_reducible rfl)))
              try simp only [Act.put, List.getElem_toArray, List.getElem_cons_zero, List.getElem_cons_succ, List.setIfInBounds_toArray, List.set_cons_zero, List.set_cons_succ]
              first
                | (refine wpAnyH_take (i := 14) (v := undef) rfl (by kernel_rfl) (by kernel_rfl) (by kernel_rfl) (fun _ _ _ h => h) (Or.inr ⟨by rfl, rfl⟩) (by assumption) ?_)
                | (refine wpAnyH_take (i := 14) (v := ?_) rfl (by kernel_rfl) (by kernel_rfl) (by kernel_rfl) (fun _ _ _ h => h) (Or.inl ⟨by rfl, ?_⟩) (by assumption) ?_
                   rotate_left
                   (intro w hSw
                    (try dsimp only at hSw)
                    (go_simp <;> with_reducible rfl)))
              try simp only [Act.put, List.getElem_toArray, List.getElem_cons_zero, List.getElem_cons_succ, List.setIfInBounds_toArray, List.set_cons_zero, List.set_cons_succ]
              first
                | (refine wpAnyH_take (i := 15) (v := undef) rfl (by kernel_rfl) (by kernel_rfl) (by kernel_rfl) (fun _ _ _ h => h) (Or.inr ⟨by rfl, rfl⟩) (by assumption) ?_)
                | (refine wpAnyH_take (i := 15) (v := ?_) rfl (by kernel_rfl) (by kernel_rfl) (by kernel_rfl) (fun _ _ _ h => h) (Or.inl ⟨by rfl, ?_⟩) (by assumption) ?_
                   rotate_left
                   (intro w hSw
                    (try dsimp only at hSw)
                    (go_simp <;> with_reducible rfl)))
              try simp only [Act.put, List.getElem_toArray, List.getElem_cons_zero, List.getElem_cons_succ, List.setIfInBounds_toArray, List.set_cons_zero, List.set_cons_succ]
              first
                | (refine wpAnyH_take (i := 16) (v := undef) rfl (by kernel_rfl) (by kernel_rfl) (by kernel_rfl) (fun _ _ _ h => h) (Or.inr ⟨by rfl, rfl⟩) (by assumption) ?_)
                | (refine wpAnyH_take (i := 16) (v := ?_) rfl (by kernel_rfl) (by kernel_rfl) (by kernel_rfl) (fun _ _ _ h => h) (Or.inl ⟨by rfl, ?_⟩) (by assumption) ?_
                   rotate_left
                   (intro w hSw
                    (try dsimp only at hSw)
                    (go_simp <;> with_reducible rfl)))
              try simp only [Act.put, List.getElem_toArray, List.getElem_cons_zero, List.getElem_cons_succ, List.setIfInBounds_toArray, List.set_cons_zero, List.set_cons_succ]
              first
                | (refine wpAnyH_take (i := 17) (v := undef) rfl (by kernel_rfl) (by kernel_rfl) (by kernel_rfl) (fun _ _ _ h => h) (Or.inr ⟨by rfl, rfl⟩) (by assumption) ?_)
                | (refine wpAnyH_take (i := 17) (v := ?_) rfl (by kernel_rfl) (by kernel_rfl) (by kernel_rfl) (fun _ _ _ h => h) (Or.inl ⟨by rfl, ?_⟩) (by assumption) ?_
                   rotate_left
                   (intro w hSw
                    (try dsimp only at hSw)
                    (go_simp <;> with_reducible rfl)))
              try simp only [Act.put, List.getElem_toArray, List.getElem_cons_zero, List.getElem_cons_succ, List.setIfInBounds_toArray, List.set_cons_zero, List.set_cons_succ]
              first
                | (refine wpAnyH_take (i := 19) (v := undef) rfl (by kernel_rfl) (by kernel_rfl) (by kernel_rfl) (fun _ _ _ h => h) (Or.inr ⟨by rfl, rfl⟩) (by assumption) ?_)
                | (refine wpAnyH_take (i := 19) (v := ?_) rfl (by kernel_rfl) (by kernel_rfl) (by kernel_rfl) (fun _ _ _ h => h) (Or.inl ⟨by rfl, ?_⟩) (by assumption) ?_
                   rotate_left
                   (intro w hSw
                    (try dsimp only at hSw)
                    (go_simp <;> with_reducible rfl)))
              try simp only [Act.put, List.getElem_toArray, List.getElem_cons_zero, List.getElem_cons_succ, List.setIfInBounds_toArray, List.set_cons_zero, List.set_cons_succ]
              first
                | (refine wpAnyH_take (i := 20) (v := undef) rfl (by kernel_rfl) (by kernel_rfl) (by kernel_rfl) (fun _ _ _ h => h) (Or.inr ⟨by rfl, rfl⟩) (by assumption) ?_)
                | (refine wpAnyH_take (i := 20) (v := ?_) rfl (by kernel_rfl) (by kernel_rfl) (by kernel_rfl) (fun _ _ _ h => h) (Or.inl ⟨by rfl, ?_⟩) (by assumption) ?_
                   rotate_left
                   (intro w hSw
                    (try dsimp only at hSw)
                    (go_simp <;> with_reducible rfl)))
              try simp only [Act.put, List.getElem_toArray, List.getElem_cons_zero, List.getElem_cons_succ, List.setIfInBounds_toArray, List.set_cons_zero, List.set_cons_succ]
              first
                | (refine wpAnyH_take (i := 21) (v := undef) rfl (by kernel_rfl) (by kernel_rfl) (by kernel_rfl) (fun _ _ _ h => h) (Or.inr ⟨by rfl, rfl⟩) (by assumption) ?_)
                | (refine wpAnyH_take (i := 21) (v := ?_) rfl (by kernel_rfl) (by kernel_rfl) (by kernel_rfl) (fun _ _ _ h => h) (Or.inl ⟨by rfl, ?_⟩) (by assumption) ?_
                   rotate_left
                   (intro w hSw
                    (try dsimp only at hSw)
                    (go_simp <;> with_reducible rfl)))
              try simp only [Act.put, List.getElem_toArray, List.getElem_cons_zero, List.getElem_cons_succ, List.setIfInBounds_toArray, List.set_cons_zero, List.set_cons_succ]
              first
                | (refine wpAnyH_take (i := 22) (v := undef) rfl (by kernel_rfl) (by kernel_rfl) (by kernel_rfl) (fun _ _ _ h => h) (Or.inr ⟨by rfl, rfl⟩) (by assumption) ?_)
                | (refine wpAnyH_take (i := 22) (v := ?_) rfl (by kernel_rfl) (by kernel_rfl) (by kernel_rfl) (fun _ _ _ h => h) (Or.inl ⟨by rfl, ?_⟩) (by assumption) ?_
                   rotate_left
                   (intro w hSw
                    (try dsimp only at hSw)
                    (go_simp <;> with_reducible rfl)))
              try simp only [Act.put, List.getElem_toArray, List.getElem_cons_zero, List.getElem_cons_succ, List.setIfInBounds_toArray, List.set_cons_zero, List.set_cons_succ]
              first
                | (refine wpAnyH_take (i := 23) (v := undef) rfl (by kernel_rfl) (by kernel_rfl) (by kernel_rfl) (fun _ _ _ h => h) (Or.inr ⟨by rfl, rfl⟩) (by assumption) ?_)
                | (refine wpAnyH_take (i := 23) (v := ?_) rfl (by kernel_rfl) (by kernel_rfl) (by kernel_rfl) (fun _ _ _ h => h) (Or.inl ⟨by rfl, ?_⟩) (by assumption) ?_
                   rotate_left
                   (intro w hSw
                    (try dsimp only at hSw)
                    (go_simp <;> with_reducible rfl)))
              try simp only [Act.put, List.getElem_toArray, List.getElem_cons_zero, List.getElem_cons_succ, List.setIfInBounds_toArray, List.set_cons_zero, List.set_cons_succ]
              first
                | (refine wpAnyH_take (i := 24) (v := undef) rfl (by kernel_rfl) (by kernel_rfl) (by kernel_rfl) (fun _ _ _ h => h) (Or.inr ⟨by rfl, rfl⟩) (by assumption) ?_)
                | (refine wpAnyH_take (i := 24) (v := ?_) rfl (by kernel_rfl) (by kernel_rfl) (by kernel_rfl) (fun _ _ _ h => h) (Or.inl ⟨by rfl, ?_⟩) (by assumption) ?_
                   rotate_left
                   (intro w hSw
                    (try dsimp only at hSw)
                    (go_simp <;> with_reducible rfl)))
              try simp only [Act.put, List.getElem_toArray, List.getElem_cons_zero, List.getElem_cons_succ, List.setIfInBounds_toArray, List.set_cons_zero, List.set_cons_succ]
              refine wpAnyH_ready (rs := [18]) (by kernel_rfl) (by simp) ?_
              refine AllReadyH.cons (i := 18) (o := _) rfl (fun K hK => ?_) ?_
              rotate_left
              · exact AllReadyH.nil
              go_simp
              refine (of04_any kk (by have := hz.out; omega) (.slice ta kk.len tc) kb (fun x => w10.heap.size ≤ x ∧ x < A3) w13.drew (fun x hx => Nat.lt_trans hx.2 AX.out) (HT3.out.chg (Chg.refl (fun _ => False) w13).drew (fun _ _ h => h))).mono ?_
              rintro e w14 ⟨⟨ov, rfl, ht4⟩, g140⟩
              obtain ⟨oa, oc, rfl, _⟩ := id ht4
              have G14 := hide ((Chg.refl (fun _ => False) w13).drew.trans g140)
              have TO4 := hide (ht4.up (Y := fun x => x < w14.heap.size) (fun x hx => hx.2))
              have TI4 := hide ((TI.out.chg G14.out (fun _ _ h => h)).up (Y := fun x => x < w14.heap.size) (fun x hx => by have h1 := ML2.out; have h2 := G14.out.size; omega))
              clear ht4 g140
              go_simp
              refine hK.out _ _ ⟨G14.out.cell (fun h => h) z013, G14.out.cell (fun h => h) z113, G14.out.cell (fun h => h) d0, G14.out.cell (fun h => h) d1, G14.out.cell (fun h => h) d2, G14.out.cell (fun h => h) t03, G14.out.cell (fun h => h) t13⟩ (fun hHeld => ?_)
              clear hK K
              try simp only [Act.put, List.getElem_toArray, List.getElem_cons_zero, List.getElem_cons_succ, List.setIfInBounds_toArray, List.set_cons_zero, List.set_cons_succ]
              refine wpAnyH_ready (rs := [25]) (by kernel_rfl) (by simp) ?_
              refine AllReadyH.cons (i := 25) (o := _) rfl (fun K hK => ?_) ?_
              rotate_left
              · exact AllReadyH.nil
              go_simp
              refine (same_any kk (by have := hz.out; omega) (.slice oa kk.len oc) (.slice ua kk.len uc) kb (fun x => x < w14.heap.size) w14 (fun x hx => hx) TO4.out TI4.out).mono ?_
              rintro e w15 ⟨rfl, g15⟩
              have G15 := hide (G14.out.trans g15)
              clear g15
              go_simp
              refine hK.out _ _ ⟨G15.out.cell (fun h => h) z013, G15.out.cell (fun h => h) z113, G15.out.cell (fun h => h) d0, G15.out.cell (fun h => h) d1, G15.out.cell (fun h => h) d2, G15.out.cell (fun h => h) t03, G15.out.cell (fun h => h) t13⟩ (fun hHeld => ?_)
              clear hK K
              try simp only [Act.put, List.getElem_toArray, List.getElem_cons_zero, List.getElem_cons_succ, List.setIfInBounds_toArray, List.set_cons_zero, List.set_cons_succ]
              first
                | (refine wpAnyH_take (i := 26) (v := undef) rfl (by kernel_rfl) (by kernel_rfl) (by kernel_rfl) (fun _ _ _ h => h) (Or.inr ⟨by rfl, rfl⟩) (by assumption) ?_)
                | (refine wpAnyH_take (i := 26) (v := ?_) rfl (by kernel_rfl) (by kernel_rfl) (by kernel_rfl) (fun _ _ _ h => h) (Or.inl ⟨by rfl, ?_⟩) (by assumption) ?_
                   rotate_left
                   (intro w hSw
                    (try dsimp only at hSw)
                    (go_simp <;> with_reducible rfl)))
              try simp only [Act.put, List.getElem_toArray, List.getElem_cons_zero, List.getElem_cons_succ, List.setIfInBounds_toArray, List.set_cons_zero, List.set_cons_succ]
              first
                | (refine wpAnyH_take (i := 27) (v := undef) rfl (by kernel_rfl) (by kernel_rfl) (by kernel_rfl) (fun _ _ _ h => h) (Or.inr ⟨by rfl, rfl⟩) (by assumption) ?_)
                | (refine wpAnyH_take (i := 27) (v := ?_) rfl (by kernel_rfl) (by kernel_rfl) (by kernel_rfl) (fun _ _ _ h => h) (Or.inl ⟨by rfl, ?_⟩) (by assumption) ?_
                   rotate_left
                   (intro w hSw
                    (try dsimp only at hSw)
                    (go_simp <;> with_reducible rfl)))
              try simp only [Act.put, List.getElem_toArray, List.getElem_cons_zero, List.getElem_cons_succ, List.setIfInBounds_toArray, List.set_cons_zero, List.set_cons_succ]
              refine wpAnyH_done (by kernel_rfl) ?_ _
              go_wp2_with fail
              go_meet
              exact ⟨rfl, G15⟩
            · have HO := hide (show ((nn, kk, kb), er) = (cn0, (10 : Int)) from by
                rcases hA.out with ⟨h1, h2, -⟩ | ⟨-, h⟩
                · exact absurd HR.out (by simp [h1, h2])
                · exact h)
              have h1 := HO.out
              clear HO hA HR
              injection h1 with h1 h2
              injection h1 with h3 h4
              subst h2
              subst h3
              clear h4
              go_wp2_with fail
              go_meet
              exact ⟨rfl, hide (Chg.refl _ _)⟩
        case rest =>
          obtain ⟨rfl, hc14⟩ := hcut
          clear HR hA t03 t13 HT3
          generalize wc = w14 at *
          have g14 := hc14.out
          clear hc14
          have SB14 := hide (SB13.out.chg g14 (fun _ _ h => h))
          have SD14 := hide (SD13.out.chg g14 (fun _ _ h => h))
          have BB14 := hide (g14.blk (fun h => h) BB13.out)
          have GW14 := hide (GW13.out.trans g14.none)
          have z014 := g14.cell (fun h => h) z013
          have z114 := g14.cell (fun h => h) z113
          have XS14 := hide (XS13.out.chg g14 (fun _ _ h => h))
          clear XS13
          clear g14 SB13 SD13 BB13 GW13 z013 z113
          go_wp2_with fail
          refine (types_any xb L N C (by omega) (by omega) w14 XS14.out).mono ?_
          rintro e w15 ⟨⟨lv, rfl, hl⟩, g15⟩
          obtain ⟨la, lc, rfl, _⟩ := id hl
          have hll : (tysF C).len = C.length := by rw [← Fs.toL_len, tysF_len]
          rw [hll] at hl ⊢
          have HL := hide (hl.up (Y := fun x => x < w15.heap.size) (fun x hx => hx.2))
          clear hl hll
          have SB15 := hide (SB14.out.chg g15 (fun _ _ h => h))
          have SD15 := hide (SD14.out.chg g15 (fun _ _ h => h))
          have BB15 := hide (g15.blk (fun h => h) BB14.out)
          have GW15 := hide (GW14.out.trans g15.none)
          have z015 := g15.cell (fun h => h) z014
          have z115 := g15.cell (fun h => h) z114
          have XS15 := hide (XS14.out.chg g15 (fun _ _ h => h))
          clear XS14
          clear g15 SB14 SD14 BB14 GW14 z014 z114
          have ML5 : Hid (M ≤ w15.heap.size) := hide (by have h1 := XS15.out.lt; have h2 := ML.out; omega)
          go_upto_block 0 with fail
          go_cut [24] (fun v wx => Hid (Chg (fun _ => False) w15 wx))
          case first =>
            as_aux_lemma =>
              go_wp2_with fail
              go_loopw [24] (fun iv wr => ∃ i : Nat, i ≤ C.length ∧ iv = .int .i64 i ∧ Hid (Chg (fun _ => False) w15 wr)) (fun iv _ => C.length - (intOf iv).toNat)
              case atStart => exact ⟨0, Nat.zero_le _, rfl, hide (Chg.refl _ _)⟩
              case round =>
                obtain ⟨i, hi, rfl, hC⟩ := hrel
                by_cases hlt : i < C.length
                · have i1 : (0 : Int) ≤ (i : Int) := by omega
                  have i2 : (i : Int) < (C.length : Int) := by omega
                  obtain ⟨lg, lo, tu, tc2, rfl, e0, e1, e2⟩ := tys_cell HL.out hlt
                  obtain ⟨cg, co, cu, rfl, hcg, d0, d1, ti, d2⟩ := SD15.out.cell hlt
                  have hz := hide (SD15.out.1 _ (List.getElem_mem hlt)).2
                  have E1 := hide (e1.chg hC.out (fun _ _ h => h))
                  have TI := hide (ti.chg hC.out (fun _ _ h => h))
                  have e0 := hC.out.cell (fun h => h) e0
                  have e2 := hC.out.cell (fun h => h) e2
                  have d0 := hC.out.cell (fun h => h) d0
                  have d1 := hC.out.cell (fun h => h) d1
                  have d2 := hC.out.cell (fun h => h) d2
                  have zz0 := hC.out.cell (fun h => h) z015
                  have zz1 := hC.out.cell (fun h => h) z115
                  clear e1 ti
                  generalize C[i] = c at *
                  obtain ⟨nm, kk, kb⟩ := c
                  dsimp only at hz E1 TI e0 e2 d0 d1 d2
                  obtain ⟨ua, uc, rfl, _⟩ := id TI.out
                  go_wp2_with fail
                  refine wp_region_held_drew (S := (fun w' => w'.cell? ⟨A2, 0, none⟩ = some (.slice ba N.length bc) ∧ w'.cell? ⟨A2, 1, none⟩ = some (.slice (some ⟨cg, co, none⟩) C.length cc2) ∧ w'.cell? ⟨lg, lo + i * 2, none⟩ = some (.slice tu kk.len tc2) ∧ w'.cell? ⟨lg, lo + i * 2 + 1, none⟩ = some (.int .i64 kb) ∧ w'.cell? ⟨cg, co + i * 3, none⟩ = some (.string nm) ∧ w'.cell? ⟨cg, co + i * 3 + 1, none⟩ = some (.slice ua kk.len uc) ∧ w'.cell? ⟨cg, co + i * 3 + 2, none⟩ = some (.int .i64 kb))) (by kernel_rfl) (by go_keep) (fun hHeld => ?_)
                  first
                    | (refine wpAnyH_take (i := 0) (v := undef) rfl (by kernel_rfl) (by kernel_rfl) (by kernel_rfl) (fun _ _ _ h => h) (Or.inr ⟨by rfl, rfl⟩) (by assumption) ?_)
                    | (refine wpAnyH_take (i := 0) (v := ?_) rfl (by kernel_rfl) (by kernel_rfl) (by kernel_rfl) (fun _ _ _ h => h) (Or.inl ⟨by rfl, ?_⟩) (by assumption) ?_
                       rotate_left
                       (intro w hSw
                        (try dsimp only at hSw)
                        (go_simp <;> with_reducible rfl)))
                  try simp only [Act.put, List.getElem_toArray, List.getElem_cons_zero, List.getElem_cons_succ, List.setIfInBounds_toArray, List.set_cons_zero, List.set_cons_succ]
                  first
                    | (refine wpAnyH_take (i := 1) (v := undef) rfl (by kernel_rfl) (by kernel_rfl) (by kernel_rfl) (fun _ _ _ h => h) (Or.inr ⟨by rfl, rfl⟩) (by assumption) ?_)
                    | (refine wpAnyH_take (i := 1) (v := ?_) rfl (by kernel_rfl) (by kernel_rfl) (by kernel_rfl) (fun _ _ _ h => h) (Or.inl ⟨by rfl, ?_⟩) (by assumption) ?_
                       rotate_left
                       (intro w hSw
                        (try dsimp only at hSw)
                        (go_simp <;> with_reducible rfl)))
                  try simp only [Act.put, List.getElem_toArray, List.getElem_cons_zero, List.getElem_cons_succ, List.setIfInBounds_toArray, List.set_cons_zero, List.set_cons_succ]
                  first
                    | (refine wpAnyH_take (i := 2) (v := undef) rfl (by kernel_rfl) (by kernel_rfl) (by kernel_rfl) (fun _ _ _ h => h) (Or.inr ⟨by rfl, rfl⟩) (by assumption) ?_)
                    | (refine wpAnyH_take (i := 2) (v := ?_) rfl (by kernel_rfl) (by kernel_rfl) (by kernel_rfl) (fun _ _ _ h => h) (Or.inl ⟨by rfl, ?_⟩) (by assumption) ?_
                       rotate_left
                       (intro w hSw
                        (try dsimp only at hSw)
                        (go_simp <;> with_reducible rfl)))
                  try simp only [Act.put, List.getElem_toArray, List.getElem_cons_zero, List.getElem_cons_succ, List.setIfInBounds_toArray, List.set_cons_zero, List.set_cons_succ]
                  first
                    | (refine wpAnyH_take (i := 3) (v := undef) rfl (by kernel_rfl) (by kernel_rfl) (by kernel_rfl) (fun _ _ _ h => h) (Or.inr ⟨by rfl, rfl⟩) (by assumption) ?_)
                    | (refine wpAnyH_take (i := 3) (v := ?_) rfl (by kernel_rfl) (by kernel_rfl) (by kernel_rfl) (fun _ _ _ h => h) (Or.inl ⟨by rfl, ?_⟩) (by assumption) ?_
                       rotate_left
                       (intro w hSw
                        (try dsimp only at hSw)
                        (go_simp <;> with_reducible rfl)))
                  try simp only [Act.put, List.getElem_toArray, List.getElem_cons_zero, List.getElem_cons_succ, List.setIfInBounds_toArray, List.set_cons_zero, List.set_cons_succ]
                  first
                    | (refine wpAnyH_take (i := 5) (v := undef) rfl (by kernel_rfl) (by kernel_rfl) (by kernel_rfl) (fun _ _ _ h => h) (Or.inr ⟨by rfl, rfl⟩) (by assumption) ?_)
                    | (refine wpAnyH_take (i := 5) (v := ?_) rfl (by kernel_rfl) (by kernel_rfl) (by kernel_rfl) (fun _ _ _ h => h) (Or.inl ⟨by rfl, ?_⟩) (by assumption) ?_
                       rotate_left
                       (intro w hSw
                        (try dsimp only at hSw)
                        (go_simp <;> with_reducible rfl)))
                  try simp only [Act.put, List.getElem_toArray, List.getElem_cons_zero, List.getElem_cons_succ, List.setIfInBounds_toArray, List.set_cons_zero, List.set_cons_succ]
                  first
                    | (refine wpAnyH_take (i := 6) (v := undef) rfl (by kernel_rfl) (by kernel_rfl) (by kernel_rfl) (fun _ _ _ h => h) (Or.inr ⟨by rfl, rfl⟩) (by assumption) ?_)
                    | (refine wpAnyH_take (i := 6) (v := ?_) rfl (by kernel_rfl) (by kernel_rfl) (by kernel_rfl) (fun _ _ _ h => h) (Or.inl ⟨by rfl, ?_⟩) (by assumption) ?_
                       rotate_left
                       (intro w hSw
                        (try dsimp only at hSw)
                        (go_simp <;> with_reducible rfl)))
                  try simp only [Act.put, List.getElem_toArray, List.getElem_cons_zero, List.getElem_cons_succ, List.setIfInBounds_toArray, List.set_cons_zero, List.set_cons_succ]
                  first
                    | (refine wpAnyH_take (i := 7) (v := undef) rfl (by kernel_rfl) (by kernel_rfl) (by kernel_rfl) (fun _ _ _ h => h) (Or.inr ⟨by rfl, rfl⟩) (by assumption) ?_)
                    | (refine wpAnyH_take (i := 7) (v := ?_) rfl (by kernel_rfl) (by kernel_rfl) (by kernel_rfl) (fun _ _ _ h => h) (Or.inl ⟨by rfl, ?_⟩) (by assumption) ?_
                       rotate_left
                       (intro w hSw
                        (try dsimp only at hSw)
                        (go_simp <;> with_reducible rfl)))
                  try simp only [Act.put, List.getElem_toArray, List.getElem_cons_zero, List.getElem_cons_succ, List.setIfInBounds_toArray, List.set_cons_zero, List.set_cons_succ]
                  first
                    | (refine wpAnyH_take (i := 8) (v := undef) rfl (by kernel_rfl) (by kernel_rfl) (by kernel_rfl) (fun _ _ _ h => h) (Or.inr ⟨by rfl, rfl⟩) (by assumption) ?_)
                    | (refine wpAnyH_take (i := 8) (v := ?_) rfl (by kernel_rfl) (by kernel_rfl) (by kernel_rfl) (fun _ _ _ h => h) (Or.inl ⟨by rfl, ?_⟩) (by assumption) ?_
                       rotate_left
                       (intro w hSw
                        (try dsimp only at hSw)
                        (go_simp <;> with_reducible rfl)))
                  try simp only [Act.put, List.getElem_toArray, List.getElem_cons_zero, List.getElem_cons_succ, List.setIfInBounds_toArray, List.set_cons_zero, List.set_cons_succ]
                  first
                    | (refine wpAnyH_take (i := 9) (v := undef) rfl (by kernel_rfl) (by kernel_rfl) (by kernel_rfl) (fun _ _ _ h => h) (Or.inr ⟨by rfl, rfl⟩) (by assumption) ?_)
                    | (refine wpAnyH_take (i := 9) (v := ?_) rfl (by kernel_rfl) (by kernel_rfl) (by kernel_rfl) (fun _ _ _ h => h) (Or.inl ⟨by rfl, ?_⟩) (by assumption) ?_
                       rotate_left
                       (intro w hSw
                        (try dsimp only at hSw)
                        (go_simp <;> with_reducible rfl)))
                  try simp only [Act.put, List.getElem_toArray, List.getElem_cons_zero, List.getElem_cons_succ, List.setIfInBounds_toArray, List.set_cons_zero, List.set_cons_succ]
                  first
                    | (refine wpAnyH_take (i := 10) (v := undef) rfl (by kernel_rfl) (by kernel_rfl) (by kernel_rfl) (fun _ _ _ h => h) (Or.inr ⟨by rfl, rfl⟩) (by assumption) ?_)
                    | (refine wpAnyH_take (i := 10) (v := ?_) rfl (by kernel_rfl) (by kernel_rfl) (by kernel_rfl) (fun _ _ _ h => h) (Or.inl ⟨by rfl, ?_⟩) (by assumption) ?_
                       rotate_left
                       (intro w hSw
                        (try dsimp only at hSw)
                        (go_simp <;> with_reducible rfl)))
                  try simp only [Act.put, List.getElem_toArray, List.getElem_cons_zero, List.getElem_cons_succ, List.setIfInBounds_toArray, List.set_cons_zero, List.set_cons_succ]
                  refine wpAnyH_ready (rs := [4]) (by kernel_rfl) (by simp) ?_
                  refine AllReadyH.cons (i := 4) (o := _) rfl (fun K hK => ?_) ?_
                  rotate_left
                  · exact AllReadyH.nil
                  go_simp
                  refine (of04_any kk (by have := hz.out; omega) (.slice tu kk.len tc2) kb (fun x => x < w15.heap.size) wr.drew (fun x hx => Nat.lt_of_lt_of_le hx hC.out.size) (E1.out.chg (Chg.refl (fun _ => False) wr).drew (fun _ _ h => h))).mono ?_
                  rintro e w16 ⟨⟨ov, rfl, ht4⟩, g140⟩
                  obtain ⟨oa, oc, rfl, _⟩ := id ht4
                  have G16 := hide ((Chg.refl (fun _ => False) wr).drew.trans g140)
                  have TO4 := hide (ht4.up (Y := fun x => x < w16.heap.size) (fun x hx => hx.2))
                  have TI4 := hide ((TI.out.chg G16.out (fun _ _ h => h)).up (Y := fun x => x < w16.heap.size) (fun x hx => by have h1 := ML5.out; have h2 := G16.out.size; have h3 := hC.out.size; omega))
                  clear ht4 g140
                  go_simp
                  refine hK.out _ _ ⟨G16.out.cell (fun h => h) zz0, G16.out.cell (fun h => h) zz1, G16.out.cell (fun h => h) e0, G16.out.cell (fun h => h) e2, G16.out.cell (fun h => h) d0, G16.out.cell (fun h => h) d1, G16.out.cell (fun h => h) d2⟩ (fun hHeld => ?_)
                  clear hK K
                  try simp only [Act.put, List.getElem_toArray, List.getElem_cons_zero, List.getElem_cons_succ, List.setIfInBounds_toArray, List.set_cons_zero, List.set_cons_succ]
                  refine wpAnyH_ready (rs := [11]) (by kernel_rfl) (by simp) ?_
                  refine AllReadyH.cons (i := 11) (o := _) rfl (fun K hK => ?_) ?_
                  rotate_left
                  · exact AllReadyH.nil
                  go_simp
                  refine (same_any kk (by have := hz.out; omega) (.slice oa kk.len oc) (.slice ua kk.len uc) kb (fun x => x < w16.heap.size) w16 (fun x hx => hx) TO4.out TI4.out).mono ?_
                  rintro e w17 ⟨rfl, g15⟩
                  have G17 := hide (G16.out.trans g15)
                  clear g15
                  go_simp
                  refine hK.out _ _ ⟨G17.out.cell (fun h => h) zz0, G17.out.cell (fun h => h) zz1, G17.out.cell (fun h => h) e0, G17.out.cell (fun h => h) e2, G17.out.cell (fun h => h) d0, G17.out.cell (fun h => h) d1, G17.out.cell (fun h => h) d2⟩ (fun hHeld => ?_)
                  clear hK K
                  try simp only [Act.put, List.getElem_toArray, List.getElem_cons_zero, List.getElem_cons_succ, List.setIfInBounds_toArray, List.set_cons_zero, List.set_cons_succ]
                  first
                    | (refine wpAnyH_take (i := 12) (v := undef) rfl (by kernel_rfl) (by kernel_rfl) (by kernel_rfl) (fun _ _ _ h => h) (Or.inr ⟨by rfl, rfl⟩) (by assumption) ?_)
                    | (refine wpAnyH_take (i := 12) (v := ?_) rfl (by kernel_rfl) (by kernel_rfl) (by kernel_rfl) (fun _ _ _ h => h) (Or.inl ⟨by rfl, ?_⟩) (by assumption) ?_
                       rotate_left
                       (intro w hSw
                        (try dsimp only at hSw)
                        (go_simp <;> with_reducible rfl)))
                  try simp only [Act.put, List.getElem_toArray, List.getElem_cons_zero, List.getElem_cons_succ, List.setIfInBounds_toArray, List.set_cons_zero, List.set_cons_succ]
                  refine wpAnyH_done (by kernel_rfl) ?_ _
                  have CF := hide (hC.out.trans G17.out)
                  go_wp2_with fail
                  go_roundw
                  case rel => exact ⟨i + 1, by omega, by go_num, CF⟩
                  case measure => simp [intOf]; omega
                · have hif : i = C.length := by omega
                  have i2 : ¬ (i : Int) < (C.length : Int) := by omega
                  go_wp2_with fail
                  go_meet
                  exact hC
          case rest =>
            have g16 := hcut.out
            clear hcut HL ML5
            generalize wc = w16 at *
            have SB16 := hide (SB15.out.chg g16 (fun _ _ h => h))
            have SD16 := hide (SD15.out.chg g16 (fun _ _ h => h))
            have BB16 := hide (g16.blk (fun h => h) BB15.out)
            have GW16 := hide (GW15.out.trans g16.none)
            have z016 := g16.cell (fun h => h) z015
            have z116 := g16.cell (fun h => h) z115
            have XS16 := hide (XS15.out.chg g16 (fun _ _ h => h))
            clear XS15
            clear g16 SB15 SD15 BB15 GW15 z015 z115
            obtain ⟨oB, hoB⟩ : ∃ oB, isN N C o = oB := ⟨_, rfl⟩
            obtain ⟨sB, hsB⟩ : ∃ sB, isN N C s = sB := ⟨_, rfl⟩
            have HOB := hide hoB
            have HSB := hide hsB
            rw [hoB] at IO
            rw [hsB] at IS
            clear hoB hsB
            go_upto_region 26 with fail
            go_cut [25] (fun v wx => v = .bool oB ∧ Hid (Chg (fun _ => False) w16 wx))
            case first =>
              as_aux_lemma =>
                go_wp2_with fail
                refine (rbo.out w16 SB16.out SD16.out).mono ?_
                rintro e w17 ⟨rfl, g17⟩
                have G17 := hide g17
                clear g17
                by_cases hpo : 0 ≤ PO
                · have HE : Hid (true = oB) := hide (by rw [IO.out]; simp [hpo])
                  have z017 := G17.out.cell (fun h => h) z016
                  have z117 := G17.out.cell (fun h => h) z116
                  go_wp2_with fail
                  go_meet
                  exact ⟨congrArg Value.bool (by first | exact HE.out | exact IO.out.symm), G17⟩
                · have z017 := G17.out.cell (fun h => h) z016
                  have z117 := G17.out.cell (fun h => h) z116
                  go_wp2_with fail
                  refine (rco.out w17 (SB16.out.chg G17.out (fun _ _ h => h)) (SD16.out.chg G17.out (fun _ _ h => h))).mono ?_
                  rintro e w18 ⟨rfl, g18⟩
                  have G18 := hide (G17.out.trans g18)
                  clear g18
                  by_cases hqo : 0 ≤ QO
                  · have HE : Hid (true = oB) := hide (by rw [IO.out]; simp [hqo])
                    go_wp2_with fail
                    go_meet
                    exact ⟨congrArg Value.bool (by first | exact HE.out | exact IO.out.symm), G18⟩
                  · have HE : Hid (false = oB) := hide (by rw [IO.out]; simp [hqo, hpo])
                    go_wp2_with fail
                    go_meet
                    exact ⟨congrArg Value.bool (by first | exact HE.out | exact IO.out.symm), G18⟩
            case rest =>
              obtain ⟨rfl, hc17⟩ := hcut
              have g17 := hc17.out
              clear hc17 rbo rco IO
              generalize wc = w17 at *
              have SB17 := hide (SB16.out.chg g17 (fun _ _ h => h))
              have SD17 := hide (SD16.out.chg g17 (fun _ _ h => h))
              have BB17 := hide (g17.blk (fun h => h) BB16.out)
              have GW17 := hide (GW16.out.trans g17.none)
              have z017 := g17.cell (fun h => h) z016
              have z117 := g17.cell (fun h => h) z116
              have XS17 := hide (XS16.out.chg g17 (fun _ _ h => h))
              clear XS16
              clear g17 SB16 SD16 BB16 GW16 z016 z116
              go_wp2_with fail
              refine (known_any w17).mono ?_
              rintro e w18 ⟨rfl, g18⟩
              have SB18 := hide (SB17.out.chg g18 (fun _ _ h => h))
              have SD18 := hide (SD17.out.chg g18 (fun _ _ h => h))
              have BB18 := hide (g18.blk (fun h => h) BB17.out)
              have GW18 := hide (GW17.out.trans g18.none)
              have z018 := g18.cell (fun h => h) z017
              have z118 := g18.cell (fun h => h) z117
              have XS18 := hide (XS17.out.chg g18 (fun _ _ h => h))
              clear XS17
              clear g18 SB17 SD17 BB17 GW17 z017 z117
              have G19 := hide (al w18 (.cells #[.string s, .string o] 9))
              have hh := hide (has_any xb L N C (by omega) (by omega) (.slice (some ⟨w18.heap.size, 0, none⟩) 2 2) [s, o] (by simp) (fun x => x = w18.heap.size) (w18.alloc (.cells #[.string s, .string o] 9)) (fun x hx => by have := XS18.out.lt; omega) (two_rows w18 s o hs ho) (XS18.out.chg G19.out (fun _ _ h => h)))
              have hall : ([s, o] : List ByteArray).all (isN N C) = (sB && oB) := by simp [HSB.out, HOB.out]
              rw [hall] at hh
              clear hall
              go_wp2_with fail
              refine hh.out.mono ?_
              rintro e w20 ⟨rfl, hx20, g20⟩
              have XS20 := hide hx20
              have GW20 := hide ((GW18.out.trans G19.out.none).trans g20)
              clear hx20 g20 hh
              have h2 := hide (has_any xb L N C (by omega) (by omega) (.slice none 0 0) [] (by simp) (fun _ => False) w20 (fun x hx => hx.elim) (Strs.nil0 w20 _) XS20.out)
              have LAST : Hid (∀ w', Chg (fun x => x = xb) w20 w' → Chg (fun _ => False) W w') := hide (fun w' g => (GW20.out.trans g).mono (fun x hx e => by have := ML.out; omega))
              have hs2 : sB = (decide (0 ≤ P) || decide (0 ≤ Q)) := IS.out
              by_cases hp : 0 ≤ P
              · have e1 : sB = true := by rw [hs2]; simp [hp]
                clear hs2
                subst e1
                cases oB
                all_goals
                  go_wp2_with fail
                  refine h2.out.mono ?_
                  rintro e w21 ⟨rfl, -, g21⟩
                  have FIN := hide (LAST.out w21 g21)
                  clear g21
                  go_wp2_with fail
                  go_ret
                  exact ⟨rfl, FIN.out⟩
              · by_cases hq : 0 ≤ Q
                · have e1 : sB = true := by rw [hs2]; simp [hq]
                  clear hs2
                  subst e1
                  cases oB
                  all_goals
                    go_wp2_with fail
                    refine h2.out.mono ?_
                    rintro e w21 ⟨rfl, -, g21⟩
                    have FIN := hide (LAST.out w21 g21)
                    clear g21
                    go_wp2_with fail
                    go_ret
                    exact ⟨rfl, FIN.out⟩
                · have e1 : sB = false := by rw [hs2]; simp [hq, hp]
                  clear hs2
                  subst e1
                  cases oB
                  all_goals
                    go_wp2_with fail
                    refine h2.out.mono ?_
                    rintro e w21 ⟨rfl, -, g21⟩
                    have FIN := hide (LAST.out w21 g21)
                    clear g21
                    go_wp2_with fail
                    go_ret
                    exact ⟨rfl, FIN.out⟩
theorem finds_law (W : World) (hT : Tabs W) {v : Value} (t : TabIn) (ht : TabIs W v t) (s : ByteArray) (hs : s.size ≤ maxLen) (o : ByteArray) (ho : o.size ≤ maxLen) (n : Int) (hn : (Lit.int .i64 n).wf = true) : Calls Tryd.prog 6 #[v, .string s, .string o, .int .i64 n] W fun e W' => e = .returned (.bool true) ∧ Below W.heap.size W W' :=
  (finds_walk v t W ht s hs o ho n hn).mono fun e W' ⟨h, g⟩ => ⟨h, g.below (Nat.le_refl _) (fun _ h => h.elim)⟩
end Go.Proofs.YtdoohocdaacnaaaDoor
