/- Line: the list it gives is a row of its own. -/
import Derived.Test.YtdcpcemihpkkaaaLine
namespace Go.Proofs.Ytdcpcemihpkkaaa
open Go.RowKit Go.Maps
set_option linter.unusedVariables false
set_option linter.unusedSimpArgs false

set_option maxRecDepth 100000 in
set_option maxHeartbeats 16000000 in
theorem line_own (b n : Nat) (hn : n ≤ 1000) (ps : Pairs) (hps : ps.length ≤ 1000000) (hbd : Bd ps n) (mv sv : Value) (l : List Int) (hl : lineG n ps n (cntP (pairsF n ps n)) = some l) (w : World) (h : Rs w b n ps mv sv) :
    Calls Try.prog 19 #[.pointer (some ⟨b, 0, none⟩)] w fun e w' => (∃ v bo, e = .returned v ∧ b < bo ∧ IAcc w' bo v l) ∧ Rs w' b n ps mv sv ∧ Chg (fun x => x = b) w w' := by
  obtain ⟨i0, hi0, hz0, hz1, hz2⟩ := info_parts info3
  have lb := h.lt
  have H := hide h
  have ov := hide (over_some b n hn ps hps hbd mv sv w h)
  have un := hide (fun w' (y : Int) h => under_some b n hn ps hps hbd mv sv y w' h)
  have sm : Small 0 0 (cntP (pairsF n ps n)) := fun i => by
    have h1 := pairsF_len n ps n
    have h2 : n * n ≤ 1000 * 1000 := Nat.mul_le_mul hn hn
    have h3 := List.length_filter_le (fun p : Int × Int => p.2 == (i : Int)) (pairsF n ps n)
    unfold cntP
    omega
  obtain ⟨f0, hf0⟩ : ∃ f0, f0 = cntP (pairsF n ps n) := ⟨_, rfl⟩
  rw [← hf0] at ov hl sm
  have HL := hide hl
  have SM := hide sm
  clear h hl sm hf0
  go_enter Try.func19, Try.ntmps19
  go_wp2_with fail
  refine ov.out.mono ?_
  rintro e w2 ⟨⟨O, rfl, hO, n2⟩, r2, g2⟩
  have N2 := hide n2
  have R2 := hide r2
  have C2 := hide g2
  have bO : b < O := by omega
  have lO := n2.lt
  clear n2 r2 g2 ov H
  obtain ⟨bo, hbo⟩ : ∃ bo, bo = w2.heap.size := ⟨_, rfl⟩
  have oO : O < bo := by omega
  have HB : Hid (bo ≤ w2.heap.size) := hide (by omega)
  have HO : Hid (w.heap.size ≤ O) := hide hO
  clear hbo lO hO
  go_wp2_with fail
  go_loopw [12, 3] (fun iv ov wr => ∃ (k : Nat) (f : Nat → Int) (acc rest : List Int), k ≤ n ∧ iv = .int .i64 k ∧ Hid (IAcc wr bo ov acc) ∧ Hid (acc.length = k) ∧ Hid (Nums wr O n f) ∧ Hid (Small k 0 f) ∧ Hid (lineG n ps (n - k) f = some rest) ∧ Hid (acc ++ rest = l) ∧ Hid (Rs wr b n ps mv sv) ∧ Hid (Chg (fun x => x = b) w wr) ∧ Hid (bo ≤ wr.heap.size)) (fun iv _ _ => n - (intOf iv).toNat)
  case atStart => exact ⟨0, f0, [], l, Nat.zero_le _, rfl, ⟨rfl, Or.inl ⟨rfl, rfl⟩⟩, rfl, N2, SM, HL, rfl, R2, C2, HB⟩
  case round =>
    clear N2 R2 C2 HB SM HL
    obtain ⟨k, f, acc, rest, hk, rfl, hA, hAl, hN, hS, hG, hL, hR, hC, hZ⟩ := hrel
    by_cases hlt : k < n
    · have hg := hG.out
      obtain ⟨r, hr⟩ : ∃ r, n - k = r + 1 := ⟨n - k - 1, by omega⟩
      rw [hr] at hg
      simp only [lineG] at hg
      have ix := hide (index_any _ (listN n f) (by simp [listN]; omega) 0 (O + 1) wr hN.out.ints)
      cases hc : idxF (listN n f) 0 with
      | none => rw [hc] at hg; cases hg
      | some c =>
        rw [hc] at hg ix
        have hcn : c < n := by have := idxF_lt hc; simpa [listN] using this
        obtain ⟨rest2, hg2, rfl⟩ := Option.map_eq_some_iff.1 hg
        have hrk : n - (k + 1) = r := by omega
        have HG2 : Hid (lineG n ps (n - (k + 1)) (decF (up f c (-1)) (underF n ps (c : Int) n)) = some rest2) := hide (by rw [hrk]; exact hg2)
        have eix : idxI (some c) = (c : Int) := rfl
        rw [eix] at ix
        have q0 : (0 : Int) ≤ (c : Int) := by omega
        have q1 : (c : Int) < (n : Int) := by omega
        have x0 := hN.out.cell hcn
        have x1 := hN.out.free c
        clear hg hg2 hc hG eix hr hrk
        go_wp2_with fail
        refine ix.out.mono ?_
        rintro e w3 ⟨rfl, rfl⟩
        have n3 := hN.out.set c (-1)
        have g3 := Chg.set wr O c (.int .i64 (-1))
        have r3 := hN.out.rs hR.out bO g3
        have a3 : IAcc (wr.setCell ⟨O, c, none⟩ (.int .i64 (-1))) bo u3 acc := own_chg hA.out g3 (fun x hx e => by omega)
        have S3 := hide (small_one hS.out c)
        obtain ⟨w4, hw4⟩ : ∃ w4, wr.setCell ⟨O, c, none⟩ (.int .i64 (-1)) = w4 := ⟨_, rfl⟩
        rw [hw4] at n3 g3 r3 a3
        have C3 : Hid (Chg (fun x => x = b) w w4) := hide (by
          have h1 : Chg (fun x => x = b ∨ x = O) w w4 := (hC.out.mono (fun x _ h => Or.inl h)).trans (g3.mono (fun x _ h => Or.inr h))
          exact h1.mono (fun x hx h => by have := HO.out; omega))
        have Z3 : bo ≤ w4.heap.size := Nat.le_trans hZ.out g3.size
        have N3 := hide (n3.chg (al w4 (.cells #[.int .i64 (c : Int)] 3)) (fun h => h))
        have R3 := hide (r3.chg (al w4 (.cells #[.int .i64 (c : Int)] 3)) (fun _ _ h => h))
        have a3' : w4.ownsRow bo 3 1 u3 acc.length (acc.map (Value.int .i64)) := a3
        have A3 := hide (a3'.alloc (.cells #[.int .i64 (c : Int)] 3))
        have C4 := hide (C3.out.trans (al w4 (.cells #[.int .i64 (c : Int)] 3)).none)
        have NB := hide (World.news_of_block (cs := #[.int .i64 (c : Int)]) (t := 3) (fr := (0, 0)) (heap_alloc_new w4 _))
        have hal := hAl.out
        clear n3 g3 r3 a3 a3' hN hS hA hR hC hZ C3
        go_wp2_with (at_builtin; refine wpList_append_own _ rfl _ _ 36 rfl bo 3 i0 (.int .i64 0) 1 8 Try.underlying36 hi0 hz0 hz1 hz2 rfl (by decide) _ acc.length (acc.map (Value.int .i64)) rfl A3.out ⟨w4.heap.size, 0, none⟩ 1 1 [.int .i64 (c : Int)] rfl rfl NB.out (by simp [Value.oneCell']) (by simp [maxLen]; omega) (by omega) (by simp; omega) ?_; intro v' w5 hown5 hgrow _)
        have gB : Chg (fun x => bo ≤ x) (w4.alloc (.cells #[.int .i64 (c : Int)] 3)) w5 := own_chgNo A3.out hgrow (fun x h => h)
        have N5 := N3.out.chg gB (by omega)
        have R5 := R3.out.grown A3.out hgrow ⟨by decide, by decide⟩ (show b < bo by omega)
        have A5 : IAcc w5 bo v' (acc ++ [(c : Int)]) := by
          unfold IAcc
          rw [List.length_append, List.map_append]
          exact hown5
        have C5 : Chg (fun x => x = b) w w5 := by
          have h1 : Chg (fun x => x = b ∨ w.heap.size ≤ x) w w5 := (C4.out.mono (fun x _ h => Or.inl h)).trans (gB.mono (fun x _ h => Or.inr (by have := HO.out; omega)))
          exact h1.mono (fun x hx h => by omega)
        have Z5 : bo ≤ w5.heap.size := Nat.le_trans Z3 (Nat.le_trans (al w4 (.cells #[.int .i64 (c : Int)] 3)).size gB.size)
        have hu := hide (un.out w5 (c : Int) R5)
        have NN5 := hide N5
        have AA5 := hide A5
        have CC5 := hide C5
        have hul := underF_len n ps (c : Int) n
        have humem := hide (fun y h => underF_mem (n := n) (ps := ps) (a := (c : Int)) (k := n) (c := y) h)
        obtain ⟨us, hus⟩ : ∃ us, us = underF n ps (c : Int) n := ⟨_, rfl⟩
        rw [← hus] at hu hul humem HG2
        clear hown5 hgrow gB N5 R5 A5 C5 N3 R3 A3 C4 NB hus Z3
        go_wp2_with fail
        refine hu.out.mono ?_
        rintro e w6 ⟨⟨v1, rfl, o1⟩, r6, g6⟩
        have P6 := hide o1
        obtain ⟨ua, uc, rfl, hrow⟩ := ints_own o1
        clear hrow
        have R6 := hide r6
        have N6 := hide (NN5.out.chg g6 (by omega))
        have A6 : Hid (IAcc w6 bo v' (acc ++ [(c : Int)])) := hide (own_chg AA5.out g6 (fun x hx e => by omega))
        have C6 := hide (CC5.out.trans g6)
        have Z6 := hide (Nat.le_trans Z5 g6.size)
        have hHU : Hid (O < w5.heap.size) := hide (NN5.out.lt)
        generalize w5.heap.size = bu at *
        obtain ⟨acc2, hacc2⟩ : ∃ acc2, acc2 = acc ++ [(c : Int)] := ⟨_, rfl⟩
        rw [← hacc2] at A6
        have HA2 : Hid (acc2.length = k + 1) := hide (by rw [hacc2, List.length_append, hal]; rfl)
        have HL2 : Hid (acc2 ++ rest2 = l) := hide (by rw [hacc2, List.append_assoc]; exact hL.out)
        obtain ⟨f1, hf1⟩ : ∃ f1, f1 = up f c (-1) := ⟨_, rfl⟩
        rw [← hf1] at N6 S3 HG2
        clear o1 r6 g6 hu NN5 AA5 CC5 hacc2 hf1 hL hAl hal x0 x1 hw4
        go_wp2_with fail
        go_loopw [27] (fun jv wr2 => ∃ j : Nat, j ≤ us.length ∧ jv = .int .i64 j ∧ Hid (Nums wr2 O n (decF f1 (us.take j))) ∧ Hid (Small k j (decF f1 (us.take j))) ∧ Hid (wr2.ownsRow bu 3 1 (.slice ua us.length uc) us.length (us.map (Value.int .i64))) ∧ Hid (IAcc wr2 bo v' acc2) ∧ Hid (Rs wr2 b n ps mv sv) ∧ Hid (Chg (fun x => x = b) w wr2) ∧ Hid (bo ≤ wr2.heap.size)) (fun jv _ => us.length - (intOf jv).toNat)
        case atStart => exact ⟨0, Nat.zero_le _, rfl, by rw [List.take_zero, decF_nil]; exact N6, by rw [List.take_zero, decF_nil]; exact S3, P6, A6, R6, C6, Z6⟩
        case round =>
          clear N6 S3 P6 A6 R6 C6 Z6
          obtain ⟨j, hj, rfl, hN, hS, hP, hA, hR, hC, hZ⟩ := hrel
          by_cases hlj : j < us.length
          · obtain ⟨a', c', e', hr'⟩ := ints_own hP.out
            rcases hr' with h0 | ⟨g, off, e2, hg, hcell⟩
            · rw [h0] at hlj; exact absurd hlj (Nat.not_lt_zero _)
            subst e2
            injection e' with e3 _ e5
            subst e3
            subst e5
            have d0 := hcell j hlj
            have tk := List.take_succ_eq_append_getElem hlj
            have hm := humem.out _ (List.getElem_mem hlj)
            generalize us[j] = y at *
            obtain ⟨q, hq, rfl⟩ := hm
            have j0 : (0 : Int) ≤ (j : Int) := by omega
            have j1 : (j : Int) < (us.length : Int) := by omega
            have j2 : (0 : Int) ≤ (q : Int) := by omega
            have j3 : (q : Int) < (n : Int) := by omega
            have hle := hS.out q
            have x0 := hN.out.cell hq
            have x1 := hN.out.free q
            have g4 := Chg.set wr O q (.int .i64 (decF f1 (us.take j) q - 1))
            have N4 : Hid (Nums (wr.setCell ⟨O, q, none⟩ (.int .i64 (decF f1 (us.take j) q - 1))) O n (decF f1 (us.take (j + 1)))) := hide (by rw [tk, decF_snoc]; exact hN.out.set q _)
            have S4 : Hid (Small k (j + 1) (decF f1 (us.take (j + 1)))) := hide (by rw [tk, decF_snoc]; exact small_dec hS.out q)
            have P4 := hide (own_chg hP.out g4 (fun x hx e => by have := hHU.out; omega))
            have A4 : Hid (IAcc (wr.setCell ⟨O, q, none⟩ (.int .i64 (decF f1 (us.take j) q - 1))) bo v' acc2) := hide (own_chg hA.out g4 (fun x hx e => by omega))
            have R4 := hide (hN.out.rs hR.out bO g4)
            have C4 : Hid (Chg (fun x => x = b) w (wr.setCell ⟨O, q, none⟩ (.int .i64 (decF f1 (us.take j) q - 1)))) := hide (by
              have h1 : Chg (fun x => x = b ∨ x = O) w _ := (hC.out.mono (fun x _ h => Or.inl h)).trans (g4.mono (fun x _ h => Or.inr h))
              exact h1.mono (fun x hx h => by have := HO.out; omega))
            have Z4 := hide (Nat.le_trans hZ.out g4.size)
            obtain ⟨hle1, hle2⟩ := hle
            generalize decF f1 (us.take j) q = cq at *
            clear hN hS hP hA hR hC hZ g4 hcell tk
            go_wp2_with fail
            go_roundw
            case rel => exact ⟨j + 1, by omega, by go_num, N4, S4, P4, A4, R4, C4, Z4⟩
            case measure => simp [intOf]; omega
          · have hjl : j = us.length := by omega
            have S5 : Hid (Small (k + 1) 0 (decF f1 us)) := hide (by have h := hS.out; rw [hjl, List.take_length] at h; exact small_next h (by omega))
            have N5 : Hid (Nums wr O n (decF f1 us)) := hide (by have h := hN.out; rw [hjl, List.take_length] at h; exact h)
            clear hN hS
            go_wp2_with fail
            go_roundw
            case rel => exact ⟨k + 1, decF f1 us, acc2, rest2, by omega, by go_num, hA, HA2, N5, S5, HG2, HL2, hR, hC, hZ⟩
            case measure => simp [intOf]; omega
    · have hkn : k = n := by omega
      have hr0 : Hid (rest = []) := hide (by have h := hG.out; rw [hkn, Nat.sub_self] at h; simpa [lineG] using h.symm)
      have hl0 : Hid (acc = l) := hide (by have h := hL.out; rw [hr0.out, List.append_nil] at h; exact h)
      clear hG hL hr0
      go_wp2_with fail
      go_ret
      exact ⟨⟨_, bo, rfl, by omega, by rw [← hl0.out]; exact hA.out⟩, hR.out, hC.out⟩
end Go.Proofs.Ytdcpcemihpkkaaa
