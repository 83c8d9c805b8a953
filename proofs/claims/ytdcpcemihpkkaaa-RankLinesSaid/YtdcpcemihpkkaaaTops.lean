/- Tops: those above which there is none. -/
import Derived.Test.YtdcpcemihpkkaaaLineLaw
import Derived.Test.YtdcpcemihpkkaaaKnown
namespace Go.Proofs.Ytdcpcemihpkkaaa
open Go.RowKit Go.Maps
set_option linter.unusedVariables false
set_option linter.unusedSimpArgs false

theorem uacc_snoc {w : World} {base : Nat} {v : Value} {u : List Nat} {c : Nat} (h : w.ownsRow base 3 1 v ((natI u).length + 1) ((natI u).map (Value.int .i64) ++ [.int .i64 (c : Int)])) : UAcc w base v (u ++ [c]) := by
  unfold UAcc
  rw [natI_snoc, List.length_append, List.map_append]
  exact h

set_option maxRecDepth 100000 in
set_option maxHeartbeats 16000000 in
theorem tops_some (b n : Nat) (hn : n ≤ 1000) (ps : Pairs) (hps : ps.length ≤ 1000000) (hbd : Bd ps n) (mv sv : Value) (w : World) (h : Rs w b n ps mv sv) :
    Calls Try.prog 22 #[.pointer (some ⟨b, 0, none⟩)] w fun e w' => (∃ v, e = .returned v ∧ Ints w' w'.heap.size v (natI (topsN n ps n))) ∧ Rs w' b n ps mv sv ∧ Chg (fun x => x = b) w w' := by
  obtain ⟨i0, hi0, hz0, hz1, hz2⟩ := info_parts info3
  have lb := h.lt
  have H := hide h
  have ov := hide (over_some b n hn ps hps hbd mv sv w h)
  have tm := hide (fun c hc => top_may (n := n) (ps := ps) (c := c) hc)
  obtain ⟨f0, hf0⟩ : ∃ f0, f0 = cntP (pairsF n ps n) := ⟨_, rfl⟩
  rw [← hf0] at ov tm
  clear h hf0
  go_enter Try.func22, Try.ntmps22
  go_wp2_with fail
  refine ov.out.mono ?_
  rintro e w2 ⟨⟨O, rfl, hO, n2⟩, r2, g2⟩
  have N2 := hide n2
  have R2 := hide r2
  have C2 := hide g2
  have lO := n2.lt
  clear n2 r2 g2 ov H
  obtain ⟨bo, hbo⟩ : ∃ bo, bo = w2.heap.size := ⟨_, rfl⟩
  have HB := hide hbo
  have HL : Hid (O < bo) := hide (by omega)
  clear hbo lO hO
  go_wp2_with fail
  go_loopw [9, 3] (fun iv ov wr => ∃ k : Nat, k ≤ n ∧ iv = .int .i64 k ∧ Hid (UAcc wr bo ov (topsN n ps k)) ∧ Hid (Chg (fun _ => False) w2 wr)) (fun iv _ _ => n - (intOf iv).toNat)
  case atStart => exact ⟨0, Nat.zero_le _, rfl, ⟨rfl, Or.inl ⟨rfl, rfl⟩⟩, Chg.refl _ _⟩
  case round =>
    obtain ⟨k, hk, rfl, hU, hC⟩ := hrel
    by_cases hlt : k < n
    · have d0 := hC.out.cell (fun h => h) (N2.out.cell hlt)
      have hb := tm.out k hlt
      have hsucc := topsN_succ n ps k
      have hul := topsN_len n ps k
      obtain ⟨us, hus⟩ : ∃ us, us = topsN n ps k := ⟨_, rfl⟩
      rw [← hus] at hU hsucc hul
      have i0' : (0 : Int) ≤ (k : Int) := by omega
      have i1' : (k : Int) < (n : Int) := by omega
      clear hus
      generalize f0 k = x at *
      cases hc : topB n ps k n
      · rw [hc] at hb hsucc
        have HS : Hid (topsN n ps (k + 1) = us) := hide (by rw [hsucc]; simp)
        clear hsucc hc
        go_wp2_with fail
        go_roundw
        case rel => exact ⟨k + 1, by omega, by go_num, by unfold Hid; rw [HS.out]; exact hU.out, hC⟩
        case measure => simp [intOf]; omega
      · rw [hc] at hb hsucc
        have HS : Hid (topsN n ps (k + 1) = us ++ [k]) := hide (by rw [hsucc]; simp)
        clear hsucc hc
        have hU' : wr.ownsRow bo 3 1 u3 (natI us).length ((natI us).map (Value.int .i64)) := hU.out
        have O3 := hide (hU'.alloc (.cells #[.int .i64 (k : Int)] 3))
        have NB := hide (World.news_of_block (cs := #[.int .i64 (k : Int)]) (t := 3) (fr := (0, 0)) (heap_alloc_new wr _))
        have C3 := hide (hC.out.trans (al wr (.cells #[.int .i64 (k : Int)] 3)))
        have HO3 : Hid (bo ≤ (wr.alloc (.cells #[.int .i64 (k : Int)] 3)).heap.size) := hide (by have := C3.out.size; have := HB.out; omega)
        obtain ⟨nn, hnn⟩ : ∃ nn, nn = (natI us).length := ⟨_, rfl⟩
        obtain ⟨xs, hxs⟩ : ∃ xs, xs = (natI us).map (Value.int .i64) := ⟨_, rfl⟩
        rw [← hnn, ← hxs] at O3
        have hnl : nn ≤ 1000 := by rw [hnn, natI_len]; omega
        have HXL := hide (And.intro hnn hxs)
        clear hU' hnn hxs hul
        go_wp2_with (at_builtin; refine wpList_append_own _ rfl _ _ 36 rfl bo 3 i0 (.int .i64 0) 1 8 Try.underlying36 hi0 hz0 hz1 hz2 rfl (by decide) _ nn xs rfl O3.out ⟨wr.heap.size, 0, none⟩ 1 1 [.int .i64 (k : Int)] rfl rfl NB.out (by simp [Value.oneCell']) (by simp [maxLen]; omega) (by omega) HO3.out ?_; intro v' w3 hown hgrow hq)
        have G3 := own_grown O3.out hgrow HO3.out
        have O4 : Hid (UAcc w3 bo v' (us ++ [k])) := hide (uacc_snoc (by rw [← HXL.out.1, ← HXL.out.2]; exact hown))
        have C4 : Hid (Chg (fun _ => False) w2 w3) := hide (by
          have h1 : Chg (fun x => bo ≤ x) w2 w3 := C3.out.none.trans G3
          exact h1.mono (fun x hx h => by have := HB.out; omega))
        clear hown hgrow G3 O3 NB C3
        go_wp2_with fail
        go_roundw
        case rel => exact ⟨k + 1, by omega, by go_num, by unfold Hid; rw [HS.out]; exact O4.out, C4⟩
        case measure => simp [intOf]; omega
    · have hkn : k = n := by omega
      subst hkn
      go_wp2_with fail
      go_ret
      exact ⟨⟨_, rfl, hU.out.ints⟩, R2.out.chg hC.out (fun _ _ h => h), C2.out.trans hC.out.none⟩
end Go.Proofs.Ytdcpcemihpkkaaa
