/- The walk of RankAboves. -/
import Derived.Test.YtdcpcemihpkkaaaRefStatus
import Derived.Test.YtdcpcemihpkkaaaOpens
namespace Go.Proofs.Ytdcpcemihpkkaaa
open Go.RowKit Go.Maps
set_option linter.unusedVariables false
set_option linter.unusedSimpArgs false

theorem iacc_ints {w : World} {base : Nat} {v : Value} {l : List Int} (h : IAcc w base v l) : Ints w w.heap.size v l := ints_own h

set_option maxRecDepth 100000 in
set_option maxHeartbeats 16000000 in
theorem aboves_walk (N a b : Int) (ha : In64 a) (pa sa : Option Addr) (pl pc sl sc : Nat) (rp rs : List (Int × Int)) (hpl : pl = rp.length) (hsl : sl = rs.length) (hpc : pl ≤ pc) (hsc : sl ≤ sc) (hpm : pc ≤ maxLen) (hsm : sc ≤ maxLen) (hin : ∀ s ∈ rs, In64 s.1 ∧ In64 s.2) (w : World)
    (hp : IRow w w.heap.size (.slice pa pl pc) rp) (hs : IRow w w.heap.size (.slice sa sl sc) rs) :
    Calls Try.prog 5 #[.agg #[.int .i64 N, .slice pa pl pc, .slice sa sl sc], .int .i64 a, .int .i64 b] w fun e w' => e = .returned (.bool true) ∧ Below w.heap.size w w' := by
  obtain ⟨i0, hi0, hz0, hz1, hz2⟩ := info_parts info3
  have C1 := hide (al w (.cells #[.int .i64 N, .slice pa pl pc, .slice sa sl sc] 25))
  have to := hide (to_any N pa sa pl pc sl sc rp rs hpl hsl hpc hsc hpm hsm hin _ ((hp.chg C1.out (fun _ _ h => h)).up C1.out.size) ((hs.chg C1.out (fun _ _ h => h)).up C1.out.size))
  have lp2 : (rp.take 40).length ≤ 40 := by rw [List.length_take]; omega
  have ls2 : (rs.take 20).length ≤ 20 := by rw [List.length_take]; omega
  obtain ⟨rp2, hrp⟩ : ∃ l, rp.take 40 = l := ⟨_, rfl⟩
  obtain ⟨rs2, hrs⟩ : ∃ l, rs.take 20 = l := ⟨_, rfl⟩
  rw [hrp, hrs] at to
  rw [hrp] at lp2
  rw [hrs] at ls2
  have LP := hide lp2
  have LS := hide ls2
  have HA := hide ha
  have kn := hide known_any
  clear hp hs hin hpl hsl hpc hsc hpm hsm hrp hrs lp2 ls2 ha
  by_cases hN : 30 < N
  · have C2 := hide C1.out
    clear to C1
    go_enter Try.func5, Try.ntmps5
    go_wp2_with fail
    refine (kn.out _).mono ?_
    rintro e w2 ⟨rfl, g2⟩
    have C3 := hide (C2.out.trans g2)
    clear g2 C2
    go_wp2_with fail
    go_ret
    exact ⟨rfl, C3.out.below (Nat.le_refl _) (fun _ h => h.elim)⟩
  have hN' : N ≤ 30 := by omega
  go_enter Try.func5, Try.ntmps5
  go_wp2_with fail
  refine to.out.mono ?_
  rintro e w1 ⟨pv, sv, j1, j2, g1, h⟩
  have C2 := hide (C1.out.trans g1)
  obtain ⟨ya, yc, rfl, j1'⟩ := id j1
  obtain ⟨za, zc, rfl, j2'⟩ := id j2
  have C3 := hide (al w1 (.cells #[.int .i64 N, .slice ya rp2.length yc, .slice za rs2.length zc] 25))
  have BX := hide (blk_new w1 (.cells #[.int .i64 N, .slice ya rp2.length yc, .slice za rs2.length zc] 25))
  have C4 := hide (C2.out.trans C3.out)
  rcases h with ⟨h6, rfl⟩ | ⟨h6, B, M, su, rfl, hb, hB, hR, hK, hI⟩
  · have CK := hide (fun (w9 : World) (h : Chg (fun _ => False) (w1.alloc (.cells #[.int .i64 N, .slice ya rp2.length yc, .slice za rs2.length zc] 25)) w9) => check_any N ya za rp2.length yc rs2.length zc rp2 rs2 rfl rfl (by have := LP.out; omega) (by have := LS.out; omega) _ w9 (Nat.le_trans g1.size (Nat.le_trans C3.out.size h.size)) ((j1.chg C3.out (fun _ _ h => h)).chg h (fun _ _ h => h)) ((j2.chg C3.out (fun _ _ h => h)).chg h (fun _ _ h => h)))
    clear g1 to C1 C2 C3 j1 j2 j1' j2'
    generalize newCode N rp2 rs2 = code at *
    have q0 : (code != 0) = true := by simpa using h6
    clear h6
    go_wp2_with fail
    generalize hw2 : w1.alloc (.cells #[.int .i64 N, .slice ya rp2.length yc, .slice za rs2.length zc] 25) = w2 at *
    have x0 := blk_cell BX.out 0
    have x1 := blk_cell BX.out 1
    have x2 := blk_cell BX.out 2
    simp only [List.getElem?_toArray, List.getElem?_cons_zero, List.getElem?_cons_succ] at x0 x1 x2
    generalize w1.heap.size = B2 at *
    refine (kn.out _).mono ?_
    rintro e w3 ⟨rfl, g3⟩
    have D1 := hide g3
    have y0 := D1.out.cell (fun h => h) x0
    have y1 := D1.out.cell (fun h => h) x1
    have y2 := D1.out.cell (fun h => h) x2
    clear g3 x0 x1 x2
    go_wp2_with fail
    refine (CK.out _ D1.out).mono ?_
    rintro e w4 ⟨rfl, g4⟩
    have D2 := hide (D1.out.trans g4)
    clear g4
    go_wp2_with fail
    go_ret
    exact ⟨rfl, (C4.out.trans D2.out).below (Nat.le_refl _) (fun _ h => h.elim)⟩
  · obtain ⟨n0, n1, n2, n3, n4, n5⟩ := newCode_zero h6
    obtain ⟨n, rfl⟩ : ∃ n : Nat, N = n := ⟨N.toNat, by omega⟩
    rw [Int.toNat_natCast] at hR n5
    have hn30 : n ≤ 30 := by omega
    have bd := hide (bd_nats n2)
    rw [Int.toNat_natCast] at bd
    have LN : Hid ((nats rp2).length ≤ 1000) := hide (by unfold nats; rw [List.length_map]; have := LP.out; omega)
    obtain ⟨sy, sz, esu, _⟩ := id hI
    have HLT := hide (And.intro hb hB)
    have C1s := hide C1.out.size
    have HBw : Hid (B < w1.heap.size) := hide hR.lt
    have AR := hide (fun (x y : Int) (w9 : World) (h : Chg (fun z => z = B) (w1.alloc (.cells #[.int .i64 (n : Int), .slice ya rp2.length yc, .slice za rs2.length zc] 25)) w9) => refAb_any n x y ya za rp2.length yc rs2.length zc (nats rp2) LN.out _ w9 (((prow_nats j1 n2).chg C3.out (fun _ _ h => h)).chg h (fun x hx e => by omega)) (Nat.le_trans g1.size (Nat.le_trans C3.out.size h.size)))
    have SR := hide (fun (w9 : World) (h : Chg (fun z => z = B) (w1.alloc (.cells #[.int .i64 (n : Int), .slice ya rp2.length yc, .slice za rs2.length zc] 25)) w9) => statusR_any n a ya za rp2.length yc zc rs2 (by have := LS.out; omega) _ w9 (Nat.le_trans g1.size (Nat.le_trans C3.out.size h.size)) ((j2.chg C3.out (fun _ _ h => h)).chg h (fun x hx e => by omega)))
    have SK := hide (fun (w9 : World) (r : Rs w9 B n (nats rp2) (.map (some M)) su) (h : Chg (fun z => z = B) (w1.alloc (.cells #[.int .i64 (n : Int), .slice ya rp2.length yc, .slice za rs2.length zc] 25)) w9) => Status_some B M _ _ a HA.out w9 r.kinds ((hK.chg C3.out (fun h => h)).chg h (by omega)))
    have AB := hide (fun (x y : Int) (w : World) (h : Rs w B n (nats rp2) (.map (some M)) su) => above_any B n (by omega) (nats rp2) (by have := LN.out; omega) bd.out (.map (some M)) su x y w h)
    have UN := hide (fun (w : World) (h : Rs w B n (nats rp2) (.map (some M)) su) => under_some B n (by omega) (nats rp2) (by have := LN.out; omega) bd.out (.map (some M)) su a w h)
    have R1 := hide (hR.chg C3.out (fun _ _ h => h))
    clear g1 to C1 C2 C3 j1 j2 j1' j2' hR hK hI hb hB h6 n0 n1 n2 n3 n4 n5 bd LN LP LS hN hN' esu
    generalize (kindOf rs2 a).getD 0 = K0 at *
    go_wp2_with fail
    generalize hw2 : w1.alloc (.cells #[.int .i64 (n : Int), .slice ya rp2.length yc, .slice za rs2.length zc] 25) = w2 at *
    have x0 := blk_cell BX.out 0
    have x1 := blk_cell BX.out 1
    have x2 := blk_cell BX.out 2
    simp only [List.getElem?_toArray, List.getElem?_cons_zero, List.getElem?_cons_succ] at x0 x1 x2
    generalize w1.heap.size = B2 at *
    clear BX hw2
    obtain ⟨bo, hbo⟩ : ∃ bo, bo = w2.heap.size := ⟨_, rfl⟩
    have HO := hide hbo
    have HBO : Hid (B < bo) := hide (by have := R1.out.lt; omega)
    clear hbo
    go_loopw [11, 10] (fun iv ov wr => ∃ k : Nat, k ≤ n ∧ iv = .int .i64 k ∧ Hid (IAcc wr bo ov (underF n (nats rp2) a k)) ∧ Hid (Chg (fun _ => False) w2 wr)) (fun iv _ _ => n - (intOf iv).toNat)
    case atStart => exact ⟨0, Nat.zero_le _, rfl, ⟨rfl, Or.inl ⟨rfl, rfl⟩⟩, Chg.refl _ _⟩
    case round =>
      obtain ⟨k, hk, rfl, hO, hC⟩ := hrel
      have y0 := hC.out.cell (fun h => h) x0
      have y1 := hC.out.cell (fun h => h) x1
      have y2 := hC.out.cell (fun h => h) x2
      by_cases hlt : k < n
      · have hab := hide (AR.out a (k : Int) wr hC.out.none)
        have hul := underF_len n (nats rp2) a k
        have hsucc := underF_succ n (nats rp2) a k
        obtain ⟨l, hl⟩ : ∃ l, l = underF n (nats rp2) a k := ⟨_, rfl⟩
        rw [← hl] at hO hul hsucc
        have HL := hide hl
        clear hl
        cases hc : abv n (nats rp2) a (k : Int)
        · rw [hc] at hab hsucc
          have HS : Hid (underF n (nats rp2) a (k + 1) = l) := hide (by rw [hsucc]; simp)
          clear hsucc hc
          go_wp2_with fail
          refine hab.out.mono ?_
          rintro e w3 ⟨rfl, g3⟩
          have O2 := hide (own_chg hO.out g3 (fun x hx e => e))
          have C2 := hide (hC.out.trans g3)
          clear g3 hab y0 y1 y2
          go_wp2_with fail
          go_roundw
          case rel => exact ⟨k + 1, by omega, by go_num, by unfold Hid IAcc; rw [HS.out]; exact O2.out, C2⟩
          case measure => simp [intOf]; omega
        · rw [hc] at hab hsucc
          have HS : Hid (underF n (nats rp2) a (k + 1) = l ++ [(k : Int)]) := hide (by rw [hsucc]; simp)
          clear hsucc hc
          go_wp2_with fail
          refine hab.out.mono ?_
          rintro e w3 ⟨rfl, g3⟩
          have O2 := own_chg hO.out g3 (fun x hx e => e)
          have O3 := hide (O2.alloc (.cells #[.int .i64 (k : Int)] 3))
          have NB := hide (World.news_of_block (cs := #[.int .i64 (k : Int)]) (t := 3) (fr := (0, 0)) (heap_alloc_new w3 _))
          have C2 := hide ((hC.out.trans g3).trans (al w3 (.cells #[.int .i64 (k : Int)] 3)))
          have HO3 : Hid (bo ≤ (w3.alloc (.cells #[.int .i64 (k : Int)] 3)).heap.size) := hide (by have := C2.out.size; have := HO.out; omega)
          obtain ⟨nn, hnn⟩ : ∃ nn, nn = l.length := ⟨_, rfl⟩
          rw [← hnn] at O3
          have hnl : nn ≤ 30 := by omega
          have HN2 := hide hnn
          clear O2 g3 hab y0 y1 y2 hnn hul
          go_wp2_with (at_builtin; refine wpList_append_own _ rfl _ _ 36 rfl bo 3 i0 (.int .i64 0) 1 8 Try.underlying36 hi0 hz0 hz1 hz2 rfl (by decide) _ nn (l.map (Value.int .i64)) rfl O3.out ⟨w3.heap.size, 0, none⟩ 1 1 [.int .i64 (k : Int)] rfl rfl NB.out (by simp [Value.oneCell']) (by simp [maxLen]; omega) (by omega) HO3.out ?_; intro v' w4 hown hgrow hq)
          have G3 := own_grown O3.out hgrow HO3.out
          have O4 : Hid (IAcc w4 bo v' (l ++ [(k : Int)])) := hide (by
            unfold IAcc
            rw [List.length_append, List.map_append, ← HN2.out]
            exact hown)
          have C4 : Hid (Chg (fun _ => False) w2 w4) := hide (by
            have h1 : Chg (fun x => bo ≤ x) w2 w4 := C2.out.none.trans G3
            exact h1.mono (fun x hx h => by have := HO.out; omega))
          clear hown hgrow G3 O3 NB C2
          go_wp2_with fail
          go_roundw
          case rel => exact ⟨k + 1, by omega, by go_num, by unfold Hid; rw [HS.out]; exact O4.out, C4⟩
          case measure => simp [intOf]; omega
      · have hkn : k = n := by omega
        subst hkn
        have LN2 := underF_len k (nats rp2) a k
        generalize underF k (nats rp2) a k = l at *
        generalize abv k (nats rp2) a b = R0 at *
        have RW := hide (R1.out.chg hC.out (fun _ _ h => h))
        have NB2 : Hid (¬ B2 = B) := hide (by have := HBw.out; omega)
        clear R1 HBw
        go_wp2_with fail
        refine wp_region_held_drew (S := (fun w' => w'.cell? ⟨B2, 0, none⟩ = some (.int .i64 (k : Int)) ∧ w'.cell? ⟨B2, 1, none⟩ = some (.slice ya rp2.length yc) ∧ w'.cell? ⟨B2, 2, none⟩ = some (.slice za rs2.length zc))) (by kernel_rfl) (by go_keep) (fun hHeld => ?_)
        refine wpAnyH_ready (rs := [0]) (by kernel_rfl) (by simp) ?_
        refine AllReadyH.cons (i := 0) (o := _) rfl (fun K hK => ?_) ?_
        rotate_left
        · exact AllReadyH.nil
        go_simp
        refine (kn.out _).mono ?_
        rintro e w3 ⟨rfl, g3⟩
        have F3 : Hid (Chg (fun z => z = B) wr w3) := hide ((Chg.refl (fun _ => False) wr).drew.trans g3).none
        have R3 := hide (RW.out.chg ((Chg.refl (fun _ => False) wr).drew.trans g3) (fun _ _ h => h))
        clear g3
        have z30 := F3.out.cell NB2.out y0
        have z31 := F3.out.cell NB2.out y1
        have z32 := F3.out.cell NB2.out y2
        go_simp
        refine hK.out _ _ ⟨z30, z31, z32⟩ (fun hHeld => ?_)
        clear hK K
        try simp only [Act.put, List.getElem_toArray, List.getElem_cons_zero, List.getElem_cons_succ, List.setIfInBounds_toArray, List.set_cons_zero, List.set_cons_succ]
        first
          | (refine wpAnyH_take (i := 1) (v := undef) rfl (by kernel_rfl) (by kernel_rfl) (by kernel_rfl) (fun _ _ _ h => h) (Or.inr ⟨by rfl, rfl⟩) (by assumption) ?_)
          | (refine wpAnyH_take (i := 1) (v := ?_) rfl (by kernel_rfl) (by kernel_rfl) (by kernel_rfl) (fun _ _ _ h => h) (Or.inl ⟨by rfl, ?_⟩) (by assumption) ?_
             rotate_left
             (intro w hSw
              (try dsimp only at hSw)
              (go_simp <;> with_reducible rfl)))
        try simp only [Act.put, List.getElem_toArray, List.getElem_cons_zero, List.getElem_cons_succ, List.setIfInBounds_toArray, List.set_cons_zero, List.set_cons_succ]
        first
          | (refine wpAnyH_take (i := 2) (v := undef) rfl (by kernel_rfl) (by kernel_rfl) (by kernel_rfl) (fun _ _ _ h => h) (Or.inr ⟨by rfl, rfl⟩) (by assumption) ?_)
          | (refine wpAnyH_take (i := 2) (v := ?_) rfl (by kernel_rfl) (by kernel_rfl) (by kernel_rfl) (fun _ _ _ h => h) (Or.inl ⟨by rfl, ?_⟩) (by assumption) ?_
             rotate_left
             (intro w hSw
              (try dsimp only at hSw)
              (go_simp <;> with_reducible rfl)))
        try simp only [Act.put, List.getElem_toArray, List.getElem_cons_zero, List.getElem_cons_succ, List.setIfInBounds_toArray, List.set_cons_zero, List.set_cons_succ]
        first
          | (refine wpAnyH_take (i := 3) (v := undef) rfl (by kernel_rfl) (by kernel_rfl) (by kernel_rfl) (fun _ _ _ h => h) (Or.inr ⟨by rfl, rfl⟩) (by assumption) ?_)
          | (refine wpAnyH_take (i := 3) (v := ?_) rfl (by kernel_rfl) (by kernel_rfl) (by kernel_rfl) (fun _ _ _ h => h) (Or.inl ⟨by rfl, ?_⟩) (by assumption) ?_
             rotate_left
             (intro w hSw
              (try dsimp only at hSw)
              (go_simp <;> with_reducible rfl)))
        try simp only [Act.put, List.getElem_toArray, List.getElem_cons_zero, List.getElem_cons_succ, List.setIfInBounds_toArray, List.set_cons_zero, List.set_cons_succ]
        first
          | (refine wpAnyH_take (i := 4) (v := undef) rfl (by kernel_rfl) (by kernel_rfl) (by kernel_rfl) (fun _ _ _ h => h) (Or.inr ⟨by rfl, rfl⟩) (by assumption) ?_)
          | (refine wpAnyH_take (i := 4) (v := ?_) rfl (by kernel_rfl) (by kernel_rfl) (by kernel_rfl) (fun _ _ _ h => h) (Or.inl ⟨by rfl, ?_⟩) (by assumption) ?_
             rotate_left
             (intro w hSw
              (try dsimp only at hSw)
              (go_simp <;> with_reducible rfl)))
        try simp only [Act.put, List.getElem_toArray, List.getElem_cons_zero, List.getElem_cons_succ, List.setIfInBounds_toArray, List.set_cons_zero, List.set_cons_succ]
        first
          | (refine wpAnyH_take (i := 6) (v := undef) rfl (by kernel_rfl) (by kernel_rfl) (by kernel_rfl) (fun _ _ _ h => h) (Or.inr ⟨by rfl, rfl⟩) (by assumption) ?_)
          | (refine wpAnyH_take (i := 6) (v := ?_) rfl (by kernel_rfl) (by kernel_rfl) (by kernel_rfl) (fun _ _ _ h => h) (Or.inl ⟨by rfl, ?_⟩) (by assumption) ?_
             rotate_left
             (intro w hSw
              (try dsimp only at hSw)
              (go_simp <;> with_reducible rfl)))
        try simp only [Act.put, List.getElem_toArray, List.getElem_cons_zero, List.getElem_cons_succ, List.setIfInBounds_toArray, List.set_cons_zero, List.set_cons_succ]
        first
          | (refine wpAnyH_take (i := 7) (v := undef) rfl (by kernel_rfl) (by kernel_rfl) (by kernel_rfl) (fun _ _ _ h => h) (Or.inr ⟨by rfl, rfl⟩) (by assumption) ?_)
          | (refine wpAnyH_take (i := 7) (v := ?_) rfl (by kernel_rfl) (by kernel_rfl) (by kernel_rfl) (fun _ _ _ h => h) (Or.inl ⟨by rfl, ?_⟩) (by assumption) ?_
             rotate_left
             (intro w hSw
              (try dsimp only at hSw)
              (go_simp <;> with_reducible rfl)))
        try simp only [Act.put, List.getElem_toArray, List.getElem_cons_zero, List.getElem_cons_succ, List.setIfInBounds_toArray, List.set_cons_zero, List.set_cons_succ]
        first
          | (refine wpAnyH_take (i := 8) (v := undef) rfl (by kernel_rfl) (by kernel_rfl) (by kernel_rfl) (fun _ _ _ h => h) (Or.inr ⟨by rfl, rfl⟩) (by assumption) ?_)
          | (refine wpAnyH_take (i := 8) (v := ?_) rfl (by kernel_rfl) (by kernel_rfl) (by kernel_rfl) (fun _ _ _ h => h) (Or.inl ⟨by rfl, ?_⟩) (by assumption) ?_
             rotate_left
             (intro w hSw
              (try dsimp only at hSw)
              (go_simp <;> with_reducible rfl)))
        try simp only [Act.put, List.getElem_toArray, List.getElem_cons_zero, List.getElem_cons_succ, List.setIfInBounds_toArray, List.set_cons_zero, List.set_cons_succ]
        refine wpAnyH_ready (rs := [5]) (by kernel_rfl) (by simp) ?_
        refine AllReadyH.cons (i := 5) (o := _) rfl (fun K hK => ?_) ?_
        rotate_left
        · exact AllReadyH.nil
        go_simp
        refine (AB.out a b _ R3.out).mono ?_
        rintro e w5 ⟨rfl, r5, g5⟩
        have F5 := hide (F3.out.trans g5)
        have R5 := hide r5
        clear g5 r5
        have z50 := F5.out.cell NB2.out y0
        have z51 := F5.out.cell NB2.out y1
        have z52 := F5.out.cell NB2.out y2
        go_simp
        refine hK.out _ _ ⟨z50, z51, z52⟩ (fun hHeld => ?_)
        clear hK K
        try simp only [Act.put, List.getElem_toArray, List.getElem_cons_zero, List.getElem_cons_succ, List.setIfInBounds_toArray, List.set_cons_zero, List.set_cons_succ]
        refine wpAnyH_ready (rs := [9]) (by kernel_rfl) (by simp) ?_
        refine AllReadyH.cons (i := 9) (o := _) rfl (fun K hK => ?_) ?_
        rotate_left
        · exact AllReadyH.nil
        go_simp
        refine (AR.out a b _ (hC.out.none.trans F5.out)).mono ?_
        rintro e w6 ⟨rfl, g6⟩
        have F6 := hide (F5.out.trans g6.none)
        have R6 := hide (R5.out.chg g6 (fun _ _ h => h))
        clear g6
        have z60 := F6.out.cell NB2.out y0
        have z61 := F6.out.cell NB2.out y1
        have z62 := F6.out.cell NB2.out y2
        go_simp
        refine hK.out _ _ ⟨z60, z61, z62⟩ (fun hHeld => ?_)
        clear hK K
        try simp only [Act.put, List.getElem_toArray, List.getElem_cons_zero, List.getElem_cons_succ, List.setIfInBounds_toArray, List.set_cons_zero, List.set_cons_succ]
        first
          | (refine wpAnyH_take (i := 10) (v := undef) rfl (by kernel_rfl) (by kernel_rfl) (by kernel_rfl) (fun _ _ _ h => h) (Or.inr ⟨by rfl, rfl⟩) (by assumption) ?_)
          | (refine wpAnyH_take (i := 10) (v := ?_) rfl (by kernel_rfl) (by kernel_rfl) (by kernel_rfl) (fun _ _ _ h => h) (Or.inl ⟨by rfl, ?_⟩) (by assumption) ?_
             rotate_left
             (intro w hSw
              (try dsimp only at hSw)
              (go_simp <;> with_reducible rfl)))
        try simp only [Act.put, List.getElem_toArray, List.getElem_cons_zero, List.getElem_cons_succ, List.setIfInBounds_toArray, List.set_cons_zero, List.set_cons_succ]
        first
          | (refine wpAnyH_take (i := 11) (v := undef) rfl (by kernel_rfl) (by kernel_rfl) (by kernel_rfl) (fun _ _ _ h => h) (Or.inr ⟨by rfl, rfl⟩) (by assumption) ?_)
          | (refine wpAnyH_take (i := 11) (v := ?_) rfl (by kernel_rfl) (by kernel_rfl) (by kernel_rfl) (fun _ _ _ h => h) (Or.inl ⟨by rfl, ?_⟩) (by assumption) ?_
             rotate_left
             (intro w hSw
              (try dsimp only at hSw)
              (go_simp <;> with_reducible rfl)))
        try simp only [Act.put, List.getElem_toArray, List.getElem_cons_zero, List.getElem_cons_succ, List.setIfInBounds_toArray, List.set_cons_zero, List.set_cons_succ]
        first
          | (refine wpAnyH_take (i := 12) (v := undef) rfl (by kernel_rfl) (by kernel_rfl) (by kernel_rfl) (fun _ _ _ h => h) (Or.inr ⟨by rfl, rfl⟩) (by assumption) ?_)
          | (refine wpAnyH_take (i := 12) (v := ?_) rfl (by kernel_rfl) (by kernel_rfl) (by kernel_rfl) (fun _ _ _ h => h) (Or.inl ⟨by rfl, ?_⟩) (by assumption) ?_
             rotate_left
             (intro w hSw
              (try dsimp only at hSw)
              (go_simp <;> with_reducible rfl)))
        try simp only [Act.put, List.getElem_toArray, List.getElem_cons_zero, List.getElem_cons_succ, List.setIfInBounds_toArray, List.set_cons_zero, List.set_cons_succ]
        first
          | (refine wpAnyH_take (i := 13) (v := undef) rfl (by kernel_rfl) (by kernel_rfl) (by kernel_rfl) (fun _ _ _ h => h) (Or.inr ⟨by rfl, rfl⟩) (by assumption) ?_)
          | (refine wpAnyH_take (i := 13) (v := ?_) rfl (by kernel_rfl) (by kernel_rfl) (by kernel_rfl) (fun _ _ _ h => h) (Or.inl ⟨by rfl, ?_⟩) (by assumption) ?_
             rotate_left
             (intro w hSw
              (try dsimp only at hSw)
              (go_simp <;> with_reducible rfl)))
        try simp only [Act.put, List.getElem_toArray, List.getElem_cons_zero, List.getElem_cons_succ, List.setIfInBounds_toArray, List.set_cons_zero, List.set_cons_succ]
        first
          | (refine wpAnyH_take (i := 14) (v := undef) rfl (by kernel_rfl) (by kernel_rfl) (by kernel_rfl) (fun _ _ _ h => h) (Or.inr ⟨by rfl, rfl⟩) (by assumption) ?_)
          | (refine wpAnyH_take (i := 14) (v := ?_) rfl (by kernel_rfl) (by kernel_rfl) (by kernel_rfl) (fun _ _ _ h => h) (Or.inl ⟨by rfl, ?_⟩) (by assumption) ?_
             rotate_left
             (intro w hSw
              (try dsimp only at hSw)
              (go_simp <;> with_reducible rfl)))
        try simp only [Act.put, List.getElem_toArray, List.getElem_cons_zero, List.getElem_cons_succ, List.setIfInBounds_toArray, List.set_cons_zero, List.set_cons_succ]
        first
          | (refine wpAnyH_take (i := 16) (v := undef) rfl (by kernel_rfl) (by kernel_rfl) (by kernel_rfl) (fun _ _ _ h => h) (Or.inr ⟨by rfl, rfl⟩) (by assumption) ?_)
          | (refine wpAnyH_take (i := 16) (v := ?_) rfl (by kernel_rfl) (by kernel_rfl) (by kernel_rfl) (fun _ _ _ h => h) (Or.inl ⟨by rfl, ?_⟩) (by assumption) ?_
             rotate_left
             (intro w hSw
              (try dsimp only at hSw)
              (go_simp <;> with_reducible rfl)))
        try simp only [Act.put, List.getElem_toArray, List.getElem_cons_zero, List.getElem_cons_succ, List.setIfInBounds_toArray, List.set_cons_zero, List.set_cons_succ]
        first
          | (refine wpAnyH_take (i := 17) (v := undef) rfl (by kernel_rfl) (by kernel_rfl) (by kernel_rfl) (fun _ _ _ h => h) (Or.inr ⟨by rfl, rfl⟩) (by assumption) ?_)
          | (refine wpAnyH_take (i := 17) (v := ?_) rfl (by kernel_rfl) (by kernel_rfl) (by kernel_rfl) (fun _ _ _ h => h) (Or.inl ⟨by rfl, ?_⟩) (by assumption) ?_
             rotate_left
             (intro w hSw
              (try dsimp only at hSw)
              (go_simp <;> with_reducible rfl)))
        try simp only [Act.put, List.getElem_toArray, List.getElem_cons_zero, List.getElem_cons_succ, List.setIfInBounds_toArray, List.set_cons_zero, List.set_cons_succ]
        refine wpAnyH_ready (rs := [15]) (by kernel_rfl) (by simp) ?_
        refine AllReadyH.cons (i := 15) (o := _) rfl (fun K hK => ?_) ?_
        rotate_left
        · exact AllReadyH.nil
        go_simp
        refine (SK.out _ R6.out (hC.out.none.trans F6.out)).mono ?_
        rintro e w6' ⟨rfl, rfl⟩
        have z650 := F6.out.cell NB2.out y0
        have z651 := F6.out.cell NB2.out y1
        have z652 := F6.out.cell NB2.out y2
        go_simp
        refine hK.out _ _ ⟨z650, z651, z652⟩ (fun hHeld => ?_)
        clear hK K
        try simp only [Act.put, List.getElem_toArray, List.getElem_cons_zero, List.getElem_cons_succ, List.setIfInBounds_toArray, List.set_cons_zero, List.set_cons_succ]
        refine wpAnyH_ready (rs := [18]) (by kernel_rfl) (by simp) ?_
        refine AllReadyH.cons (i := 18) (o := _) rfl (fun K hK => ?_) ?_
        rotate_left
        · exact AllReadyH.nil
        go_simp
        refine (SR.out _ (hC.out.none.trans F6.out)).mono ?_
        rintro e w7 ⟨rfl, g7⟩
        have F7 := hide (F6.out.trans g7.none)
        have R7 := hide (R6.out.chg g7 (fun _ _ h => h))
        clear g7
        have z70 := F7.out.cell NB2.out y0
        have z71 := F7.out.cell NB2.out y1
        have z72 := F7.out.cell NB2.out y2
        go_simp
        refine hK.out _ _ ⟨z70, z71, z72⟩ (fun hHeld => ?_)
        clear hK K
        try simp only [Act.put, List.getElem_toArray, List.getElem_cons_zero, List.getElem_cons_succ, List.setIfInBounds_toArray, List.set_cons_zero, List.set_cons_succ]
        first
          | (refine wpAnyH_take (i := 19) (v := undef) rfl (by kernel_rfl) (by kernel_rfl) (by kernel_rfl) (fun _ _ _ h => h) (Or.inr ⟨by rfl, rfl⟩) (by assumption) ?_)
          | (refine wpAnyH_take (i := 19) (v := ?_) rfl (by kernel_rfl) (by kernel_rfl) (by kernel_rfl) (fun _ _ _ h => h) (Or.inl ⟨by rfl, ?_⟩) (by assumption) ?_
             rotate_left
             (intro w hSw
              (try dsimp only at hSw)
              (go_simp <;> with_reducible rfl)))
        try simp only [Act.put, List.getElem_toArray, List.getElem_cons_zero, List.getElem_cons_succ, List.setIfInBounds_toArray, List.set_cons_zero, List.set_cons_succ]
        first
          | (refine wpAnyH_take (i := 20) (v := undef) rfl (by kernel_rfl) (by kernel_rfl) (by kernel_rfl) (fun _ _ _ h => h) (Or.inr ⟨by rfl, rfl⟩) (by assumption) ?_)
          | (refine wpAnyH_take (i := 20) (v := ?_) rfl (by kernel_rfl) (by kernel_rfl) (by kernel_rfl) (fun _ _ _ h => h) (Or.inl ⟨by rfl, ?_⟩) (by assumption) ?_
             rotate_left
             (intro w hSw
              (try dsimp only at hSw)
              (go_simp <;> with_reducible rfl)))
        try simp only [Act.put, List.getElem_toArray, List.getElem_cons_zero, List.getElem_cons_succ, List.setIfInBounds_toArray, List.set_cons_zero, List.set_cons_succ]
        first
          | (refine wpAnyH_take (i := 21) (v := undef) rfl (by kernel_rfl) (by kernel_rfl) (by kernel_rfl) (fun _ _ _ h => h) (Or.inr ⟨by rfl, rfl⟩) (by assumption) ?_)
          | (refine wpAnyH_take (i := 21) (v := ?_) rfl (by kernel_rfl) (by kernel_rfl) (by kernel_rfl) (fun _ _ _ h => h) (Or.inl ⟨by rfl, ?_⟩) (by assumption) ?_
             rotate_left
             (intro w hSw
              (try dsimp only at hSw)
              (go_simp <;> with_reducible rfl)))
        try simp only [Act.put, List.getElem_toArray, List.getElem_cons_zero, List.getElem_cons_succ, List.setIfInBounds_toArray, List.set_cons_zero, List.set_cons_succ]
        first
          | (refine wpAnyH_take (i := 22) (v := undef) rfl (by kernel_rfl) (by kernel_rfl) (by kernel_rfl) (fun _ _ _ h => h) (Or.inr ⟨by rfl, rfl⟩) (by assumption) ?_)
          | (refine wpAnyH_take (i := 22) (v := ?_) rfl (by kernel_rfl) (by kernel_rfl) (by kernel_rfl) (fun _ _ _ h => h) (Or.inl ⟨by rfl, ?_⟩) (by assumption) ?_
             rotate_left
             (intro w hSw
              (try dsimp only at hSw)
              (go_simp <;> with_reducible rfl)))
        try simp only [Act.put, List.getElem_toArray, List.getElem_cons_zero, List.getElem_cons_succ, List.setIfInBounds_toArray, List.set_cons_zero, List.set_cons_succ]
        first
          | (refine wpAnyH_take (i := 23) (v := undef) rfl (by kernel_rfl) (by kernel_rfl) (by kernel_rfl) (fun _ _ _ h => h) (Or.inr ⟨by rfl, rfl⟩) (by assumption) ?_)
          | (refine wpAnyH_take (i := 23) (v := ?_) rfl (by kernel_rfl) (by kernel_rfl) (by kernel_rfl) (fun _ _ _ h => h) (Or.inl ⟨by rfl, ?_⟩) (by assumption) ?_
             rotate_left
             (intro w hSw
              (try dsimp only at hSw)
              (go_simp <;> with_reducible rfl)))
        try simp only [Act.put, List.getElem_toArray, List.getElem_cons_zero, List.getElem_cons_succ, List.setIfInBounds_toArray, List.set_cons_zero, List.set_cons_succ]
        first
          | (refine wpAnyH_take (i := 25) (v := undef) rfl (by kernel_rfl) (by kernel_rfl) (by kernel_rfl) (fun _ _ _ h => h) (Or.inr ⟨by rfl, rfl⟩) (by assumption) ?_)
          | (refine wpAnyH_take (i := 25) (v := ?_) rfl (by kernel_rfl) (by kernel_rfl) (by kernel_rfl) (fun _ _ _ h => h) (Or.inl ⟨by rfl, ?_⟩) (by assumption) ?_
             rotate_left
             (intro w hSw
              (try dsimp only at hSw)
              (go_simp <;> with_reducible rfl)))
        try simp only [Act.put, List.getElem_toArray, List.getElem_cons_zero, List.getElem_cons_succ, List.setIfInBounds_toArray, List.set_cons_zero, List.set_cons_succ]
        refine wpAnyH_ready (rs := [24]) (by kernel_rfl) (by simp) ?_
        refine AllReadyH.cons (i := 24) (o := _) rfl (fun K hK => ?_) ?_
        rotate_left
        · exact AllReadyH.nil
        go_simp
        refine (UN.out _ R7.out).mono ?_
        rintro e w8 ⟨⟨v8, rfl, o8⟩, r8, g8⟩
        have F8' := hide (F7.out.trans g8)
        have LK := hide (like_any v8 u10 l l (by omega) _ _ w8 (ints_own o8) (iacc_ints (own_chg hO.out F8'.out (fun x hx e => by have := HBO.out; omega))))
        rw [decide_eq_true rfl] at LK
        clear g8 r8 o8
        have z80 := F8'.out.cell NB2.out y0
        have z81 := F8'.out.cell NB2.out y1
        have z82 := F8'.out.cell NB2.out y2
        go_simp
        refine hK.out _ _ ⟨z80, z81, z82⟩ (fun hHeld => ?_)
        clear hK K
        try simp only [Act.put, List.getElem_toArray, List.getElem_cons_zero, List.getElem_cons_succ, List.setIfInBounds_toArray, List.set_cons_zero, List.set_cons_succ]
        refine wpAnyH_ready (rs := [26]) (by kernel_rfl) (by simp) ?_
        refine AllReadyH.cons (i := 26) (o := _) rfl (fun K hK => ?_) ?_
        rotate_left
        · exact AllReadyH.nil
        go_simp
        refine LK.out.mono ?_
        rintro e w9 ⟨rfl, g9⟩
        have F8 := hide (F8'.out.trans g9.none)
        clear g9
        have z90 := F8.out.cell NB2.out y0
        have z91 := F8.out.cell NB2.out y1
        have z92 := F8.out.cell NB2.out y2
        go_simp
        refine hK.out _ _ ⟨z90, z91, z92⟩ (fun hHeld => ?_)
        clear hK K
        try simp only [Act.put, List.getElem_toArray, List.getElem_cons_zero, List.getElem_cons_succ, List.setIfInBounds_toArray, List.set_cons_zero, List.set_cons_succ]
        first
          | (refine wpAnyH_take (i := 27) (v := undef) rfl (by kernel_rfl) (by kernel_rfl) (by kernel_rfl) (fun _ _ _ h => h) (Or.inr ⟨by rfl, rfl⟩) (by assumption) ?_)
          | (refine wpAnyH_take (i := 27) (v := ?_) rfl (by kernel_rfl) (by kernel_rfl) (by kernel_rfl) (fun _ _ _ h => h) (Or.inl ⟨by rfl, ?_⟩) (by assumption) ?_
             rotate_left
             (intro w hSw
              (try dsimp only at hSw)
              (go_simp <;> with_reducible rfl)))
        try simp only [Act.put, List.getElem_toArray, List.getElem_cons_zero, List.getElem_cons_succ, List.setIfInBounds_toArray, List.set_cons_zero, List.set_cons_succ]
        first
          | (refine wpAnyH_take (i := 28) (v := undef) rfl (by kernel_rfl) (by kernel_rfl) (by kernel_rfl) (fun _ _ _ h => h) (Or.inr ⟨by rfl, rfl⟩) (by assumption) ?_)
          | (refine wpAnyH_take (i := 28) (v := ?_) rfl (by kernel_rfl) (by kernel_rfl) (by kernel_rfl) (fun _ _ _ h => h) (Or.inl ⟨by rfl, ?_⟩) (by assumption) ?_
             rotate_left
             (intro w hSw
              (try dsimp only at hSw)
              (go_simp <;> with_reducible rfl)))
        try simp only [Act.put, List.getElem_toArray, List.getElem_cons_zero, List.getElem_cons_succ, List.setIfInBounds_toArray, List.set_cons_zero, List.set_cons_succ]
        refine wpAnyH_done (by kernel_rfl) ?_ _
        go_wp2_with fail
        go_ret
        exact ⟨rfl, ((C4.out.trans hC.out).none.trans F8.out).below (Nat.le_refl _) (fun x hx => by have := HLT.out.1; have := C1s.out; omega)⟩

theorem aboves_ref (W : World) (v : Value) (r : RefIn) (h : RefIs W v r) (a : Int) (ha : In64 a) (b : Int) :
    Calls Try.prog 5 #[v, .int .i64 a, .int .i64 b] W fun e w' => e = .returned (.bool true) ∧ Below W.heap.size W w' := by
  obtain ⟨rfl, hN, ⟨p1, p2, p3, p4, p5⟩, ⟨s1, s2, s3, s4, s5⟩⟩ := h
  exact aboves_walk r.N a b ha r.pa r.sa r.pl r.pc r.sl r.sc r.rp r.rs p1 s1 p2 s2 p3 s3 s4 W p5 s5

end Go.Proofs.Ytdcpcemihpkkaaa
