/- The walk of RankWiths. -/
import Derived.Test.YtdcpcemihpkkaaaRefStatus
import Derived.Test.YtdcpcemihpkkaaaWith
import Derived.Test.YtdcpcemihpkkaaaOpens
namespace Go.Proofs.Ytdcpcemihpkkaaa
open Go.RowKit Go.Maps
set_option linter.unusedVariables false
set_option linter.unusedSimpArgs false

theorem bd_app {n : Int} {rp lq : List (Int × Int)} (h : (rp ++ lq).any (outP n) = false) : rp.any (outP n) = false := by
  rw [List.any_append, Bool.or_eq_false_iff] at h; exact h.1

set_option maxRecDepth 100000 in
set_option maxHeartbeats 32000000 in
theorem withs_walk (N a b : Int) (ha : In64 a) (pa sa qa : Option Addr) (pl pc sl sc ql qc : Nat) (rp rs lq : List (Int × Int)) (hpl : pl = rp.length) (hsl : sl = rs.length) (hql : ql = lq.length) (hpc : pl ≤ pc) (hsc : sl ≤ sc) (hqc : ql ≤ qc) (hpm : pc ≤ maxLen) (hsm : sc ≤ maxLen) (hqm : qc ≤ maxLen) (hin : ∀ s ∈ rs, In64 s.1 ∧ In64 s.2) (w : World)
    (hp : IRow w w.heap.size (.slice pa pl pc) rp) (hs : IRow w w.heap.size (.slice sa sl sc) rs) (hq : IRow w w.heap.size (.slice qa ql qc) lq) :
    Calls Try.prog 7 #[.agg #[.int .i64 N, .slice pa pl pc, .slice sa sl sc], .slice qa ql qc, .int .i64 a, .int .i64 b] w fun e w' => e = .returned (.bool true) ∧ Below w.heap.size w w' := by
  have C1 := hide (al w (.cells #[.int .i64 N, .slice pa pl pc, .slice sa sl sc] 25))
  have to := hide (to_any N pa sa pl pc sl sc rp rs hpl hsl hpc hsc hpm hsm hin _ ((hp.chg C1.out (fun _ _ h => h)).up C1.out.size) ((hs.chg C1.out (fun _ _ h => h)).up C1.out.size))
  have hk0 : (0 : Int) ≤ min (ql : Int) 40 := by omega
  have hk1 : min (ql : Int) 40 ≤ (qc : Int) := by omega
  have HQ0 : Hid (IRow w w.heap.size (.slice qa (min (ql : Int) 40).toNat qc) (lq.take 40)) := hide (by
    have e : (min (ql : Int) 40).toNat ≤ lq.length := by omega
    have h := IRow.cut (by rw [← hql]; exact hq) e
    rcases Nat.lt_or_ge 40 lq.length with h40 | h40
    · rw [show (min (ql : Int) 40).toNat = 40 by omega] at h ⊢; exact h
    · rw [show (min (ql : Int) 40).toNat = lq.length by omega, List.take_length] at h
      rw [show (min (ql : Int) 40).toNat = lq.length by omega, List.take_of_length_le (by omega)]
      exact h)
  have HQL : Hid ((lq.take 40).length = (min (ql : Int) 40).toNat) := hide (by rw [List.length_take]; omega)
  have lp2 : (rp.take 40).length ≤ 40 := by rw [List.length_take]; omega
  have ls2 : (rs.take 20).length ≤ 20 := by rw [List.length_take]; omega
  have HIN := hide (fun s (h : s ∈ rs.take 20) => hin s (List.mem_of_mem_take h))
  obtain ⟨rp2, hrp⟩ : ∃ l, rp.take 40 = l := ⟨_, rfl⟩
  obtain ⟨rs2, hrs⟩ : ∃ l, rs.take 20 = l := ⟨_, rfl⟩
  obtain ⟨lq2, hlq⟩ : ∃ l, lq.take 40 = l := ⟨_, rfl⟩
  rw [hrp, hrs] at to
  rw [hrp] at lp2
  rw [hrs] at ls2 HIN
  rw [hlq] at HQ0 HQL
  have LP := hide lp2
  have LS := hide ls2
  have HA := hide ha
  have kn := hide known_any
  unfold maxLen at hqm
  clear hp hs hin hpl hsl hpc hsc hpm hsm hrp hrs lp2 ls2 ha hq hlq hql
  by_cases hN : 30 < N
  · have C2 := hide C1.out
    clear to C1 HQ0 HQL
    go_enter Try.func7, Try.ntmps7
    go_wp2_with fail
    refine (kn.out _).mono ?_
    rintro e w2 ⟨rfl, g2⟩
    have C3 := hide (C2.out.trans g2)
    clear g2 C2
    go_wp2_with fail
    go_ret
    exact ⟨rfl, C3.out.below (Nat.le_refl _) (fun _ h => h.elim)⟩
  have hN' : N ≤ 30 := by omega
  go_enter Try.func7, Try.ntmps7
  go_wp2_with fail
  refine to.out.mono ?_
  rintro e w1 ⟨pv, sv, j1, j2, g1, h⟩
  have C2 := hide (C1.out.trans g1)
  obtain ⟨ya, yc, rfl, j1'⟩ := id j1
  obtain ⟨za, zc, rfl, j2'⟩ := id j2
  have C3 := hide (al w1 (.cells #[.int .i64 N, .slice ya rp2.length yc, .slice za rs2.length zc] 25))
  have BX := hide (blk_new w1 (.cells #[.int .i64 N, .slice ya rp2.length yc, .slice za rs2.length zc] 25))
  have C4 := hide (C2.out.trans C3.out)
  rcases h with ⟨h6, rfl⟩ | ⟨h6, B, M, su, rfl, hb, hB, hR, hK, hI⟩
  · have CK := hide (fun (w9 : World) (h : Chg (fun _ => False) (w1.alloc (.cells #[.int .i64 N, .slice ya rp2.length yc, .slice za rs2.length zc] 25)) w9) => check_any N ya za rp2.length yc rs2.length zc rp2 rs2 rfl rfl (by have := LP.out; omega) (by have := LS.out; omega) _ w9 (Nat.le_trans g1.size (Nat.le_trans C3.out.size h.size)) ((j1.chg C3.out (fun _ _ h => h)).chg h (fun _ _ h => h)) ((j2.chg C3.out (fun _ _ h => h)).chg h (fun _ _ h => h)))
    clear g1 to C1 C2 C3 j1 j2 j1' j2' HQ0 HQL
    generalize newCode N rp2 rs2 = code at *
    have q0 : (code != 0) = true := by simpa using h6
    clear h6
    go_wp2_with fail
    generalize hw2 : w1.alloc (.cells #[.int .i64 N, .slice ya rp2.length yc, .slice za rs2.length zc] 25) = w2 at *
    have x0 := blk_cell BX.out 0
    have x1 := blk_cell BX.out 1
    have x2 := blk_cell BX.out 2
    simp only [List.getElem?_toArray, List.getElem?_cons_zero, List.getElem?_cons_succ] at x0 x1 x2
    generalize w1.heap.size = B2 at *
    refine (kn.out _).mono ?_
    rintro e w3 ⟨rfl, g3⟩
    have D1 := hide g3
    have y0 := D1.out.cell (fun h => h) x0
    have y1 := D1.out.cell (fun h => h) x1
    have y2 := D1.out.cell (fun h => h) x2
    clear g3 x0 x1 x2
    go_wp2_with fail
    refine (CK.out _ D1.out).mono ?_
    rintro e w4 ⟨rfl, g4⟩
    have D2 := hide (D1.out.trans g4)
    clear g4
    go_wp2_with fail
    go_ret
    exact ⟨rfl, (C4.out.trans D2.out).below (Nat.le_refl _) (fun _ h => h.elim)⟩
  · obtain ⟨n0, n1, n2, n3, n4, n5⟩ := newCode_zero h6
    obtain ⟨n, rfl⟩ : ∃ n : Nat, N = n := ⟨N.toNat, by omega⟩
    rw [Int.toNat_natCast] at hR n5
    have hn30 : n ≤ 30 := by omega
    have bd := hide (bd_nats n2)
    rw [Int.toNat_natCast] at bd
    have LN : Hid ((nats rp2).length ≤ 1000) := hide (by unfold nats; rw [List.length_map]; have := LP.out; omega)
    obtain ⟨sy, sz, rfl, _⟩ := id hI
    have HLT := hide (And.intro hb hB)
    have C1s := hide C1.out.size
    have AB := hide (fun (x y : Int) (w : World) (h : Rs w B n (nats rp2) (.map (some M)) (.slice sy rs2.length sz)) => above_any B n (by omega) (nats rp2) (by have := LN.out; omega) bd.out (.map (some M)) (.slice sy rs2.length sz) x y w h)
    have R2 := hide (hR.chg C3.out (fun _ _ h => h))
    have J1 := hide (j1.chg C3.out (fun _ _ h => h))
    have J2 := hide (j2.chg C3.out (fun _ _ h => h))
    have KK := hide (hK.chg C3.out (fun h => h))
    have II := hide (hI.chg C3.out (fun _ _ h => h))
    have QQ := hide (HQ0.out.chg C4.out (fun _ _ h => h))
    have BB : Hid ((w.alloc (.cells #[.int .i64 (n : Int), .slice pa pl pc, .slice sa sl sc] 25)).heap.size ≤ (w1.alloc (.cells #[.int .i64 (n : Int), .slice ya rp2.length yc, .slice za rs2.length zc] 25)).heap.size) := hide (Nat.le_trans g1.size C3.out.size)
    have PB := hide n2
    have HB2 : Hid (w1.heap.size < (w1.alloc (.cells #[.int .i64 (n : Int), .slice ya rp2.length yc, .slice za rs2.length zc] 25)).heap.size) := hide (al_size _ _)
    have HBlt : Hid (B < w1.heap.size) := hide hR.lt
    clear g1 to C1 C2 C3 j1 j2 j1' j2' hR hK hI hb hB h6 n0 n1 n2 n3 n4 n5 hN hN' HQ0
    generalize hbs : (w.alloc (.cells #[.int .i64 (n : Int), .slice pa pl pc, .slice sa sl sc] 25)).heap.size = ws at *
    clear hbs
    go_wp2_with fail
    generalize hw2 : w1.alloc (.cells #[.int .i64 (n : Int), .slice ya rp2.length yc, .slice za rs2.length zc] 25) = w2 at *
    have x0 := blk_cell BX.out 0
    have x1 := blk_cell BX.out 1
    have x2 := blk_cell BX.out 2
    simp only [List.getElem?_toArray, List.getElem?_cons_zero, List.getElem?_cons_succ] at x0 x1 x2
    generalize w1.heap.size = B2 at *
    clear BX hw2
    have NB2 : Hid (¬ B2 = B) := hide (by have := HBlt.out; omega)
    generalize hR0 : abv n (nats rp2) a b = R0 at *
    have HR0 := hide hR0
    clear hR0
    refine (AB.out a b _ R2.out).mono ?_
    rintro e w3 ⟨rfl, r3, g3⟩
    rw [HR0.out]
    have R3 := hide r3
    have F3 := hide g3
    have I3 := hide (II.out.chg g3 (fun x hx e => by omega))
    have J13 := hide (J1.out.chg g3 (fun x hx e => by have := HLT.out.1; omega))
    have J23 := hide (J2.out.chg g3 (fun x hx e => by have := HLT.out.1; omega))
    have Q3 := hide (QQ.out.chg g3 (fun x hx e => by have := HLT.out.1; have := C1s.out; omega))
    have K3 := hide (KK.out.chg g3 (fun e => by have := HLT.out.2; omega))
    have y0 := g3.cell NB2.out x0
    have y1 := g3.cell NB2.out x1
    have y2 := g3.cell NB2.out x2
    have H3 : Hid (w.heap.size ≤ w3.heap.size) := hide (Nat.le_trans C4.out.size g3.size)
    have WT := hide (with_some B n rp2 lq2 rs2 (by have := LP.out; omega) (by have := HQL.out; omega) (by have := LS.out; omega) PB.out HIN.out (.map (some M)) sy sz qa qc w3 r3 I3.out (by rw [HQL.out]; exact Q3.out.up H3.out))
    rw [HQL.out] at WT
    clear r3 g3 II J1 J2 QQ KK x0 x1 x2 R2
    go_wp2_with fail
    refine WT.out.mono ?_
    rintro e w4 ⟨hd, g4⟩
    have llb : (rp2 ++ lq2).length ≤ 80 := by rw [List.length_append, HQL.out]; have := LP.out; omega
    obtain ⟨lb, hlb⟩ : ∃ lb, rp2 ++ lq2 = lb := ⟨_, rfl⟩
    rw [hlb] at hd llb
    have G4 := hide g4
    have R4 := hide (R3.out.chg g4 (fun _ _ h => h))
    have J14 := J13.out.chg g4 (fun _ _ h => h)
    have J24 := J23.out.chg g4 (fun _ _ h => h)
    have Q4 := Q3.out.chg g4 (fun _ _ h => h)
    have K4 := hide (K3.out.chg g4 (fun h => h))
    have z0 := g4.cell (fun h => h) y0
    have z1 := g4.cell (fun h => h) y1
    have z2 := g4.cell (fun h => h) y2
    have HS4 : w.heap.size ≤ w4.heap.size := Nat.le_trans H3.out g4.size
    have HW4 : ws ≤ w4.heap.size := Nat.le_trans BB.out (Nat.le_trans F3.out.size g4.size)
    have G45 := al w4 (.cells #[.int .i64 (n : Int), .slice none 0 0, .slice za rs2.length zc] 25)
    have BX5 := blk_new w4 (.cells #[.int .i64 (n : Int), .slice none 0 0, .slice za rs2.length zc] 25)
    obtain ⟨w5, hw5⟩ : ∃ w5, w4.alloc (.cells #[.int .i64 (n : Int), .slice none 0 0, .slice za rs2.length zc] 25) = w5 := ⟨_, rfl⟩
    rw [hw5] at G45 BX5
    have lB3 := blk_lt BX5
    have c51 := blk_cell BX5 1
    have y51 := G45.cell (fun h => h) z1
    have J15 := J14.chg G45 (fun _ _ h => h)
    have Q5 := Q4.chg G45 (fun _ _ h => h)
    have lps := LP.out
    have lqs : lq2.length ≤ 40 := by rw [HQL.out]; omega
    obtain ⟨v1, w6, hr1, ho1, hg1⟩ := append_irow (World.ownsRow_nil w5 w5.heap.size 43 2) J15 (by omega) (Nat.le_refl _) 22
    have G56 : Chg (fun _ => False) w5 w6 := (own_chgNo (World.ownsRow_nil w5 w5.heap.size 43 2) hg1 (S := fun x => w5.heap.size ≤ x) (fun x h => h)).mono (fun x hx h => by omega)
    have Q6 := Q5.chg G56 (fun _ _ h => h)
    rw [← HQL.out] at Q6
    obtain ⟨v2, w7, hr2, ho2, hg2⟩ := append_irow ho1 Q6 (by omega) G56.size 22
    rw [HQL.out] at hr2
    have G57 : Chg (fun _ => False) w5 w7 := (G56.none.trans (own_chgNo ho1 hg2 (S := fun x => w5.heap.size ≤ x) (fun x h => h))).mono (fun x hx h => by omega)
    rw [Nat.zero_add, List.nil_append, ← List.length_append, ← cells2_app, hlb] at ho2
    obtain ⟨va, vc, rfl, _⟩ := irow_own ho2
    have BX7 := G57.blk (fun h => h) BX5
    have c71 := blk_cell BX7 1
    have f71 := blk_free BX7 1
    have GS := Chg.set w7 w4.heap.size 1 (.slice va lb.length vc)
    have BX8 := hide (blk_set BX7 1 (.slice va lb.length vc))
    have G48 : Chg (fun _ => False) w4 (w7.setCell ⟨w4.heap.size, 1, none⟩ (.slice va lb.length vc)) := ((G45.trans (G57.mono (S := fun _ => False) (T := fun _ => False) (fun _ _ h => h) |> fun h => h)).none.trans GS).mono (fun x hx h => by omega)
    have V8 := irow_own (own_chg ho2 GS (fun x hx e => by omega))
    have J28 := J24.chg G48 (fun _ _ h => h)
    have HW8 := Nat.le_trans HW4 G48.size
    have CK := hide (check_any n va za lb.length vc rs2.length zc lb rs2 rfl rfl (by omega) (by have := LS.out; omega) _ _ (Nat.le_refl _) V8 (J28.up HW8))
    have HG8 := hide G48
    have y50 : w5.cell? ⟨w4.heap.size, 1, none⟩ = some (.slice none 0 0) := c51
    have z7 : w7.cell? ⟨w4.heap.size, 1, none⟩ = some (.slice none 0 0) := c71
    have t0 : (w7.setCell ⟨w4.heap.size, 1, none⟩ (.slice va lb.length vc)).cell? ⟨w4.heap.size, 0, none⟩ = some (.int .i64 (n : Int)) := blk_cell BX8.out 0
    have t1 : (w7.setCell ⟨w4.heap.size, 1, none⟩ (.slice va lb.length vc)).cell? ⟨w4.heap.size, 1, none⟩ = some (.slice va lb.length vc) := blk_cell BX8.out 1
    have t2 : (w7.setCell ⟨w4.heap.size, 1, none⟩ (.slice va lb.length vc)).cell? ⟨w4.heap.size, 2, none⟩ = some (.slice za rs2.length zc) := blk_cell BX8.out 2
    have V8H := hide V8
    have L8 := hide (blk_lt BX8.out)
    obtain ⟨w8, hw8⟩ : ∃ w8, w7.setCell ⟨w4.heap.size, 1, none⟩ (.slice va lb.length vc) = w8 := ⟨_, rfl⟩
    rw [hw8] at t0 t1 t2 CK HG8 V8H L8
    have LV : Hid ((nats lb).length ≤ 1000) := hide (by unfold nats; rw [List.length_map]; omega)
    clear hlb g4 J14 J24 Q4 HS4 G45 BX5 J15 Q5 ho1 hg1 G56 Q6 ho2 hg2 G57 BX7 c71 GS G48 V8 J28 BX8 c51 lB3 lps lqs HW4 HW8 J13 J23 Q3 K3 R3 WT y0 y1 y2 I3
    rcases hd with ⟨h7, rfl⟩ | ⟨h7, b2, M2, su2, rfl, hb2, hM2, hR2, hK2, hI2⟩
    · generalize newCode n lb rs2 = code2 at *
      have q0 : (code2 == 0) = false := by simpa using h7
      have q1 : (code2 != 0) = true := by simpa using h7
      clear h7
      go_wp2_with (at_builtin; first | (refine Lib.wpList_append_run_sl _ rfl _ _ _ rfl _ _ rfl rfl hr1 ?_) | (refine Lib.wpList_append_run_sl _ rfl _ _ _ rfl _ _ rfl rfl hr2 ?_))
      refine CK.out.mono ?_
      rintro e w9 ⟨rfl, g9⟩
      have G9 := hide (HG8.out.trans g9)
      have R9 := hide (R4.out.chg G9.out (fun _ _ h => h))
      have s0 := g9.cell (fun h => h) t0
      have s1 := g9.cell (fun h => h) t1
      have s2 := g9.cell (fun h => h) t2
      have L9 : Hid (w4.heap.size < w9.heap.size) := hide (Nat.lt_of_lt_of_le L8.out g9.size)
      clear hr1 hr2 t0 t1 t2 CK z0 z1 z2 f71 y50 z7 y51 hw5 hw8 L8
      go_wp2_with fail
      refine (AB.out a b _ R9.out).mono ?_
      rintro e w10 ⟨rfl, r10, g10⟩
      rw [HR0.out]
      have F10 := hide (((F3.out.trans G4.out.none).trans G9.out.none).trans g10)
      clear r10 g10 R9 R4 G9 G4 s0 s1 s2
      go_wp2_with fail
      refine wp_region_held_drew (S := (fun _ => True)) (by kernel_rfl) trivial (fun hHeld => ?_)
      refine wpAnyH_ready (rs := [0]) (by kernel_rfl) (by simp) ?_
      refine AllReadyH.cons (i := 0) (o := _) rfl (fun K hK => ?_) ?_
      rotate_left
      · exact AllReadyH.nil
      go_simp
      refine (kn.out _).mono ?_
      rintro e w11 ⟨rfl, g11⟩
      have F11 := hide (F10.out.trans (((Chg.refl (fun _ => False) w10).drew.trans g11).none))
      clear g11
      go_simp
      refine hK.out _ _ trivial (fun hHeld => ?_)
      clear hK K
      try simp only [Act.put, List.getElem_toArray, List.getElem_cons_zero, List.getElem_cons_succ, List.setIfInBounds_toArray, List.set_cons_zero, List.set_cons_succ]
      first
        | (refine wpAnyH_take (i := 1) (v := undef) rfl (by kernel_rfl) (by kernel_rfl) (by kernel_rfl) (fun _ _ _ h => h) (Or.inr ⟨by rfl, rfl⟩) (by assumption) ?_)
        | (refine wpAnyH_take (i := 1) (v := ?_) rfl (by kernel_rfl) (by kernel_rfl) (by kernel_rfl) (fun _ _ _ h => h) (Or.inl ⟨by rfl, ?_⟩) (by assumption) ?_
           rotate_left
           (intro w hSw
            (try dsimp only at hSw)
            (go_simp <;> with_reducible rfl)))
      try simp only [Act.put, List.getElem_toArray, List.getElem_cons_zero, List.getElem_cons_succ, List.setIfInBounds_toArray, List.set_cons_zero, List.set_cons_succ]
      first
        | (refine wpAnyH_take (i := 2) (v := undef) rfl (by kernel_rfl) (by kernel_rfl) (by kernel_rfl) (fun _ _ _ h => h) (Or.inr ⟨by rfl, rfl⟩) (by assumption) ?_)
        | (refine wpAnyH_take (i := 2) (v := ?_) rfl (by kernel_rfl) (by kernel_rfl) (by kernel_rfl) (fun _ _ _ h => h) (Or.inl ⟨by rfl, ?_⟩) (by assumption) ?_
           rotate_left
           (intro w hSw
            (try dsimp only at hSw)
            (go_simp <;> with_reducible rfl)))
      try simp only [Act.put, List.getElem_toArray, List.getElem_cons_zero, List.getElem_cons_succ, List.setIfInBounds_toArray, List.set_cons_zero, List.set_cons_succ]
      first
        | (refine wpAnyH_take (i := 3) (v := undef) rfl (by kernel_rfl) (by kernel_rfl) (by kernel_rfl) (fun _ _ _ h => h) (Or.inr ⟨by rfl, rfl⟩) (by assumption) ?_)
        | (refine wpAnyH_take (i := 3) (v := ?_) rfl (by kernel_rfl) (by kernel_rfl) (by kernel_rfl) (fun _ _ _ h => h) (Or.inl ⟨by rfl, ?_⟩) (by assumption) ?_
           rotate_left
           (intro w hSw
            (try dsimp only at hSw)
            (go_simp <;> with_reducible rfl)))
      try simp only [Act.put, List.getElem_toArray, List.getElem_cons_zero, List.getElem_cons_succ, List.setIfInBounds_toArray, List.set_cons_zero, List.set_cons_succ]
      first
        | (refine wpAnyH_take (i := 4) (v := undef) rfl (by kernel_rfl) (by kernel_rfl) (by kernel_rfl) (fun _ _ _ h => h) (Or.inr ⟨by rfl, rfl⟩) (by assumption) ?_)
        | (refine wpAnyH_take (i := 4) (v := ?_) rfl (by kernel_rfl) (by kernel_rfl) (by kernel_rfl) (fun _ _ _ h => h) (Or.inl ⟨by rfl, ?_⟩) (by assumption) ?_
           rotate_left
           (intro w hSw
            (try dsimp only at hSw)
            (go_simp <;> with_reducible rfl)))
      try simp only [Act.put, List.getElem_toArray, List.getElem_cons_zero, List.getElem_cons_succ, List.setIfInBounds_toArray, List.set_cons_zero, List.set_cons_succ]
      refine wpAnyH_take (i := 5) (v := undef) rfl (by kernel_rfl) (by kernel_rfl) (by kernel_rfl) (fun _ _ _ h => h) (Or.inr ⟨by rfl, rfl⟩) (by assumption) ?_
      try simp only [Act.put, List.getElem_toArray, List.getElem_cons_zero, List.getElem_cons_succ, List.setIfInBounds_toArray, List.set_cons_zero, List.set_cons_succ]
      refine wpAnyH_take (i := 6) (v := undef) rfl (by kernel_rfl) (by kernel_rfl) (by kernel_rfl) (fun _ _ _ h => h) (Or.inr ⟨by rfl, rfl⟩) (by assumption) ?_
      try simp only [Act.put, List.getElem_toArray, List.getElem_cons_zero, List.getElem_cons_succ, List.setIfInBounds_toArray, List.set_cons_zero, List.set_cons_succ]
      refine wpAnyH_take (i := 7) (v := undef) rfl (by kernel_rfl) (by kernel_rfl) (by kernel_rfl) (fun _ _ _ h => h) (Or.inr ⟨by rfl, rfl⟩) (by assumption) ?_
      try simp only [Act.put, List.getElem_toArray, List.getElem_cons_zero, List.getElem_cons_succ, List.setIfInBounds_toArray, List.set_cons_zero, List.set_cons_succ]
      refine wpAnyH_take (i := 8) (v := undef) rfl (by kernel_rfl) (by kernel_rfl) (by kernel_rfl) (fun _ _ _ h => h) (Or.inr ⟨by rfl, rfl⟩) (by assumption) ?_
      try simp only [Act.put, List.getElem_toArray, List.getElem_cons_zero, List.getElem_cons_succ, List.setIfInBounds_toArray, List.set_cons_zero, List.set_cons_succ]
      refine wpAnyH_take (i := 9) (v := undef) rfl (by kernel_rfl) (by kernel_rfl) (by kernel_rfl) (fun _ _ _ h => h) (Or.inr ⟨by rfl, rfl⟩) (by assumption) ?_
      try simp only [Act.put, List.getElem_toArray, List.getElem_cons_zero, List.getElem_cons_succ, List.setIfInBounds_toArray, List.set_cons_zero, List.set_cons_succ]
      refine wpAnyH_take (i := 10) (v := undef) rfl (by kernel_rfl) (by kernel_rfl) (by kernel_rfl) (fun _ _ _ h => h) (Or.inr ⟨by rfl, rfl⟩) (by assumption) ?_
      try simp only [Act.put, List.getElem_toArray, List.getElem_cons_zero, List.getElem_cons_succ, List.setIfInBounds_toArray, List.set_cons_zero, List.set_cons_succ]
      refine wpAnyH_take (i := 11) (v := undef) rfl (by kernel_rfl) (by kernel_rfl) (by kernel_rfl) (fun _ _ _ h => h) (Or.inr ⟨by rfl, rfl⟩) (by assumption) ?_
      try simp only [Act.put, List.getElem_toArray, List.getElem_cons_zero, List.getElem_cons_succ, List.setIfInBounds_toArray, List.set_cons_zero, List.set_cons_succ]
      refine wpAnyH_take (i := 12) (v := undef) rfl (by kernel_rfl) (by kernel_rfl) (by kernel_rfl) (fun _ _ _ h => h) (Or.inr ⟨by rfl, rfl⟩) (by assumption) ?_
      try simp only [Act.put, List.getElem_toArray, List.getElem_cons_zero, List.getElem_cons_succ, List.setIfInBounds_toArray, List.set_cons_zero, List.set_cons_succ]
      refine wpAnyH_take (i := 13) (v := undef) rfl (by kernel_rfl) (by kernel_rfl) (by kernel_rfl) (fun _ _ _ h => h) (Or.inr ⟨by rfl, rfl⟩) (by assumption) ?_
      try simp only [Act.put, List.getElem_toArray, List.getElem_cons_zero, List.getElem_cons_succ, List.setIfInBounds_toArray, List.set_cons_zero, List.set_cons_succ]
      refine wpAnyH_take (i := 14) (v := undef) rfl (by kernel_rfl) (by kernel_rfl) (by kernel_rfl) (fun _ _ _ h => h) (Or.inr ⟨by rfl, rfl⟩) (by assumption) ?_
      try simp only [Act.put, List.getElem_toArray, List.getElem_cons_zero, List.getElem_cons_succ, List.setIfInBounds_toArray, List.set_cons_zero, List.set_cons_succ]
      refine wpAnyH_take (i := 15) (v := undef) rfl (by kernel_rfl) (by kernel_rfl) (by kernel_rfl) (fun _ _ _ h => h) (Or.inr ⟨by rfl, rfl⟩) (by assumption) ?_
      try simp only [Act.put, List.getElem_toArray, List.getElem_cons_zero, List.getElem_cons_succ, List.setIfInBounds_toArray, List.set_cons_zero, List.set_cons_succ]
      refine wpAnyH_take (i := 16) (v := undef) rfl (by kernel_rfl) (by kernel_rfl) (by kernel_rfl) (fun _ _ _ h => h) (Or.inr ⟨by rfl, rfl⟩) (by assumption) ?_
      try simp only [Act.put, List.getElem_toArray, List.getElem_cons_zero, List.getElem_cons_succ, List.setIfInBounds_toArray, List.set_cons_zero, List.set_cons_succ]
      refine wpAnyH_take (i := 17) (v := undef) rfl (by kernel_rfl) (by kernel_rfl) (by kernel_rfl) (fun _ _ _ h => h) (Or.inr ⟨by rfl, rfl⟩) (by assumption) ?_
      try simp only [Act.put, List.getElem_toArray, List.getElem_cons_zero, List.getElem_cons_succ, List.setIfInBounds_toArray, List.set_cons_zero, List.set_cons_succ]
      refine wpAnyH_take (i := 18) (v := undef) rfl (by kernel_rfl) (by kernel_rfl) (by kernel_rfl) (fun _ _ _ h => h) (Or.inr ⟨by rfl, rfl⟩) (by assumption) ?_
      try simp only [Act.put, List.getElem_toArray, List.getElem_cons_zero, List.getElem_cons_succ, List.setIfInBounds_toArray, List.set_cons_zero, List.set_cons_succ]
      refine wpAnyH_take (i := 19) (v := undef) rfl (by kernel_rfl) (by kernel_rfl) (by kernel_rfl) (fun _ _ _ h => h) (Or.inr ⟨by rfl, rfl⟩) (by assumption) ?_
      try simp only [Act.put, List.getElem_toArray, List.getElem_cons_zero, List.getElem_cons_succ, List.setIfInBounds_toArray, List.set_cons_zero, List.set_cons_succ]
      refine wpAnyH_take (i := 20) (v := undef) rfl (by kernel_rfl) (by kernel_rfl) (by kernel_rfl) (fun _ _ _ h => h) (Or.inr ⟨by rfl, rfl⟩) (by assumption) ?_
      try simp only [Act.put, List.getElem_toArray, List.getElem_cons_zero, List.getElem_cons_succ, List.setIfInBounds_toArray, List.set_cons_zero, List.set_cons_succ]
      refine wpAnyH_take (i := 21) (v := undef) rfl (by kernel_rfl) (by kernel_rfl) (by kernel_rfl) (fun _ _ _ h => h) (Or.inr ⟨by rfl, rfl⟩) (by assumption) ?_
      try simp only [Act.put, List.getElem_toArray, List.getElem_cons_zero, List.getElem_cons_succ, List.setIfInBounds_toArray, List.set_cons_zero, List.set_cons_succ]
      refine wpAnyH_take (i := 22) (v := undef) rfl (by kernel_rfl) (by kernel_rfl) (by kernel_rfl) (fun _ _ _ h => h) (Or.inr ⟨by rfl, rfl⟩) (by assumption) ?_
      try simp only [Act.put, List.getElem_toArray, List.getElem_cons_zero, List.getElem_cons_succ, List.setIfInBounds_toArray, List.set_cons_zero, List.set_cons_succ]
      first
        | (refine wpAnyH_take (i := 23) (v := undef) rfl (by kernel_rfl) (by kernel_rfl) (by kernel_rfl) (fun _ _ _ h => h) (Or.inr ⟨by rfl, rfl⟩) (by assumption) ?_)
        | (refine wpAnyH_take (i := 23) (v := ?_) rfl (by kernel_rfl) (by kernel_rfl) (by kernel_rfl) (fun _ _ _ h => h) (Or.inl ⟨by rfl, ?_⟩) (by assumption) ?_
           rotate_left
           (intro w hSw
            (try dsimp only at hSw)
            (go_simp <;> with_reducible rfl)))
      try simp only [Act.put, List.getElem_toArray, List.getElem_cons_zero, List.getElem_cons_succ, List.setIfInBounds_toArray, List.set_cons_zero, List.set_cons_succ]
      first
        | (refine wpAnyH_take (i := 24) (v := undef) rfl (by kernel_rfl) (by kernel_rfl) (by kernel_rfl) (fun _ _ _ h => h) (Or.inr ⟨by rfl, rfl⟩) (by assumption) ?_)
        | (refine wpAnyH_take (i := 24) (v := ?_) rfl (by kernel_rfl) (by kernel_rfl) (by kernel_rfl) (fun _ _ _ h => h) (Or.inl ⟨by rfl, ?_⟩) (by assumption) ?_
           rotate_left
           (intro w hSw
            (try dsimp only at hSw)
            (go_simp <;> with_reducible rfl)))
      try simp only [Act.put, List.getElem_toArray, List.getElem_cons_zero, List.getElem_cons_succ, List.setIfInBounds_toArray, List.set_cons_zero, List.set_cons_succ]
      first
        | (refine wpAnyH_take (i := 25) (v := undef) rfl (by kernel_rfl) (by kernel_rfl) (by kernel_rfl) (fun _ _ _ h => h) (Or.inr ⟨by rfl, rfl⟩) (by assumption) ?_)
        | (refine wpAnyH_take (i := 25) (v := ?_) rfl (by kernel_rfl) (by kernel_rfl) (by kernel_rfl) (fun _ _ _ h => h) (Or.inl ⟨by rfl, ?_⟩) (by assumption) ?_
           rotate_left
           (intro w hSw
            (try dsimp only at hSw)
            (go_simp <;> with_reducible rfl)))
      try simp only [Act.put, List.getElem_toArray, List.getElem_cons_zero, List.getElem_cons_succ, List.setIfInBounds_toArray, List.set_cons_zero, List.set_cons_succ]
      refine wpAnyH_done (by kernel_rfl) ?_ _
      go_wp2_with fail
      go_ret
      exact ⟨rfl, (C4.out.none.trans F11.out).below (Nat.le_refl _) (fun x hx => by have := HLT.out.1; have := C1s.out; omega)⟩
    · rw [Int.toNat_natCast] at hR2
      obtain ⟨m0, m1, m2, m3, m4, m5⟩ := newCode_zero h7
      have bd2 := hide (bd_nats m2)
      rw [Int.toNat_natCast] at bd2
      have PV8 := hide (prow_nats V8H.out m2)
      rw [h7] at CK
      obtain ⟨sy2, sz2, rfl, _⟩ := id hI2
      have AB2 := hide (fun (x y : Int) (w : World) (h : Rs w b2 n (nats lb) (.map (some M2)) (.slice sy2 rs2.length sz2)) => above_any b2 n (by omega) (nats lb) (by have := LV.out; omega) bd2.out (.map (some M2)) (.slice sy2 rs2.length sz2) x y w h)
      have AR := hide (fun (w9 : World) (hv : PRow w9 w8.heap.size (.slice va lb.length vc) (nats lb)) (hB : w8.heap.size ≤ w9.heap.size) => refAb_any n a b va za lb.length vc rs2.length zc (nats lb) LV.out _ w9 hv hB)
      have Rb4 := hide hR2
      have Kb4 := hide hK2
      have hb4 := hR2.lt
      have NE : Hid (¬ b2 = B ∧ ¬ w4.heap.size = B ∧ ¬ w4.heap.size = b2 ∧ w.heap.size ≤ b2 ∧ w.heap.size ≤ B) := hide (by have h1 := R4.out.lt; have h2 := F3.out.size; have h3 := HBlt.out; have h4 := HB2.out; have h5 := H3.out; have h6 := HLT.out.1; have h7 := C1s.out; refine ⟨by omega, by omega, by omega, by omega, by omega⟩)
      generalize hRz : abv n (nats lb) a b = Rz at *
      have HRz := hide hRz
      generalize hK0 : (kindOf rs2 a).getD 0 = K0 at *
      have HK0 := hide hK0
      clear hR2 hK2 hI2 hb2 hM2 h7 m0 m1 m2 m3 m4 m5 hb4 hRz hK0
      go_wp2_with (at_builtin; first | (refine Lib.wpList_append_run_sl _ rfl _ _ _ rfl _ _ rfl rfl hr1 ?_) | (refine Lib.wpList_append_run_sl _ rfl _ _ _ rfl _ _ rfl rfl hr2 ?_))
      refine CK.out.mono ?_
      rintro e w9 ⟨rfl, g9⟩
      have G9 := hide (HG8.out.trans g9)
      have R9 := hide (R4.out.chg G9.out (fun _ _ h => h))
      have s0 := g9.cell (fun h => h) t0
      have s1 := g9.cell (fun h => h) t1
      have s2 := g9.cell (fun h => h) t2
      have L9 : Hid (w4.heap.size < w9.heap.size) := hide (Nat.lt_of_lt_of_le L8.out g9.size)
      clear hr1 hr2 t0 t1 t2 CK z0 z1 z2 f71 y50 z7 y51 hw5 hw8 L8
      go_wp2_with fail
      refine (AB.out a b _ R9.out).mono ?_
      rintro e w10 ⟨rfl, r10, g10⟩
      rw [HR0.out]
      have RB9 := Rb4.out.chg G9.out (fun _ _ h => h)
      obtain ⟨cB, tB⟩ := R9.out.ty
      obtain ⟨cb, tb⟩ := RB9.ty
      have R10 := hide r10
      have RB10 := hide (RB9.chgR R9.out NE.out.1 g10)
      have K10 := hide ((K4.out.chg G9.out (fun h => h)).chgQ tB g10)
      have KB10 := hide ((Kb4.out.chg G9.out (fun h => h)).chgQ tB g10)
      have P10 := hide ((PV8.out.chg g9 (fun _ _ h => h)).chgR R9.out g10)
      have q0 := g10.cell NE.out.2.1 s0
      have q1 := g10.cell NE.out.2.1 s1
      have q2 := g10.cell NE.out.2.1 s2
      have L10 : Hid (w8.heap.size ≤ w10.heap.size) := hide (Nat.le_trans g9.size g10.size)
      have W10 : Hid (Chg (fun _ => False) w w10) := hide (((C4.out.none.trans (F3.out.trans G4.out.none)).trans (G9.out.none.trans g10)).mono (fun x hx e => by have := NE.out.2.2.2.2; omega))
      clear r10 g10 g9 R9 R4 G9 G4 s0 s1 s2 RB9 tB tb K4 Kb4 Rb4 PV8 F3 C4 L9 V8H AB HR0
      go_wp2_with fail
      refine wp_region_held_drew (S := (fun w' => w'.cell? ⟨w4.heap.size, 0, none⟩ = some (.int .i64 (n : Int)) ∧ w'.cell? ⟨w4.heap.size, 1, none⟩ = some (.slice va lb.length vc) ∧ w'.cell? ⟨w4.heap.size, 2, none⟩ = some (.slice za rs2.length zc))) (by kernel_rfl) (by go_keep) (fun hHeld => ?_)
      refine wpAnyH_ready (rs := [0]) (by kernel_rfl) (by simp) ?_
      refine AllReadyH.cons (i := 0) (o := _) rfl (fun K hK => ?_) ?_
      rotate_left
      · exact AllReadyH.nil
      go_simp
      refine (kn.out _).mono ?_
      rintro e w11 ⟨rfl, g11⟩
      have G11 := hide ((Chg.refl (fun _ => False) w10).drew.trans g11)
      have R11 := hide (R10.out.chg G11.out (fun _ _ h => h))
      have RB11 := hide (RB10.out.chg G11.out (fun _ _ h => h))
      have K11 := hide (K10.out.chg G11.out (fun h => h))
      have KB11 := hide (KB10.out.chg G11.out (fun h => h))
      have P11 := hide (P10.out.chg G11.out (fun _ _ h => h))
      have W11 := hide (W10.out.trans G11.out)
      have L11 : Hid (w8.heap.size ≤ w11.heap.size) := hide (Nat.le_trans L10.out G11.out.size)
      have p0 := G11.out.cell (fun h => h) q0
      have p1 := G11.out.cell (fun h => h) q1
      have p2 := G11.out.cell (fun h => h) q2
      clear g11
      go_simp
      refine hK.out _ _ ⟨p0, p1, p2⟩ (fun hHeld => ?_)
      clear hK K
      try simp only [Act.put, List.getElem_toArray, List.getElem_cons_zero, List.getElem_cons_succ, List.setIfInBounds_toArray, List.set_cons_zero, List.set_cons_succ]
      first
        | (refine wpAnyH_take (i := 1) (v := undef) rfl (by kernel_rfl) (by kernel_rfl) (by kernel_rfl) (fun _ _ _ h => h) (Or.inr ⟨by rfl, rfl⟩) (by assumption) ?_)
        | (refine wpAnyH_take (i := 1) (v := ?_) rfl (by kernel_rfl) (by kernel_rfl) (by kernel_rfl) (fun _ _ _ h => h) (Or.inl ⟨by rfl, ?_⟩) (by assumption) ?_
           rotate_left
           (intro w hSw
            (try dsimp only at hSw)
            (go_simp <;> with_reducible rfl)))
      try simp only [Act.put, List.getElem_toArray, List.getElem_cons_zero, List.getElem_cons_succ, List.setIfInBounds_toArray, List.set_cons_zero, List.set_cons_succ]
      first
        | (refine wpAnyH_take (i := 2) (v := undef) rfl (by kernel_rfl) (by kernel_rfl) (by kernel_rfl) (fun _ _ _ h => h) (Or.inr ⟨by rfl, rfl⟩) (by assumption) ?_)
        | (refine wpAnyH_take (i := 2) (v := ?_) rfl (by kernel_rfl) (by kernel_rfl) (by kernel_rfl) (fun _ _ _ h => h) (Or.inl ⟨by rfl, ?_⟩) (by assumption) ?_
           rotate_left
           (intro w hSw
            (try dsimp only at hSw)
            (go_simp <;> with_reducible rfl)))
      try simp only [Act.put, List.getElem_toArray, List.getElem_cons_zero, List.getElem_cons_succ, List.setIfInBounds_toArray, List.set_cons_zero, List.set_cons_succ]
      first
        | (refine wpAnyH_take (i := 3) (v := undef) rfl (by kernel_rfl) (by kernel_rfl) (by kernel_rfl) (fun _ _ _ h => h) (Or.inr ⟨by rfl, rfl⟩) (by assumption) ?_)
        | (refine wpAnyH_take (i := 3) (v := ?_) rfl (by kernel_rfl) (by kernel_rfl) (by kernel_rfl) (fun _ _ _ h => h) (Or.inl ⟨by rfl, ?_⟩) (by assumption) ?_
           rotate_left
           (intro w hSw
            (try dsimp only at hSw)
            (go_simp <;> with_reducible rfl)))
      try simp only [Act.put, List.getElem_toArray, List.getElem_cons_zero, List.getElem_cons_succ, List.setIfInBounds_toArray, List.set_cons_zero, List.set_cons_succ]
      first
        | (refine wpAnyH_take (i := 4) (v := undef) rfl (by kernel_rfl) (by kernel_rfl) (by kernel_rfl) (fun _ _ _ h => h) (Or.inr ⟨by rfl, rfl⟩) (by assumption) ?_)
        | (refine wpAnyH_take (i := 4) (v := ?_) rfl (by kernel_rfl) (by kernel_rfl) (by kernel_rfl) (fun _ _ _ h => h) (Or.inl ⟨by rfl, ?_⟩) (by assumption) ?_
           rotate_left
           (intro w hSw
            (try dsimp only at hSw)
            (go_simp <;> with_reducible rfl)))
      try simp only [Act.put, List.getElem_toArray, List.getElem_cons_zero, List.getElem_cons_succ, List.setIfInBounds_toArray, List.set_cons_zero, List.set_cons_succ]
      first
        | (refine wpAnyH_take (i := 5) (v := undef) rfl (by kernel_rfl) (by kernel_rfl) (by kernel_rfl) (fun _ _ _ h => h) (Or.inr ⟨by rfl, rfl⟩) (by assumption) ?_)
        | (refine wpAnyH_take (i := 5) (v := ?_) rfl (by kernel_rfl) (by kernel_rfl) (by kernel_rfl) (fun _ _ _ h => h) (Or.inl ⟨by rfl, ?_⟩) (by assumption) ?_
           rotate_left
           (intro w hSw
            (try dsimp only at hSw)
            (go_simp <;> with_reducible rfl)))
      try simp only [Act.put, List.getElem_toArray, List.getElem_cons_zero, List.getElem_cons_succ, List.setIfInBounds_toArray, List.set_cons_zero, List.set_cons_succ]
      first
        | (refine wpAnyH_take (i := 6) (v := undef) rfl (by kernel_rfl) (by kernel_rfl) (by kernel_rfl) (fun _ _ _ h => h) (Or.inr ⟨by rfl, rfl⟩) (by assumption) ?_)
        | (refine wpAnyH_take (i := 6) (v := ?_) rfl (by kernel_rfl) (by kernel_rfl) (by kernel_rfl) (fun _ _ _ h => h) (Or.inl ⟨by rfl, ?_⟩) (by assumption) ?_
           rotate_left
           (intro w hSw
            (try dsimp only at hSw)
            (go_simp <;> with_reducible rfl)))
      try simp only [Act.put, List.getElem_toArray, List.getElem_cons_zero, List.getElem_cons_succ, List.setIfInBounds_toArray, List.set_cons_zero, List.set_cons_succ]
      first
        | (refine wpAnyH_take (i := 7) (v := undef) rfl (by kernel_rfl) (by kernel_rfl) (by kernel_rfl) (fun _ _ _ h => h) (Or.inr ⟨by rfl, rfl⟩) (by assumption) ?_)
        | (refine wpAnyH_take (i := 7) (v := ?_) rfl (by kernel_rfl) (by kernel_rfl) (by kernel_rfl) (fun _ _ _ h => h) (Or.inl ⟨by rfl, ?_⟩) (by assumption) ?_
           rotate_left
           (intro w hSw
            (try dsimp only at hSw)
            (go_simp <;> with_reducible rfl)))
      try simp only [Act.put, List.getElem_toArray, List.getElem_cons_zero, List.getElem_cons_succ, List.setIfInBounds_toArray, List.set_cons_zero, List.set_cons_succ]
      first
        | (refine wpAnyH_take (i := 9) (v := undef) rfl (by kernel_rfl) (by kernel_rfl) (by kernel_rfl) (fun _ _ _ h => h) (Or.inr ⟨by rfl, rfl⟩) (by assumption) ?_)
        | (refine wpAnyH_take (i := 9) (v := ?_) rfl (by kernel_rfl) (by kernel_rfl) (by kernel_rfl) (fun _ _ _ h => h) (Or.inl ⟨by rfl, ?_⟩) (by assumption) ?_
           rotate_left
           (intro w hSw
            (try dsimp only at hSw)
            (go_simp <;> with_reducible rfl)))
      try simp only [Act.put, List.getElem_toArray, List.getElem_cons_zero, List.getElem_cons_succ, List.setIfInBounds_toArray, List.set_cons_zero, List.set_cons_succ]
      first
        | (refine wpAnyH_take (i := 10) (v := undef) rfl (by kernel_rfl) (by kernel_rfl) (by kernel_rfl) (fun _ _ _ h => h) (Or.inr ⟨by rfl, rfl⟩) (by assumption) ?_)
        | (refine wpAnyH_take (i := 10) (v := ?_) rfl (by kernel_rfl) (by kernel_rfl) (by kernel_rfl) (fun _ _ _ h => h) (Or.inl ⟨by rfl, ?_⟩) (by assumption) ?_
           rotate_left
           (intro w hSw
            (try dsimp only at hSw)
            (go_simp <;> with_reducible rfl)))
      try simp only [Act.put, List.getElem_toArray, List.getElem_cons_zero, List.getElem_cons_succ, List.setIfInBounds_toArray, List.set_cons_zero, List.set_cons_succ]
      first
        | (refine wpAnyH_take (i := 11) (v := undef) rfl (by kernel_rfl) (by kernel_rfl) (by kernel_rfl) (fun _ _ _ h => h) (Or.inr ⟨by rfl, rfl⟩) (by assumption) ?_)
        | (refine wpAnyH_take (i := 11) (v := ?_) rfl (by kernel_rfl) (by kernel_rfl) (by kernel_rfl) (fun _ _ _ h => h) (Or.inl ⟨by rfl, ?_⟩) (by assumption) ?_
           rotate_left
           (intro w hSw
            (try dsimp only at hSw)
            (go_simp <;> with_reducible rfl)))
      try simp only [Act.put, List.getElem_toArray, List.getElem_cons_zero, List.getElem_cons_succ, List.setIfInBounds_toArray, List.set_cons_zero, List.set_cons_succ]
      refine wpAnyH_ready (rs := [8]) (by kernel_rfl) (by simp) ?_
      refine AllReadyH.cons (i := 8) (o := _) rfl (fun K hK => ?_) ?_
      rotate_left
      · exact AllReadyH.nil
      go_simp
      refine (AB2.out a b _ RB11.out).mono ?_
      rintro e w12 ⟨rfl, r12, g12⟩
      rw [HRz.out]
      obtain ⟨cB, tB⟩ := RB11.out.ty
      have RB12 := hide r12
      have R12 := hide (R11.out.chgR RB11.out (fun e => NE.out.1 e.symm) g12)
      have K12 := hide (K11.out.chgQ tB g12)
      have KB12 := hide (KB11.out.chgQ tB g12)
      have P12 := hide (P11.out.chgR RB11.out g12)
      have W12 : Hid (Chg (fun _ => False) w w12) := hide ((W11.out.none.trans g12).mono (fun x hx e => by have := NE.out.2.2.2.1; omega))
      have L12 : Hid (w8.heap.size ≤ w12.heap.size) := hide (Nat.le_trans L11.out g12.size)
      have o0 := g12.cell NE.out.2.2.1 p0
      have o1 := g12.cell NE.out.2.2.1 p1
      have o2 := g12.cell NE.out.2.2.1 p2
      clear g12 r12 tB
      go_simp
      refine hK.out _ _ ⟨o0, o1, o2⟩ (fun hHeld => ?_)
      clear hK K
      try simp only [Act.put, List.getElem_toArray, List.getElem_cons_zero, List.getElem_cons_succ, List.setIfInBounds_toArray, List.set_cons_zero, List.set_cons_succ]
      refine wpAnyH_ready (rs := [12]) (by kernel_rfl) (by simp) ?_
      refine AllReadyH.cons (i := 12) (o := _) rfl (fun K hK => ?_) ?_
      rotate_left
      · exact AllReadyH.nil
      go_simp
      refine (AR.out _ P12.out L12.out).mono ?_
      rintro e w13 ⟨rfl, g13⟩
      have RB13 := hide (RB12.out.chg g13 (fun _ _ h => h))
      have R13 := hide (R12.out.chg g13 (fun _ _ h => h))
      have K13 := hide (K12.out.chg g13 (fun h => h))
      have KB13 := hide (KB12.out.chg g13 (fun h => h))
      have W13 := hide (W12.out.trans g13)
      have l0 := g13.cell (fun h => h) o0
      have l1 := g13.cell (fun h => h) o1
      have l2 := g13.cell (fun h => h) o2
      clear g13
      go_simp
      refine hK.out _ _ ⟨l0, l1, l2⟩ (fun hHeld => ?_)
      clear hK K
      try simp only [Act.put, List.getElem_toArray, List.getElem_cons_zero, List.getElem_cons_succ, List.setIfInBounds_toArray, List.set_cons_zero, List.set_cons_succ]
      first
        | (refine wpAnyH_take (i := 13) (v := undef) rfl (by kernel_rfl) (by kernel_rfl) (by kernel_rfl) (fun _ _ _ h => h) (Or.inr ⟨by rfl, rfl⟩) (by assumption) ?_)
        | (refine wpAnyH_take (i := 13) (v := ?_) rfl (by kernel_rfl) (by kernel_rfl) (by kernel_rfl) (fun _ _ _ h => h) (Or.inl ⟨by rfl, ?_⟩) (by assumption) ?_
           rotate_left
           (intro w hSw
            (try dsimp only at hSw)
            (go_simp <;> with_reducible rfl)))
      try simp only [Act.put, List.getElem_toArray, List.getElem_cons_zero, List.getElem_cons_succ, List.setIfInBounds_toArray, List.set_cons_zero, List.set_cons_succ]
      first
        | (refine wpAnyH_take (i := 14) (v := undef) rfl (by kernel_rfl) (by kernel_rfl) (by kernel_rfl) (fun _ _ _ h => h) (Or.inr ⟨by rfl, rfl⟩) (by assumption) ?_)
        | (refine wpAnyH_take (i := 14) (v := ?_) rfl (by kernel_rfl) (by kernel_rfl) (by kernel_rfl) (fun _ _ _ h => h) (Or.inl ⟨by rfl, ?_⟩) (by assumption) ?_
           rotate_left
           (intro w hSw
            (try dsimp only at hSw)
            (go_simp <;> with_reducible rfl)))
      try simp only [Act.put, List.getElem_toArray, List.getElem_cons_zero, List.getElem_cons_succ, List.setIfInBounds_toArray, List.set_cons_zero, List.set_cons_succ]
      first
        | (refine wpAnyH_take (i := 15) (v := undef) rfl (by kernel_rfl) (by kernel_rfl) (by kernel_rfl) (fun _ _ _ h => h) (Or.inr ⟨by rfl, rfl⟩) (by assumption) ?_)
        | (refine wpAnyH_take (i := 15) (v := ?_) rfl (by kernel_rfl) (by kernel_rfl) (by kernel_rfl) (fun _ _ _ h => h) (Or.inl ⟨by rfl, ?_⟩) (by assumption) ?_
           rotate_left
           (intro w hSw
            (try dsimp only at hSw)
            (go_simp <;> with_reducible rfl)))
      try simp only [Act.put, List.getElem_toArray, List.getElem_cons_zero, List.getElem_cons_succ, List.setIfInBounds_toArray, List.set_cons_zero, List.set_cons_succ]
      first
        | (refine wpAnyH_take (i := 16) (v := undef) rfl (by kernel_rfl) (by kernel_rfl) (by kernel_rfl) (fun _ _ _ h => h) (Or.inr ⟨by rfl, rfl⟩) (by assumption) ?_)
        | (refine wpAnyH_take (i := 16) (v := ?_) rfl (by kernel_rfl) (by kernel_rfl) (by kernel_rfl) (fun _ _ _ h => h) (Or.inl ⟨by rfl, ?_⟩) (by assumption) ?_
           rotate_left
           (intro w hSw
            (try dsimp only at hSw)
            (go_simp <;> with_reducible rfl)))
      try simp only [Act.put, List.getElem_toArray, List.getElem_cons_zero, List.getElem_cons_succ, List.setIfInBounds_toArray, List.set_cons_zero, List.set_cons_succ]
      first
        | (refine wpAnyH_take (i := 18) (v := undef) rfl (by kernel_rfl) (by kernel_rfl) (by kernel_rfl) (fun _ _ _ h => h) (Or.inr ⟨by rfl, rfl⟩) (by assumption) ?_)
        | (refine wpAnyH_take (i := 18) (v := ?_) rfl (by kernel_rfl) (by kernel_rfl) (by kernel_rfl) (fun _ _ _ h => h) (Or.inl ⟨by rfl, ?_⟩) (by assumption) ?_
           rotate_left
           (intro w hSw
            (try dsimp only at hSw)
            (go_simp <;> with_reducible rfl)))
      try simp only [Act.put, List.getElem_toArray, List.getElem_cons_zero, List.getElem_cons_succ, List.setIfInBounds_toArray, List.set_cons_zero, List.set_cons_succ]
      first
        | (refine wpAnyH_take (i := 19) (v := undef) rfl (by kernel_rfl) (by kernel_rfl) (by kernel_rfl) (fun _ _ _ h => h) (Or.inr ⟨by rfl, rfl⟩) (by assumption) ?_)
        | (refine wpAnyH_take (i := 19) (v := ?_) rfl (by kernel_rfl) (by kernel_rfl) (by kernel_rfl) (fun _ _ _ h => h) (Or.inl ⟨by rfl, ?_⟩) (by assumption) ?_
           rotate_left
           (intro w hSw
            (try dsimp only at hSw)
            (go_simp <;> with_reducible rfl)))
      try simp only [Act.put, List.getElem_toArray, List.getElem_cons_zero, List.getElem_cons_succ, List.setIfInBounds_toArray, List.set_cons_zero, List.set_cons_succ]
      refine wpAnyH_ready (rs := [17]) (by kernel_rfl) (by simp) ?_
      refine AllReadyH.cons (i := 17) (o := _) rfl (fun K hK => ?_) ?_
      rotate_left
      · exact AllReadyH.nil
      go_simp
      refine (Status_some b2 M2 _ _ a HA.out _ RB13.out.kinds KB13.out).mono ?_
      rintro e w14 ⟨rfl, rfl⟩
      rw [HK0.out]
      go_simp
      refine hK.out _ _ ⟨l0, l1, l2⟩ (fun hHeld => ?_)
      clear hK K
      try simp only [Act.put, List.getElem_toArray, List.getElem_cons_zero, List.getElem_cons_succ, List.setIfInBounds_toArray, List.set_cons_zero, List.set_cons_succ]
      refine wpAnyH_ready (rs := [20]) (by kernel_rfl) (by simp) ?_
      refine AllReadyH.cons (i := 20) (o := _) rfl (fun K hK => ?_) ?_
      rotate_left
      · exact AllReadyH.nil
      go_simp
      refine (Status_some B M _ _ a HA.out _ R13.out.kinds K13.out).mono ?_
      rintro e w14 ⟨rfl, rfl⟩
      rw [HK0.out]
      go_simp
      refine hK.out _ _ ⟨l0, l1, l2⟩ (fun hHeld => ?_)
      clear hK K
      try simp only [Act.put, List.getElem_toArray, List.getElem_cons_zero, List.getElem_cons_succ, List.setIfInBounds_toArray, List.set_cons_zero, List.set_cons_succ]
      first
        | (refine wpAnyH_take (i := 21) (v := undef) rfl (by kernel_rfl) (by kernel_rfl) (by kernel_rfl) (fun _ _ _ h => h) (Or.inr ⟨by rfl, rfl⟩) (by assumption) ?_)
        | (refine wpAnyH_take (i := 21) (v := ?_) rfl (by kernel_rfl) (by kernel_rfl) (by kernel_rfl) (fun _ _ _ h => h) (Or.inl ⟨by rfl, ?_⟩) (by assumption) ?_
           rotate_left
           (intro w hSw
            (try dsimp only at hSw)
            (go_simp <;> with_reducible rfl)))
      try simp only [Act.put, List.getElem_toArray, List.getElem_cons_zero, List.getElem_cons_succ, List.setIfInBounds_toArray, List.set_cons_zero, List.set_cons_succ]
      first
        | (refine wpAnyH_take (i := 22) (v := undef) rfl (by kernel_rfl) (by kernel_rfl) (by kernel_rfl) (fun _ _ _ h => h) (Or.inr ⟨by rfl, rfl⟩) (by assumption) ?_)
        | (refine wpAnyH_take (i := 22) (v := ?_) rfl (by kernel_rfl) (by kernel_rfl) (by kernel_rfl) (fun _ _ _ h => h) (Or.inl ⟨by rfl, ?_⟩) (by assumption) ?_
           rotate_left
           (intro w hSw
            (try dsimp only at hSw)
            (go_simp <;> with_reducible rfl)))
      try simp only [Act.put, List.getElem_toArray, List.getElem_cons_zero, List.getElem_cons_succ, List.setIfInBounds_toArray, List.set_cons_zero, List.set_cons_succ]
      first
        | (refine wpAnyH_take (i := 23) (v := undef) rfl (by kernel_rfl) (by kernel_rfl) (by kernel_rfl) (fun _ _ _ h => h) (Or.inr ⟨by rfl, rfl⟩) (by assumption) ?_)
        | (refine wpAnyH_take (i := 23) (v := ?_) rfl (by kernel_rfl) (by kernel_rfl) (by kernel_rfl) (fun _ _ _ h => h) (Or.inl ⟨by rfl, ?_⟩) (by assumption) ?_
           rotate_left
           (intro w hSw
            (try dsimp only at hSw)
            (go_simp <;> with_reducible rfl)))
      try simp only [Act.put, List.getElem_toArray, List.getElem_cons_zero, List.getElem_cons_succ, List.setIfInBounds_toArray, List.set_cons_zero, List.set_cons_succ]
      first
        | (refine wpAnyH_take (i := 24) (v := undef) rfl (by kernel_rfl) (by kernel_rfl) (by kernel_rfl) (fun _ _ _ h => h) (Or.inr ⟨by rfl, rfl⟩) (by assumption) ?_)
        | (refine wpAnyH_take (i := 24) (v := ?_) rfl (by kernel_rfl) (by kernel_rfl) (by kernel_rfl) (fun _ _ _ h => h) (Or.inl ⟨by rfl, ?_⟩) (by assumption) ?_
           rotate_left
           (intro w hSw
            (try dsimp only at hSw)
            (go_simp <;> with_reducible rfl)))
      try simp only [Act.put, List.getElem_toArray, List.getElem_cons_zero, List.getElem_cons_succ, List.setIfInBounds_toArray, List.set_cons_zero, List.set_cons_succ]
      first
        | (refine wpAnyH_take (i := 25) (v := undef) rfl (by kernel_rfl) (by kernel_rfl) (by kernel_rfl) (fun _ _ _ h => h) (Or.inr ⟨by rfl, rfl⟩) (by assumption) ?_)
        | (refine wpAnyH_take (i := 25) (v := ?_) rfl (by kernel_rfl) (by kernel_rfl) (by kernel_rfl) (fun _ _ _ h => h) (Or.inl ⟨by rfl, ?_⟩) (by assumption) ?_
           rotate_left
           (intro w hSw
            (try dsimp only at hSw)
            (go_simp <;> with_reducible rfl)))
      try simp only [Act.put, List.getElem_toArray, List.getElem_cons_zero, List.getElem_cons_succ, List.setIfInBounds_toArray, List.set_cons_zero, List.set_cons_succ]
      refine wpAnyH_done (by kernel_rfl) ?_ _
      go_wp2_with fail
      go_ret
      exact ⟨rfl, W13.out.below (Nat.le_refl _) (fun _ h => h.elim)⟩

theorem withs_ref (W : World) (v : Value) (r : RefIn) (h : RefIs W v r) (u : Value) (lq : List (Int × Int)) (hu : ∃ a l c, u = .slice a l c ∧ PairsIs W a l c lq) (a : Int) (ha : In64 a) (b : Int) :
    Calls Try.prog 7 #[v, u, .int .i64 a, .int .i64 b] W fun e w' => e = .returned (.bool true) ∧ Below W.heap.size W w' := by
  obtain ⟨rfl, hN, ⟨p1, p2, p3, p4, p5⟩, ⟨s1, s2, s3, s4, s5⟩⟩ := h
  obtain ⟨qa, ql, qc, rfl, q1, q2, q3, q4, q5⟩ := hu
  exact withs_walk r.N a b ha r.pa r.sa qa r.pl r.pc r.sl r.sc ql qc r.rp r.rs lq p1 s1 q1 p2 s2 q2 p3 s3 q3 s4 W p5 s5 q5

end Go.Proofs.Ytdcpcemihpkkaaa
