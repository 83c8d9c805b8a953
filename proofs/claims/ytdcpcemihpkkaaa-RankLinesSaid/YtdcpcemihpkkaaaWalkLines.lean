/- The walk of RankLines. -/
import Derived.Test.YtdcpcemihpkkaaaRefLine
import Derived.Test.YtdcpcemihpkkaaaLine2
import Derived.Laws.StructEq
import Derived.Test.YtdcpcemihpkkaaaCheck
import Derived.Test.YtdcpcemihpkkaaaOpens
namespace Go.Proofs.Ytdcpcemihpkkaaa
open Go.RowKit Go.Maps
set_option linter.unusedVariables false
set_option linter.unusedSimpArgs false

theorem eq43 (a b c d : Int) (w : World) : (Op.equalIn 10000 43 (.agg #[.int .i64 a, .int .i64 b]) (.agg #[.int .i64 c, .int .i64 d])).run Try.prog w = .ok (a == c && b == d) w := by
  have u3 := Try.underlying3
  have a3 := Try.isAgg3
  have z3 := Try.sizeOf3
  rw [show (10000 : Nat) = 9999 + 1 from rfl, Op.equalIn]
  simp only [Sem.run_bind, run_underlying Try.underlying43, Result.andThen_ok]
  simp only [Std.Legacy.Range.forIn_eq_forIn_range', Std.Legacy.Range.size, Nat.sub_zero, Nat.add_sub_cancel, Nat.div_one, List.range'_succ, List.range'_zero, List.forIn_cons, List.forIn_nil]
  go_simp
  by_cases h1 : a = c <;> by_cases h2 : b = d <;> simp [h1, h2]

theorem pacc_snoc {w : World} {base : Nat} {v : Value} {l : List (Int × Int)} {x y : Int} (h : w.ownsRow base 43 2 v (l.length + 1) (cells2 l ++ [.int .i64 x, .int .i64 y])) : PAcc w base v (l ++ [(x, y)]) := by
  unfold PAcc
  rw [List.length_append, cells2_app]
  exact h

set_option maxRecDepth 100000 in
set_option maxHeartbeats 64000000 in
theorem lines_walk (N : Int) (pa sa : Option Addr) (pl pc sl sc : Nat) (rp rs : List (Int × Int)) (hpl : pl = rp.length) (hsl : sl = rs.length) (hpc : pl ≤ pc) (hsc : sl ≤ sc) (hpm : pc ≤ maxLen) (hsm : sc ≤ maxLen) (hin : ∀ s ∈ rs, In64 s.1 ∧ In64 s.2) (w : World)
    (hp : IRow w w.heap.size (.slice pa pl pc) rp) (hs : IRow w w.heap.size (.slice sa sl sc) rs) :
    Calls Try.prog 6 #[.agg #[.int .i64 N, .slice pa pl pc, .slice sa sl sc]] w fun e w' => e = .returned (.bool true) ∧ Below w.heap.size w w' := by
  obtain ⟨i0, hi0, hz0, hz1, hz2⟩ := info_parts info3
  obtain ⟨q0, hq0, hy0, hy1, hy2⟩ := info_parts info43
  have C1 := hide (al w (.cells #[.int .i64 N, .slice pa pl pc, .slice sa sl sc] 25))
  have to := hide (to_any N pa sa pl pc sl sc rp rs hpl hsl hpc hsc hpm hsm hin _ ((hp.chg C1.out (fun _ _ h => h)).up C1.out.size) ((hs.chg C1.out (fun _ _ h => h)).up C1.out.size))
  have lp2 : (rp.take 40).length ≤ 40 := by rw [List.length_take]; omega
  have ls2 : (rs.take 20).length ≤ 20 := by rw [List.length_take]; omega
  obtain ⟨rp2, hrp⟩ : ∃ l, rp.take 40 = l := ⟨_, rfl⟩
  obtain ⟨rs2, hrs⟩ : ∃ l, rs.take 20 = l := ⟨_, rfl⟩
  rw [hrp, hrs] at to
  rw [hrp] at lp2
  rw [hrs] at ls2
  have LP := hide lp2
  have LS := hide ls2
  have kn := hide known_any
  clear hp hs hin hpl hsl hpc hsc hpm hsm hrp hrs lp2 ls2
  by_cases hN : 20 < N
  · have C2 := hide C1.out
    clear to C1
    go_enter Try.func6, Try.ntmps6
    go_wp2_with fail
    refine (kn.out _).mono ?_
    rintro e w2 ⟨rfl, g2⟩
    have C3 := hide (C2.out.trans g2)
    clear g2 C2
    go_wp2_with fail
    go_ret
    exact ⟨rfl, C3.out.below (Nat.le_refl _) (fun _ h => h.elim)⟩
  have hN' : N ≤ 20 := by omega
  go_enter Try.func6, Try.ntmps6
  go_wp2_with fail
  refine to.out.mono ?_
  rintro e w1 ⟨pv, sv, j1, j2, g1, h⟩
  have C2 := hide (C1.out.trans g1)
  obtain ⟨ya, yc, rfl, j1'⟩ := id j1
  obtain ⟨za, zc, rfl, j2'⟩ := id j2
  have C3 := hide (al w1 (.cells #[.int .i64 N, .slice ya rp2.length yc, .slice za rs2.length zc] 25))
  have BX := hide (blk_new w1 (.cells #[.int .i64 N, .slice ya rp2.length yc, .slice za rs2.length zc] 25))
  have C4 := hide (C2.out.trans C3.out)
  rcases h with ⟨h6, rfl⟩ | ⟨h6, B, M, su, rfl, hb, hB, hR, hK, hI⟩
  · have CK := hide (fun (w9 : World) (h : Chg (fun _ => False) (w1.alloc (.cells #[.int .i64 N, .slice ya rp2.length yc, .slice za rs2.length zc] 25)) w9) => check_any N ya za rp2.length yc rs2.length zc rp2 rs2 rfl rfl (by have := LP.out; omega) (by have := LS.out; omega) _ w9 (Nat.le_trans g1.size (Nat.le_trans C3.out.size h.size)) ((j1.chg C3.out (fun _ _ h => h)).chg h (fun _ _ h => h)) ((j2.chg C3.out (fun _ _ h => h)).chg h (fun _ _ h => h)))
    clear g1 to C1 C2 C3 j1 j2 j1' j2'
    generalize newCode N rp2 rs2 = code at *
    have q1 : (code != 0) = true := by simpa using h6
    clear h6
    go_wp2_with fail
    generalize hw2 : w1.alloc (.cells #[.int .i64 N, .slice ya rp2.length yc, .slice za rs2.length zc] 25) = w2 at *
    have x0 := blk_cell BX.out 0
    have x1 := blk_cell BX.out 1
    have x2 := blk_cell BX.out 2
    simp only [List.getElem?_toArray, List.getElem?_cons_zero, List.getElem?_cons_succ] at x0 x1 x2
    generalize w1.heap.size = B2 at *
    refine (kn.out _).mono ?_
    rintro e w3 ⟨rfl, g3⟩
    have D1 := hide g3
    have y0 := D1.out.cell (fun h => h) x0
    have y1 := D1.out.cell (fun h => h) x1
    have y2 := D1.out.cell (fun h => h) x2
    clear g3 x0 x1 x2
    go_wp2_with fail
    refine (CK.out _ D1.out).mono ?_
    rintro e w4 ⟨rfl, g4⟩
    have D2 := hide (D1.out.trans g4)
    clear g4
    go_wp2_with fail
    go_ret
    exact ⟨rfl, (C4.out.trans D2.out).below (Nat.le_refl _) (fun _ h => h.elim)⟩
  · obtain ⟨n0, n1, n2, n3, n4, n5⟩ := newCode_zero h6
    obtain ⟨n, rfl⟩ : ∃ n : Nat, N = n := ⟨N.toNat, by omega⟩
    rw [Int.toNat_natCast] at hR n5
    have hn20 : n ≤ 20 := by omega
    have bd := hide (bd_nats n2)
    rw [Int.toNat_natCast] at bd
    have LN : Hid ((nats rp2).length ≤ 1000) := hide (by unfold nats; rw [List.length_map]; have := LP.out; omega)
    have LN1 : Hid ((nats rp2).length ≤ 1000000) := hide (by have := LN.out; omega)
    obtain ⟨sy, sz, esu, _⟩ := id hI
    have HLT := hide (And.intro hb hB)
    have C1s := hide C1.out.size
    have HBw : Hid (B < w1.heap.size) := hide hR.lt
    obtain ⟨l, hl1, hl2, hl3, hl4⟩ := line_law n5
    have LO := hide hl4
    have LL := hide hl3
    have AR := hide (fun (x y : Nat) (w9 : World) (h : Chg (fun z => z = B) (w1.alloc (.cells #[.int .i64 (n : Int), .slice ya rp2.length yc, .slice za rs2.length zc] 25)) w9) => refAb_any n (x : Int) (y : Int) ya za rp2.length yc rs2.length zc (nats rp2) LN.out _ w9 (((prow_nats j1 n2).chg C3.out (fun _ _ h => h)).chg h (fun x hx e => by omega)) (Nat.le_trans g1.size (Nat.le_trans C3.out.size h.size)))
    have RL := hide (fun (w9 : World) (h : Chg (fun z => z = B) (w1.alloc (.cells #[.int .i64 (n : Int), .slice ya rp2.length yc, .slice za rs2.length zc] 25)) w9) => refLine_any n (by omega) (nats rp2) LN.out l hl1 ya za rp2.length yc rs2.length zc _ w9 (Nat.le_trans g1.size (Nat.le_trans C3.out.size h.size)) (((prow_nats j1 n2).chg C3.out (fun _ _ h => h)).chg h (fun x hx e => by omega)))
    have AB := hide (fun (x y : Int) (w : World) (h : Rs w B n (nats rp2) (.map (some M)) su) => above_any B n (by omega) (nats rp2) LN1.out bd.out (.map (some M)) su x y w h)
    have R1 := hide (hR.chg C3.out (fun _ _ h => h))
    have LI := hide (line_own B n (by omega) (nats rp2) LN1.out bd.out (.map (some M)) su (natI l) hl2 _ R1.out)
    have PA := hide (fun (w : World) (h : Rs w B n (nats rp2) (.map (some M)) su) => pairs_some B n (by omega) (nats rp2) LN1.out bd.out (.map (some M)) su w h)
    have TP := hide (fun (w : World) (h : Rs w B n (nats rp2) (.map (some M)) su) => tops_some B n (by omega) (nats rp2) LN1.out bd.out (.map (some M)) su w h)
    clear g1 to C1 C2 C3 j1 j2 j1' j2' hR hK hI hb hB h6 n0 n1 n2 n3 n4 n5 bd LN LN1 LP LS hN hN' esu hl1 hl2 hl3 hl4
    generalize nats rp2 = ps at *
    go_wp2_with fail
    generalize hw2 : w1.alloc (.cells #[.int .i64 (n : Int), .slice ya rp2.length yc, .slice za rs2.length zc] 25) = w2 at *
    have x0 := blk_cell BX.out 0
    have x1 := blk_cell BX.out 1
    have x2 := blk_cell BX.out 2
    simp only [List.getElem?_toArray, List.getElem?_cons_zero, List.getElem?_cons_succ] at x0 x1 x2
    generalize w1.heap.size = B2 at *
    clear BX hw2
    have NB2 : Hid (¬ B2 = B) := hide (by have := HBw.out; omega)
    refine LI.out.mono ?_
    rintro e w3 ⟨⟨v6, bl, rfl, hbl, o6⟩, r3, g3⟩
    obtain ⟨la, lc, rfl, _⟩ := ints_own o6
    rw [natI_len, LL.out] at o6 ⊢
    have HBL := hide hbl
    have V3 := hide o6
    have R3 := hide r3
    have F3 := hide g3
    have y0 := g3.cell NB2.out x0
    have y1 := g3.cell NB2.out x1
    have y2 := g3.cell NB2.out x2
    have HBO : Hid (B < w3.heap.size) := hide r3.lt
    clear o6 hbl r3 g3 LI R1 HBw
    go_wp2_with fail
    go_loopw [9, 7, 8] (fun iv tv pv wr => ∃ i : Nat, i ≤ n ∧ iv = .int .i64 i ∧ Hid (UAcc wr w3.heap.size tv (topsN n ps i)) ∧ Hid (PAcc wr w3.heap.size pv (pairsF n ps i)) ∧ Hid (Chg (fun _ => False) w3 wr)) (fun iv _ _ _ => n - (intOf iv).toNat)
    case atStart => exact ⟨0, Nat.zero_le _, rfl, ⟨rfl, Or.inl ⟨rfl, rfl⟩⟩, ⟨rfl, Or.inl ⟨rfl, rfl⟩⟩, Chg.refl _ _⟩
    case round =>
      obtain ⟨i, hi, rfl, hU, hP, hC⟩ := hrel
      have z0 := hC.out.cell (fun h => h) y0
      by_cases hlt : i < n
      · have hpl := pairsF_len n ps i
        have hpn : i * n ≤ 20 * 20 := Nat.mul_le_mul (by omega) hn20
        have HSU := hide (pairsF_succ n ps i)
        obtain ⟨pl, hpl2⟩ : ∃ pl, pl = pairsF n ps i := ⟨_, rfl⟩
        rw [← hpl2] at hP hpl HSU
        clear hpl2
        go_wp2_with fail
        clear z0
        generalize wr = w4 at *
        go_loopw [11, 10, 8] (fun kv bv pv wr2 => ∃ k : Nat, k ≤ n ∧ kv = .int .i64 k ∧ bv = .bool (topB n ps i k) ∧ Hid (PAcc wr2 w3.heap.size pv (pl ++ (underF n ps (i : Int) k).map fun c => ((i : Int), c))) ∧ Hid (UAcc wr2 w3.heap.size u7 (topsN n ps i)) ∧ Hid (Chg (fun _ => False) w3 wr2)) (fun kv _ _ _ => n - (intOf kv).toNat)
        case atStart => exact ⟨0, Nat.zero_le _, rfl, rfl, by unfold Hid; simpa [underF] using hP.out, hU, hC⟩
        case round =>
          clear hU hP hC
          obtain ⟨k, hk, rfl, rfl, hP, hU, hC⟩ := hrel
          have z0 := hC.out.cell (fun h => h) y0
          by_cases hlk : k < n
          · have z1 := hC.out.cell (fun h => h) y1
            have z2 := hC.out.cell (fun h => h) y2
            have TB0 := topB_succ n ps i k
            cases ht : topB n ps i k
            · rw [ht, Bool.false_and] at TB0
              have TB := hide TB0
              have C5 := hC
              have P5 := hP
              have U5 := hU
              have e0 := z0
              have e1 := z1
              have e2 := z2
              clear hC hP hU z0 z1 z2 TB0 ht
              cases hik : abN n ps i k
              · have US : Hid (underF n ps (i : Int) (k + 1) = underF n ps (i : Int) k) := hide (by rw [underF_succ, show abv n ps (i : Int) (k : Int) = false from hik]; simp)
                have ar := hide (AR.out i k _ (F3.out.trans C5.out.none))
                rw [show abv n ps (i : Int) (k : Int) = false from hik] at ar
                clear hik
                go_wp2_with fail
                refine ar.out.mono ?_
                rintro e w6 ⟨rfl, g6⟩
                have P6 := hide (own_chg (show wr.ownsRow w3.heap.size 43 2 u8 _ _ from P5.out) g6 (fun x hx h => h))
                have U6 := hide (own_chg (show wr.ownsRow w3.heap.size 3 1 u7 _ _ from U5.out) g6 (fun x hx h => h))
                have C6 := hide (C5.out.trans g6)
                clear g6 ar P5 U5 C5 e0 e1 e2
                go_wp2_with fail
                go_roundw
                case rel => exact ⟨k + 1, by omega, by go_num, by rw [TB.out], by unfold Hid; rw [US.out]; exact P6.out, U6.out, C6⟩
                case measure => simp [intOf]; omega
              · have US : Hid (underF n ps (i : Int) (k + 1) = underF n ps (i : Int) k ++ [(k : Int)]) := hide (by rw [underF_succ, show abv n ps (i : Int) (k : Int) = true from hik]; simp)
                have hul := underF_len n ps (i : Int) k
                have ar := hide (AR.out i k _ (F3.out.trans C5.out.none))
                rw [show abv n ps (i : Int) (k : Int) = true from hik] at ar
                clear hik
                obtain ⟨ql, hql⟩ : ∃ ql, ql = pl ++ (underF n ps (i : Int) k).map fun c => ((i : Int), c) := ⟨_, rfl⟩
                have HQ2 : Hid (pl ++ (underF n ps (i : Int) (k + 1)).map (fun c => ((i : Int), c)) = ql ++ [((i : Int), (k : Int))]) := hide (by rw [US.out, List.map_append, ← List.append_assoc, ← hql]; rfl)
                have hqn : ql.length ≤ 500 := by rw [hql, List.length_append, List.length_map]; omega
                rw [← hql] at P5
                clear hql US hul
                go_wp2_with fail
                refine ar.out.mono ?_
                rintro e w6 ⟨rfl, g6⟩
                have P6 := own_chg (show wr.ownsRow w3.heap.size 43 2 u8 _ _ from P5.out) g6 (fun x hx h => h)
                have U6 := own_chg (show wr.ownsRow w3.heap.size 3 1 u7 _ _ from U5.out) g6 (fun x hx h => h)
                have O3 := hide (P6.alloc (.cells #[.int .i64 (i : Int), .int .i64 (k : Int)] 43))
                have Q3 := hide (U6.alloc (.cells #[.int .i64 (i : Int), .int .i64 (k : Int)] 43))
                have NB := hide (World.news_of_block (cs := #[.int .i64 (i : Int), .int .i64 (k : Int)]) (t := 43) (fr := (0, 0)) (heap_alloc_new w6 _))
                have C6 := hide ((C5.out.trans g6).trans (al w6 (.cells #[.int .i64 (i : Int), .int .i64 (k : Int)] 43)))
                have HO3 : Hid (w3.heap.size ≤ (w6.alloc (.cells #[.int .i64 (i : Int), .int .i64 (k : Int)] 43)).heap.size) := hide C6.out.size
                have hcl := cells2_len ql
                clear g6 ar P5 U5 C5 P6 U6 e0 e1 e2
                go_wp2_with (at_builtin; refine wpList_append_own _ rfl _ _ 22 rfl w3.heap.size 43 q0 (.agg #[.int .i64 0, .int .i64 0]) 2 16 Try.underlying22 hq0 hy0 hy1 hy2 rfl (by decide) _ ql.length (cells2 ql) rfl O3.out ⟨w6.heap.size, 0, none⟩ 1 1 [.int .i64 (i : Int), .int .i64 (k : Int)] rfl rfl NB.out (by simp [Value.oneCell']) (by simp [maxLen]; omega) (by omega) HO3.out ?_; intro v' w7 hown hgrow hq)
                have G3 := own_chgNo O3.out hgrow (S := fun x => w3.heap.size ≤ x) (fun x h => h)
                have P7 : Hid (PAcc w7 w3.heap.size v' (ql ++ [((i : Int), (k : Int))])) := hide (pacc_snoc hown)
                have U7 : Hid (UAcc w7 w3.heap.size u7 (topsN n ps i)) := hide (own_grownT Q3.out O3.out (by decide) hgrow)
                have C7 : Hid (Chg (fun _ => False) w3 w7) := hide (by
                  have h1 : Chg (fun x => w3.heap.size ≤ x) w3 w7 := C6.out.none.trans G3
                  exact h1.mono (fun x hx h => by omega))
                clear hown hgrow G3 O3 Q3 NB C6
                go_wp2_with fail
                go_roundw
                case rel => exact ⟨k + 1, by omega, by go_num, by rw [TB.out], by unfold Hid; rw [HQ2.out]; exact P7.out, U7, C7⟩
                case measure => simp [intOf]; omega
            · rw [ht, Bool.true_and] at TB0
              have ar1 := hide (AR.out k i _ (F3.out.trans hC.out.none))
              rw [show abv n ps (k : Int) (i : Int) = abN n ps k i from rfl] at ar1
              obtain ⟨tk, htk⟩ : ∃ tk, tk = abN n ps k i := ⟨_, rfl⟩
              rw [← htk] at ar1 TB0
              have TB := hide TB0
              clear TB0 ht htk
              go_wp2_with fail
              refine ar1.out.mono ?_
              rintro e w5 ⟨rfl, g5⟩
              have P5 := hide (own_chg (show wr.ownsRow w3.heap.size 43 2 u8 _ _ from hP.out) g5 (fun x hx h => h))
              have U5 := hide (own_chg (show wr.ownsRow w3.heap.size 3 1 u7 _ _ from hU.out) g5 (fun x hx h => h))
              have C5 := hide (hC.out.trans g5)
              have e0 := g5.cell (fun h => h) z0
              have e1 := g5.cell (fun h => h) z1
              have e2 := g5.cell (fun h => h) z2
              clear g5 ar1 hC hP hU z0 z1 z2
              cases hik : abN n ps i k
              · have US : Hid (underF n ps (i : Int) (k + 1) = underF n ps (i : Int) k) := hide (by rw [underF_succ, show abv n ps (i : Int) (k : Int) = false from hik]; simp)
                have ar := hide (AR.out i k _ (F3.out.trans C5.out.none))
                rw [show abv n ps (i : Int) (k : Int) = false from hik] at ar
                clear hik
                go_wp2_with fail
                refine ar.out.mono ?_
                rintro e w6 ⟨rfl, g6⟩
                have P6 := hide (own_chg (show w5.ownsRow w3.heap.size 43 2 u8 _ _ from P5.out) g6 (fun x hx h => h))
                have U6 := hide (own_chg (show w5.ownsRow w3.heap.size 3 1 u7 _ _ from U5.out) g6 (fun x hx h => h))
                have C6 := hide (C5.out.trans g6)
                clear g6 ar P5 U5 C5 e0 e1 e2
                go_wp2_with fail
                go_roundw
                case rel => exact ⟨k + 1, by omega, by go_num, by rw [TB.out], by unfold Hid; rw [US.out]; exact P6.out, U6.out, C6⟩
                case measure => simp [intOf]; omega
              · have US : Hid (underF n ps (i : Int) (k + 1) = underF n ps (i : Int) k ++ [(k : Int)]) := hide (by rw [underF_succ, show abv n ps (i : Int) (k : Int) = true from hik]; simp)
                have hul := underF_len n ps (i : Int) k
                have ar := hide (AR.out i k _ (F3.out.trans C5.out.none))
                rw [show abv n ps (i : Int) (k : Int) = true from hik] at ar
                clear hik
                obtain ⟨ql, hql⟩ : ∃ ql, ql = pl ++ (underF n ps (i : Int) k).map fun c => ((i : Int), c) := ⟨_, rfl⟩
                have HQ2 : Hid (pl ++ (underF n ps (i : Int) (k + 1)).map (fun c => ((i : Int), c)) = ql ++ [((i : Int), (k : Int))]) := hide (by rw [US.out, List.map_append, ← List.append_assoc, ← hql]; rfl)
                have hqn : ql.length ≤ 500 := by rw [hql, List.length_append, List.length_map]; omega
                rw [← hql] at P5
                clear hql US hul
                go_wp2_with fail
                refine ar.out.mono ?_
                rintro e w6 ⟨rfl, g6⟩
                have P6 := own_chg (show w5.ownsRow w3.heap.size 43 2 u8 _ _ from P5.out) g6 (fun x hx h => h)
                have U6 := own_chg (show w5.ownsRow w3.heap.size 3 1 u7 _ _ from U5.out) g6 (fun x hx h => h)
                have O3 := hide (P6.alloc (.cells #[.int .i64 (i : Int), .int .i64 (k : Int)] 43))
                have Q3 := hide (U6.alloc (.cells #[.int .i64 (i : Int), .int .i64 (k : Int)] 43))
                have NB := hide (World.news_of_block (cs := #[.int .i64 (i : Int), .int .i64 (k : Int)]) (t := 43) (fr := (0, 0)) (heap_alloc_new w6 _))
                have C6 := hide ((C5.out.trans g6).trans (al w6 (.cells #[.int .i64 (i : Int), .int .i64 (k : Int)] 43)))
                have HO3 : Hid (w3.heap.size ≤ (w6.alloc (.cells #[.int .i64 (i : Int), .int .i64 (k : Int)] 43)).heap.size) := hide C6.out.size
                have hcl := cells2_len ql
                clear g6 ar P5 U5 C5 P6 U6 e0 e1 e2
                go_wp2_with (at_builtin; refine wpList_append_own _ rfl _ _ 22 rfl w3.heap.size 43 q0 (.agg #[.int .i64 0, .int .i64 0]) 2 16 Try.underlying22 hq0 hy0 hy1 hy2 rfl (by decide) _ ql.length (cells2 ql) rfl O3.out ⟨w6.heap.size, 0, none⟩ 1 1 [.int .i64 (i : Int), .int .i64 (k : Int)] rfl rfl NB.out (by simp [Value.oneCell']) (by simp [maxLen]; omega) (by omega) HO3.out ?_; intro v' w7 hown hgrow hq)
                have G3 := own_chgNo O3.out hgrow (S := fun x => w3.heap.size ≤ x) (fun x h => h)
                have P7 : Hid (PAcc w7 w3.heap.size v' (ql ++ [((i : Int), (k : Int))])) := hide (pacc_snoc hown)
                have U7 : Hid (UAcc w7 w3.heap.size u7 (topsN n ps i)) := hide (own_grownT Q3.out O3.out (by decide) hgrow)
                have C7 : Hid (Chg (fun _ => False) w3 w7) := hide (by
                  have h1 : Chg (fun x => w3.heap.size ≤ x) w3 w7 := C6.out.none.trans G3
                  exact h1.mono (fun x hx h => by omega))
                clear hown hgrow G3 O3 Q3 NB C6
                go_wp2_with fail
                go_roundw
                case rel => exact ⟨k + 1, by omega, by go_num, by rw [TB.out], by unfold Hid; rw [HQ2.out]; exact P7.out, U7, C7⟩
                case measure => simp [intOf]; omega
          · have hkn : k = n := by omega
            subst hkn
            have P2 : Hid (PAcc wr w3.heap.size u8 (pairsF k ps (i + 1))) := hide (by rw [HSU.out]; exact hP.out)
            have TS := topsN_succ k ps i
            have hul := topsN_len k ps i
            obtain ⟨us, hus⟩ : ∃ us, us = topsN k ps i := ⟨_, rfl⟩
            rw [← hus] at hU TS hul
            clear hus hP
            cases ht : topB k ps i k
            · rw [ht] at TS
              have HS : Hid (topsN k ps (i + 1) = us) := hide (by rw [TS]; simp)
              clear TS ht
              go_wp2_with fail
              go_roundw
              case rel => exact ⟨i + 1, by omega, by go_num, by unfold Hid; rw [HS.out]; exact hU.out, P2, hC⟩
              case measure => simp [intOf]; omega
            · rw [ht] at TS
              have HS : Hid (topsN k ps (i + 1) = us ++ [i]) := hide (by rw [TS]; simp)
              clear TS ht
              have hU' : wr.ownsRow w3.heap.size 3 1 u7 (natI us).length ((natI us).map (Value.int .i64)) := hU.out
              have O3 := hide (hU'.alloc (.cells #[.int .i64 (i : Int)] 3))
              have P3 := hide (World.ownsRow.alloc (show wr.ownsRow w3.heap.size 43 2 u8 _ _ from P2.out) (.cells #[.int .i64 (i : Int)] 3))
              have NB := hide (World.news_of_block (cs := #[.int .i64 (i : Int)]) (t := 3) (fr := (0, 0)) (heap_alloc_new wr _))
              have C3 := hide (hC.out.trans (al wr (.cells #[.int .i64 (i : Int)] 3)))
              have HO3 : Hid (w3.heap.size ≤ (wr.alloc (.cells #[.int .i64 (i : Int)] 3)).heap.size) := hide C3.out.size
              obtain ⟨nn, hnn⟩ : ∃ nn, nn = (natI us).length := ⟨_, rfl⟩
              obtain ⟨xs, hxs⟩ : ∃ xs, xs = (natI us).map (Value.int .i64) := ⟨_, rfl⟩
              rw [← hnn, ← hxs] at O3
              have hnl : nn ≤ 1000 := by rw [hnn, natI_len]; omega
              have HXL := hide (And.intro hnn hxs)
              clear hU' hnn hxs hul hU P2
              go_wp2_with (at_builtin; refine wpList_append_own _ rfl _ _ 36 rfl w3.heap.size 3 i0 (.int .i64 0) 1 8 Try.underlying36 hi0 hz0 hz1 hz2 rfl (by decide) _ nn xs rfl O3.out ⟨wr.heap.size, 0, none⟩ 1 1 [.int .i64 (i : Int)] rfl rfl NB.out (by simp [Value.oneCell']) (by simp [maxLen]; omega) (by omega) HO3.out ?_; intro v' w5 hown hgrow hq)
              have G3 := own_chgNo O3.out hgrow (S := fun x => w3.heap.size ≤ x) (fun x h => h)
              have O4 : Hid (UAcc w5 w3.heap.size v' (us ++ [i])) := hide (uacc_snoc (by rw [← HXL.out.1, ← HXL.out.2]; exact hown))
              have P4 : Hid (PAcc w5 w3.heap.size u8 (pairsF k ps (i + 1))) := hide (own_grownT P3.out O3.out (by decide) hgrow)
              have C4 : Hid (Chg (fun _ => False) w3 w5) := hide (by
                have h1 : Chg (fun x => w3.heap.size ≤ x) w3 w5 := C3.out.none.trans G3
                exact h1.mono (fun x hx h => by omega))
              clear hown hgrow G3 O3 NB C3 P3
              go_wp2_with fail
              go_roundw
              case rel => exact ⟨i + 1, by omega, by go_num, by unfold Hid; rw [HS.out]; exact O4.out, P4, C4⟩
              case measure => simp [intOf]; omega
      · have hin : i = n := by omega
        subst hin
        have pr := hide (PA.out wr (R3.out.chg hC.out (fun _ _ h => h)))
        go_wp2_with fail
        refine pr.out.mono ?_
        rintro e w5 ⟨⟨v12, rfl, o12⟩, r5, g5⟩
        have R5 := hide r5
        have F5 := hide ((F3.out.trans hC.out.none).trans g5)
        have t0 := g5.cell NB2.out z0
        have t1 := g5.cell NB2.out (hC.out.cell (fun h => h) y1)
        have t2 := g5.cell NB2.out (hC.out.cell (fun h => h) y2)
        have U5 := hide (own_chg (show wr.ownsRow w3.heap.size 3 1 u7 _ _ from hU.out) g5 (fun x hx e => by have := HBO.out; omega))
        have P5 := own_chg (show wr.ownsRow w3.heap.size 43 2 u8 _ _ from hP.out) g5 (fun x hx e => by have := HBO.out; omega)
        have V5 := hide (own_chg (own_chg (show w3.ownsRow bl 3 1 _ _ _ from V3.out) hC.out (fun x hx h => h)) g5 (fun x hx e => by have := HBL.out; omega))
        have hpl := pairsF_len i ps i
        have hpn : i * i ≤ 20 * 20 := Nat.mul_le_mul hn20 hn20
        generalize pairsF i ps i = pl at *
        obtain ⟨pa2, pc2, rfl, hrow2⟩ := irow_own o12
        obtain ⟨pa3, pc3, rfl, hrow3⟩ := irow_own P5
        have W2 := hide o12
        have W3 := hide P5
        have HBR : Hid (B < wr.heap.size) := hide (Nat.lt_of_lt_of_le HBO.out hC.out.size)
        have hul := topsN_len i ps i
        clear o12 r5 g5 P5 hP hU hC z0 y0 y1 y2 R3 V3 hrow2 hrow3 pr
        go_wp2_with fail
        refine (RL.out _ F5.out).mono ?_
        rintro e w6 ⟨⟨v6, rfl, o6⟩, g6⟩
        have V6 := hide (own_chg V5.out g6 (fun x hx h => h))
        have LK := hide (like_any (.slice la i lc) v6 (natI l) (natI l) (by rw [natI_len, LL.out]; omega) _ _ w6 (ints_own (show w6.ownsRow bl 3 1 (.slice la i lc) (natI l).length ((natI l).map (Value.int .i64)) from V6.out)) o6)
        rw [decide_eq_true rfl] at LK
        have R6 := hide (R5.out.chg g6 (fun _ _ h => h))
        have U6 := hide (own_chg U5.out g6 (fun x hx h => h))
        have G6 := hide g6
        clear V5 R5 U5 o6 g6
        go_wp2_with fail
        refine LK.out.mono ?_
        rintro e w7 ⟨rfl, g7⟩
        have G7 := hide (G6.out.trans g7)
        have R7 := hide (R6.out.chg g7 (fun _ _ h => h))
        have U7 := hide (own_chg U6.out g7 (fun x hx h => h))
        have V7 := hide (own_chg V6.out g7 (fun x hx h => h))
        clear LK g7 R6 U6 V6 G6
        go_wp2_with fail
        refine (TP.out _ R7.out).mono ?_
        rintro e w8 ⟨⟨v8, rfl, o8⟩, r8, g8⟩
        have U8 := own_chg U7.out g8 (fun x hx e => by have := HBO.out; omega)
        have V8 := hide (own_chg V7.out g8 (fun x hx e => by have := HBL.out; omega))
        have LK := hide (like_any v8 u7 (natI (topsN i ps i)) (natI (topsN i ps i)) (by rw [natI_len]; omega) _ _ w8 o8 (ints_own U8))
        rw [decide_eq_true rfl] at LK
        have R8 := hide r8
        have F8 := hide ((F5.out.trans G7.out.none).trans g8)
        have A8 := own_chg (own_chg W2.out G7.out (fun x hx h => h)) g8 (fun x hx e => by have := HBR.out; omega)
        have B8 := own_chg (own_chg W3.out G7.out (fun x hx h => h)) g8 (fun x hx e => by have := HBO.out; omega)
        clear o8 r8 g8 R7 U7 V7 F5 G7 W2 W3 U8
        go_wp2_with fail
        refine LK.out.mono ?_
        rintro e w9 ⟨rfl, g9⟩
        have R9 := hide (R8.out.chg g9 (fun _ _ h => h))
        have V9 := hide (own_chg V8.out g9 (fun x hx h => h))
        have IA := hide (irow_own (own_chg A8 g9 (fun x hx h => h)))
        have IB := hide (irow_own (own_chg B8 g9 (fun x hx h => h)))
        have F9 := hide (F8.out.trans g9.none)
        clear LK g9 R8 V8 F8 A8 B8
        go_wp2_with fail
        go_loopw [13] (fun jv wr => ∃ j : Nat, j ≤ pl.length ∧ jv = .int .i64 j ∧ Hid (Chg (fun _ => False) w9 wr)) (fun jv _ => pl.length - (intOf jv).toNat)
        case atStart => exact ⟨0, Nat.zero_le _, rfl, Chg.refl _ _⟩
        case round =>
          obtain ⟨j, hj, rfl, hD⟩ := hrel
          by_cases hlj : j < pl.length
          · rcases IA.out with ⟨a', c', e', h0 | ⟨g, off, e2, hg, hcell⟩⟩
            · rw [h0] at hlj; exact absurd hlj (Nat.not_lt_zero _)
            rcases IB.out with ⟨a'', c'', e'', h0 | ⟨g', off', e2', hg', hcell'⟩⟩
            · rw [h0] at hlj; exact absurd hlj (Nat.not_lt_zero _)
            injection e' with e3 _ e5
            injection e'' with e6 _ e7
            subst e3 e2 e6 e2'
            have d0 := hD.out.cell (fun h => h) (hcell j hlj).1
            have d1 := hD.out.cell (fun h => h) (hcell j hlj).2
            have d2 := hD.out.cell (fun h => h) (hcell' j hlj).1
            have d3 := hD.out.cell (fun h => h) (hcell' j hlj).2
            have j0 : (0 : Int) ≤ (j : Int) := by omega
            have j1 : (j : Int) < (pl.length : Int) := by omega
            clear hcell hcell' e5 e7
            generalize pl[j] = p at *
            obtain ⟨p0, p1⟩ := p
            dsimp only at d0 d1 d2 d3
            have eq := eq43 p0 p1 p0 p1
            simp only [beq_self_eq_true, Bool.and_self] at eq
            go_wp2_with fail
            go_region
            go_wp2_with fail
            go_roundw
            case rel => exact ⟨j + 1, by omega, by go_num, hide hD.out.drew⟩
            case measure => simp [intOf]; omega
          · have hjl : j = pl.length := by omega
            subst hjl
            go_wp2_with fail
            have R10 := hide (R9.out.chg hD.out (fun _ _ h => h))
            have V10 := hide (own_chg V9.out hD.out (fun x hx h => h))
            have F10 := hide (F9.out.trans hD.out.none)
            generalize wr = wz at *
            clear hD R9 V9 F9 IA IB
            go_loopw [14] (fun jv wr => ∃ j : Nat, j ≤ i ∧ jv = .int .i64 j ∧ Hid (Rs wr B i ps (.map (some M)) su) ∧ Hid (Chg (fun x => x = B) wz wr)) (fun jv _ => i - (intOf jv).toNat)
            case atStart => exact ⟨0, Nat.zero_le _, rfl, R10, Chg.refl _ _⟩
            case round =>
              clear R10
              obtain ⟨j, hj, rfl, hR, hE⟩ := hrel
              by_cases hlj : j < i
              · go_wp2_with fail
                generalize wr = w11 at *
                go_loopw [15] (fun kv wr2 => ∃ k : Nat, k ≤ j ∧ kv = .int .i64 k ∧ Hid (Rs wr2 B i ps (.map (some M)) su) ∧ Hid (Chg (fun x => x = B) wz wr2)) (fun kv _ => j - (intOf kv).toNat)
                case atStart => exact ⟨0, Nat.zero_le _, rfl, hR, hE⟩
                case round =>
                  clear hR hE
                  obtain ⟨k, hk, rfl, hR, hE⟩ := hrel
                  by_cases hlk : k < j
                  · have hjl2 : j < l.length := by have := LL.out; omega
                    have hlo := LO.out j hjl2 k hlk
                    have hVr := own_chg V10.out hE.out (fun x hx e => by have := HBL.out; omega)
                    rcases (ints_own (show wr.ownsRow bl 3 1 (.slice la i lc) (natI l).length ((natI l).map (Value.int .i64)) from hVr)) with ⟨a', c', e', h0 | ⟨g, off, e2, hg, hcell⟩⟩
                    · exfalso
                      have h1 := natI_len l
                      rw [h0] at h1
                      simp only [List.length_nil] at h1
                      omega
                    injection e' with e3 e4 e5
                    subst e3 e2
                    clear e4 e5
                    have hgB : ¬ g = B := by
                      rcases hVr.2 with ⟨h1, _⟩ | ⟨g2, cap2, cur2, h1, h2, _⟩
                      · cases h1
                      · injection h1 with h1 _ _
                        injection h1 with h1
                        injection h1 with h1 _ _
                        have := HBL.out
                        omega
                    have d0 := hcell j (by rw [natI_len]; exact hjl2)
                    have d1 := hcell k (by rw [natI_len]; omega)
                    have en0 : (natI l)[j]'(by rw [natI_len]; exact hjl2) = (l[j] : Int) := by unfold natI; rw [List.getElem_map]
                    have en1 : (natI l)[k]'(by rw [natI_len]; omega) = ((l[k]'(by omega)) : Int) := by unfold natI; rw [List.getElem_map]
                    rw [en0] at d0
                    rw [en1] at d1
                    have HGB := hide hgB
                    have AB1 := hide (fun (w9 : World) (h : Rs w9 B i ps (.map (some M)) su) => AB.out (l[j] : Int) ((l[k]'(by omega)) : Int) w9 h)
                    rw [hlo] at AB1
                    have j0 : (0 : Int) ≤ (j : Int) := by omega
                    have j1 : (j : Int) < (i : Int) := by omega
                    have m0 : (0 : Int) ≤ (k : Int) := by omega
                    have m1 : (k : Int) < (i : Int) := by omega
                    clear hcell hVr hlo en0 en1
                    generalize l[j] = lj at *
                    generalize l[k] = lk at *
                    have RD := hide (hR.out.chg (Chg.refl (fun _ => False) wr).drew (fun _ _ h => h))
                    go_wp2_with fail
                    go_region_held3 (fun w' => w'.cell? ⟨g, off + j, none⟩ = some (.int .i64 (lj : Int)) ∧ w'.cell? ⟨g, off + k, none⟩ = some (.int .i64 (lk : Int)))
                      (go_keep)
                      (first | (go_at_call 13; refine (AB1.out _ RD.out).mono ?_; rintro e w11' ⟨rfl, r11, g11⟩; have h0 := g11.cell HGB.out d0; have h1 := g11.cell HGB.out d1))
                    have R11 := hide r11
                    have E11 := hide (hE.out.trans ((Chg.refl (fun x => x = B) wr).drew.trans g11))
                    clear r11 g11 h0 h1 RD AB1 hR hE
                    go_wp2_with fail
                    go_roundw
                    case rel => exact ⟨k + 1, by omega, by go_num, R11, E11⟩
                    case measure => simp [intOf]; omega
                  · have hkj : k = j := by omega
                    subst hkj
                    go_wp2_with fail
                    go_roundw
                    case rel => exact ⟨k + 1, by omega, by go_num, hR, hE⟩
                    case measure => simp [intOf]; omega
              · have hjn : j = i := by omega
                subst hjn
                go_wp2_with fail
                refine (kn.out _).mono ?_
                rintro e w12 ⟨rfl, g12⟩
                have F12 := hide ((F10.out.trans hE.out).trans g12.none)
                clear g12 hR hE
                go_wp2_with fail
                go_ret
                exact ⟨rfl, (C4.out.none.trans F12.out).below (Nat.le_refl _) (fun x hx => by have := HLT.out.1; have := C1s.out; omega)⟩

theorem lines_ref (W : World) (v : Value) (r : RefIn) (h : RefIs W v r) :
    Calls Try.prog 6 #[v] W fun e w' => e = .returned (.bool true) ∧ Below W.heap.size W w' := by
  obtain ⟨rfl, hN, ⟨p1, p2, p3, p4, p5⟩, ⟨s1, s2, s3, s4, s5⟩⟩ := h
  exact lines_walk r.N r.pa r.sa r.pl r.pc r.sl r.sc r.rp r.rs p1 s1 p2 s2 p3 s3 s4 W p5 s5

end Go.Proofs.Ytdcpcemihpkkaaa
