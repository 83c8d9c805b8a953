/- The document's Line. -/
import Derived.Test.YtdcpcemihpkkaaaTops
import Derived.Test.YtdcpcemihpkkaaaRefAb
namespace Go.Proofs.Ytdcpcemihpkkaaa
open Go.RowKit Go.Maps
set_option linter.unusedVariables false
set_option linter.unusedSimpArgs false

/-- The block G tells which of n are in u. -/
def Bls (w : World) (G n : Nat) (u : List Nat) : Prop := ∃ c : Array Value, w.heap[G]? = some (.cells c 4) ∧ c.size = n ∧ ∀ i, i < n → c[i]? = some (.bool (has u i))
theorem Bls.cell {w : World} {G n : Nat} {u : List Nat} (h : Bls w G n u) {i : Nat} (hi : i < n) : w.cell? ⟨G, i, none⟩ = some (.bool (has u i)) := by
  obtain ⟨c, h1, h2, h3⟩ := h
  rw [blk_cell h1]; exact h3 i hi
theorem Bls.free {w : World} {G n : Nat} {u : List Nat} (h : Bls w G n u) (i : Nat) : w.frozen? ⟨G, i, none⟩ = false := by
  obtain ⟨c, h1, _⟩ := h
  exact blk_free h1 i
theorem Bls.lt {w : World} {G n : Nat} {u : List Nat} (h : Bls w G n u) : G < w.heap.size := by
  obtain ⟨c, h1, _⟩ := h
  exact blk_lt h1
theorem Bls.chg {w w' : World} {G n : Nat} {u : List Nat} (h : Bls w G n u) {S : Nat → Prop} (g : Chg S w w') (hn : ¬ S G) : Bls w' G n u := by
  obtain ⟨c, h1, h2⟩ := h
  exact ⟨c, g.blk hn h1, h2⟩
theorem Bls.set {w : World} {G n : Nat} {u : List Nat} (h : Bls w G n u) (i : Nat) : Bls (w.setCell ⟨G, i, none⟩ (.bool true)) G n (u ++ [i]) := by
  obtain ⟨c, h1, h2, h3⟩ := h
  refine ⟨_, blk_set h1 i _, by simp [h2], fun k hk => ?_⟩
  rw [Array.getElem?_setIfInBounds, has_app, has_one]
  by_cases e : i = k
  · subst e
    simp [h2, hk]
  · rw [if_neg e, beq_eq_false_iff_ne.2 e, Bool.or_false]
    exact h3 k hk
theorem Bls.made (w : World) (n : Nat) : Bls (w.alloc (.cells (madeCells #[.bool false] n) 4)) w.heap.size n [] :=
  ⟨_, blk_new w _, size_madeCells _ _, fun i hi => by simp [madeCells, hi, Nat.mod_one, has]⟩

/-- what is found from m on -/
def nextF (n : Nat) (A : Ab) (acc : List Nat) (m : Nat) : Option Nat := (List.range' m (n - m)).find? (mayN n A acc)
theorem nextF_end (n : Nat) (A : Ab) (acc : List Nat) : nextF n A acc n = none := by unfold nextF; rw [Nat.sub_self]; rfl
theorem nextF_all (n : Nat) (A : Ab) (acc : List Nat) : nextF n A acc 0 = (List.range n).find? (mayN n A acc) := by unfold nextF; rw [List.range_eq_range', Nat.sub_zero]
theorem nextF_step (n : Nat) (A : Ab) (acc : List Nat) (m : Nat) (h : m < n) : nextF n A acc m = if mayN n A acc m = true then some m else nextF n A acc (m + 1) := by
  unfold nextF
  rw [show n - m = (n - (m + 1)) + 1 by omega, List.range'_succ, List.find?_cons]
  cases mayN n A acc m <;> rfl
/-- may, looked at up to k -/
def mayF (A : Ab) (acc : List Nat) (c k : Nat) : Bool := !has acc c && (List.range k).all fun a => has acc a || !A a c
theorem mayF_zero (A : Ab) (acc : List Nat) (c : Nat) : mayF A acc c 0 = !has acc c := by unfold mayF; simp
theorem mayF_succ (A : Ab) (acc : List Nat) (c k : Nat) : mayF A acc c (k + 1) = (mayF A acc c k && (has acc k || !A k c)) := by
  unfold mayF
  rw [List.range_succ, List.all_append, Bool.and_assoc]
  simp
theorem mayF_no {A : Ab} {acc : List Nat} {c k n : Nat} (h : mayF A acc c k = false) (hk : k ≤ n) : mayN n A acc c = false := by
  rw [Bool.eq_false_iff] at h ⊢
  intro h2
  apply h
  unfold mayN at h2
  unfold mayF
  rw [Bool.and_eq_true, List.all_eq_true] at h2 ⊢
  exact ⟨h2.1, fun a ha => h2.2 a (List.mem_range.2 (by have := List.mem_range.1 ha; omega))⟩
def lenV : Value → Nat
  | .slice _ l _ => l
  | _ => 0

set_option maxRecDepth 100000 in
set_option maxHeartbeats 32000000 in
theorem refLine_any (n : Nat) (hn : n ≤ 1000) (ps : Pairs) (hps : ps.length ≤ 1000) (l : List Nat) (hl : lineR n (abN n ps) n [] = some l) (pa sa : Option Addr) (pl pc sl sc : Nat) (B : Nat) (w : World) (hB : B ≤ w.heap.size) (hp : PRow w B (.slice pa pl pc) ps) :
    Calls Try.prog 21 #[.agg #[.int .i64 (n : Int), .slice pa pl pc, .slice sa sl sc]] w fun e w' => (∃ v, e = .returned v ∧ Ints w' w'.heap.size v (natI l)) ∧ Chg (fun _ => False) w w' := by
  obtain ⟨i0, hi0, hz0, hz1, hz2⟩ := info_parts info3
  have hmk := run_make_row' (P := Try.prog) 81 4 (.bool false) 1 (by kernel_rfl) (by kernel_rfl) rfl .i64 .i64 n (by omega) (by omega)
  have C1 := hide (al w (.cells #[.int .i64 (n : Int), .slice pa pl pc, .slice sa sl sc] 25))
  have BX := hide (blk_new w (.cells #[.int .i64 (n : Int), .slice pa pl pc, .slice sa sl sc] 25))
  have AR := hide (fun (a c : Nat) (w9 : World) (h : Chg (fun _ => False) (w.alloc (.cells #[.int .i64 (n : Int), .slice pa pl pc, .slice sa sl sc] 25)) w9) => refAb_any n (a : Int) (c : Int) pa sa pl pc sl sc ps hps B w9 ((hp.chg C1.out (fun _ _ h => h)).chg h (fun _ _ h => h)) (Nat.le_trans hB (Nat.le_trans C1.out.size h.size)))
  have x0 := blk_cell BX.out 0
  have x1 := blk_cell BX.out 1
  have x2 := blk_cell BX.out 2
  simp only [List.getElem?_toArray, List.getElem?_cons_zero, List.getElem?_cons_succ] at x0 x1 x2
  obtain ⟨w1, hw1⟩ : ∃ w1, w.alloc (.cells #[.int .i64 (n : Int), .slice pa pl pc, .slice sa sl sc] 25) = w1 := ⟨_, rfl⟩
  rw [hw1] at C1 BX AR x0 x1 x2
  have NM := hide (Bls.made w1 n)
  have C2 := hide (al w1 (.cells (madeCells #[.bool false] n) 4))
  have HL := hide hl
  obtain ⟨b0, hb0⟩ : ∃ b0, w.heap.size = b0 := ⟨_, rfl⟩
  rw [hb0] at x0 x1 x2
  have HLn : Hid (l.length = n) := hide (lineR_len n [] l hl)
  have hb1 : Hid (b0 < w1.heap.size) := hide (by have := blk_lt BX.out; omega)
  clear hp hB hl
  go_enter Try.func21, Try.ntmps21
  go_wp2_with fail
  generalize hw2 : w1.alloc (.cells (madeCells #[.bool false] n) 4) = w2 at *
  obtain ⟨G, hG⟩ : ∃ G, w1.heap.size = G := ⟨_, rfl⟩
  rw [hG] at NM ⊢
  obtain ⟨bo, hbo⟩ : ∃ bo, bo = w2.heap.size := ⟨_, rfl⟩
  have HB := hide hbo
  have HW1 : Hid (w1.heap.size ≤ bo) := hide (by rw [hbo]; exact C2.out.size)
  have HG : Hid (G < bo) := hide (by have := NM.out.lt; omega)
  have HG1 : Hid (w1.heap.size ≤ G) := hide (Nat.le_of_eq hG)
  clear hbo hw2 hw1 hb0 BX hmk hG
  have LE : ∀ acc rest : List Nat, acc ++ rest = l → acc.length ≤ n := fun acc rest h => by rw [← HLn.out, ← h, List.length_append]; omega
  go_loopw [4] (fun ov wr => ∃ (acc rest : List Nat), acc.length ≤ n ∧ (∃ a cap, ov = .slice a acc.length cap) ∧ Hid (UAcc wr bo ov acc) ∧ Hid (lineR n (abN n ps) (n - acc.length) acc = some rest) ∧ Hid (acc ++ rest = l) ∧ Hid (Bls wr G n acc) ∧ Hid (bo ≤ wr.heap.size) ∧ Hid (Chg (fun _ => False) w1 wr)) (fun ov _ => n - lenV ov)
  case atStart => exact ⟨[], l, Nat.zero_le _, ⟨none, 0, rfl⟩, ⟨rfl, Or.inl ⟨rfl, rfl⟩⟩, HL, rfl, NM, Nat.le_of_eq HB.out, C2⟩
  case round =>
    clear NM C2 HL
    obtain ⟨acc, rest, hal, ⟨la, lcap, rfl⟩, hU, hR, hE, hN, hS, hC⟩ := hrel
    have e0 := hC.out.cell (fun h => h) x0
    by_cases hlt : acc.length < n
    · have HW0 := hS
      have hg := hR.out
      obtain ⟨r, hr⟩ : ∃ r, n - acc.length = r + 1 := ⟨n - acc.length - 1, by omega⟩
      rw [hr] at hg
      simp only [lineR] at hg
      rw [← nextF_all] at hg
      cases hc : nextF n (abN n ps) acc 0 with
      | none => rw [hc] at hg; cases hg
      | some c =>
        rw [hc] at hg
        dsimp only at hg
        obtain ⟨rest2, hr2, hre⟩ := Option.map_eq_some_iff.1 hg
        have hcn : c < n := by
          have h1 := List.mem_of_find?_eq_some (show (List.range' 0 (n - 0)).find? (mayN n (abN n ps) acc) = some c from hc)
          rw [List.mem_range'_1] at h1
          omega
        have HR2 : Hid (lineR n (abN n ps) r (acc ++ [c]) = some rest2) := hide hr2
        have HE2 : Hid ((acc ++ [c]) ++ rest2 = l) := hide (by rw [← hE.out, ← hre]; simp)
        have HC0 := hide hc
        have Hr := hide hr
        clear hg hr2 hre hc hr hR hE
        go_wp2_with fail
        clear e0
        generalize wr = w0 at *
        go_loopw [6, 5] (fun iv nv wr2 => ∃ m : Nat, m ≤ n ∧ iv = .int .i64 ((m : Int) - 1) ∧ nv = .int .i64 (idxI (nextF n (abN n ps) acc m)) ∧ Hid (Chg (fun _ => False) w0 wr2)) (fun iv _ _ => (intOf iv + 1).toNat)
        case atStart => exact ⟨n, Nat.le_refl _, rfl, by rw [nextF_end]; rfl, Chg.refl _ _⟩
        case round =>
          obtain ⟨m, hm, rfl, rfl, hD⟩ := hrel
          cases m with
          | zero =>
            rw [show (((0 : Nat) : Int) - 1) = (-1 : Int) from rfl, HC0.out]
            show Code.wp Try.prog _ _ _ _
            have N3 := hN.out.chg hD.out (fun h => h)
            have cc := N3.cell hcn
            have cf := N3.free c
            have j0 : (0 : Int) ≤ (c : Int) := by omega
            have j1 : (c : Int) < (n : Int) := by omega
            have N4 := N3.set c
            have GS := Chg.set wr G c (.bool true)
            have C4 : Chg (fun _ => False) w1 (wr.setCell ⟨G, c, none⟩ (.bool true)) := ((hC.out.trans hD.out).none.trans GS).mono (fun x hx h => by have := HG1.out; omega)
            have U4 := own_chg (own_chg (show w0.ownsRow bo 3 1 (.slice la acc.length lcap) (natI acc).length ((natI acc).map (Value.int .i64)) from hU.out) hD.out (fun x hx h => h)) GS (fun x hx e => by have := HG.out; omega)
            have O3 := hide (U4.alloc (.cells #[.int .i64 (c : Int)] 3))
            have NB := hide (World.news_of_block (cs := #[.int .i64 (c : Int)]) (t := 3) (fr := (0, 0)) (heap_alloc_new (wr.setCell ⟨G, c, none⟩ (.bool true)) _))
            have C5 := hide (C4.trans (al (wr.setCell ⟨G, c, none⟩ (.bool true)) (.cells #[.int .i64 (c : Int)] 3)))
            have N5 := hide (N4.chg (al (wr.setCell ⟨G, c, none⟩ (.bool true)) (.cells #[.int .i64 (c : Int)] 3)) (fun h => h))
            have HO3 : Hid (bo ≤ ((wr.setCell ⟨G, c, none⟩ (.bool true)).alloc (.cells #[.int .i64 (c : Int)] 3)).heap.size) := hide (by have h1 := (al (wr.setCell ⟨G, c, none⟩ (.bool true)) (.cells #[.int .i64 (c : Int)] 3)).size; have h2 := GS.size; have h3 := hD.out.size; have h4 := hN.out.lt; have h5 := HW0.out; omega)
            obtain ⟨nn, hnn⟩ : ∃ nn, nn = (natI acc).length := ⟨_, rfl⟩
            obtain ⟨xs, hxs⟩ : ∃ xs, xs = (natI acc).map (Value.int .i64) := ⟨_, rfl⟩
            rw [← hnn, ← hxs] at O3
            have hnl : nn ≤ 1000 := by rw [hnn, natI_len]; omega
            have HXL := hide (And.intro hnn hxs)
            rw [show idxI (some c) = (c : Int) from rfl]
            clear hnn hxs N3 N4 GS C4 U4 hU hN
            go_wp2_with (at_builtin; refine wpList_append_own _ rfl _ _ 36 rfl bo 3 i0 (.int .i64 0) 1 8 Try.underlying36 hi0 hz0 hz1 hz2 rfl (by decide) _ nn xs rfl O3.out ⟨wr.heap.size, 0, none⟩ 1 1 [.int .i64 (c : Int)] rfl rfl (by have h := NB.out; simpa using h) (by simp [Value.oneCell']) (by simp [maxLen]; omega) (by omega) HO3.out ?_; intro v' w4 hown hgrow hq)
            have G4 := own_chgNo O3.out hgrow (S := fun x => bo ≤ x) (fun x h => h)
            have O4 : UAcc w4 bo v' (acc ++ [c]) := uacc_snoc (by rw [← HXL.out.1, ← HXL.out.2]; exact hown)
            have C6 : Hid (Chg (fun _ => False) w1 w4) := hide (by
              have h1 : Chg (fun x => bo ≤ x) w1 w4 := C5.out.none.trans G4
              exact h1.mono (fun x hx h => by have := HW1.out; omega))
            have S6 : Hid (bo ≤ w4.heap.size) := hide (Nat.le_trans HO3.out G4.size)
            have N6 := hide (N5.out.chg G4 (by have := HG.out; omega))
            obtain ⟨va, vc, rfl, _⟩ := O4.ints
            have O5 := hide O4
            have HLL : Hid ((natI (acc ++ [c])).length = (acc ++ [c]).length) := hide (natI_len _)
            have HLA : Hid ((acc ++ [c]).length = acc.length + 1) := hide (by simp)
            clear hown hgrow G4 O3 NB C5 N5 O4
            go_wp2_with fail
            go_roundw
            case rel => exact ⟨acc ++ [c], rest2, by rw [HLA.out]; omega, ⟨va, vc, by rw [HLL.out]⟩, O5, by unfold Hid; rw [HLA.out, show n - (acc.length + 1) = r by have := Hr.out; omega]; exact HR2.out, HE2, N6, S6, C6⟩
            case measure => simp [lenV]; have := HLL.out; have := HLA.out; omega
          | succ q =>
            rw [show (((q + 1 : Nat) : Int) - 1) = (q : Int) by omega]
            have N3 := hN.out.chg hD.out (fun h => h)
            have e0 := (hC.out.trans hD.out).cell (fun h => h) x0
            have dq := N3.cell (show q < n by omega)
            have j0 : (0 : Int) ≤ (q : Int) := by omega
            have j1 : (q : Int) < (n : Int) := by omega
            have NS : Hid (nextF n (abN n ps) acc q = if mayN n (abN n ps) acc q = true then some q else nextF n (abN n ps) acc (q + 1)) := hide (nextF_step n _ acc q (by omega))
            have M0 := mayF_zero (abN n ps) acc q
            generalize has acc q = hq at *
            clear N3
            go_wp2_with fail
            clear e0 dq
            generalize wr = w3 at *
            go_loopw [8, 7] (fun jv bv wr3 => ∃ (k : Nat), k ≤ n ∧ jv = .int .i64 k ∧ bv = .bool (mayF (abN n ps) acc q k) ∧ Hid (Chg (fun _ => False) w0 wr3)) (fun jv _ _ => n - (intOf jv).toNat)
            case atStart => exact ⟨0, Nat.zero_le _, rfl, by rw [M0], hD⟩
            case round =>
              clear M0 hD
              obtain ⟨k, hk, rfl, rfl, hF⟩ := hrel
              have N4 := hN.out.chg hF.out (fun h => h)
              have y0 := (hC.out.trans hF.out).cell (fun h => h) x0
              have y1 := (hC.out.trans hF.out).cell (fun h => h) x1
              have y2 := (hC.out.trans hF.out).cell (fun h => h) x2
              cases hmk : mayF (abN n ps) acc q k
              · have hno := mayF_no hmk hk
                have NX : Hid (nextF n (abN n ps) acc q = nextF n (abN n ps) acc (q + 1)) := hide (by rw [NS.out, hno]; rfl)
                clear hno hmk NS N4
                by_cases hlk : k < n
                · go_wp2_with fail
                  go_roundw
                  case rel => exact ⟨q, by omega, by go_num, by rw [NX.out], hF⟩
                  case measure => simp [intOf]
                · go_wp2_with fail
                  go_roundw
                  case rel => exact ⟨q, by omega, by go_num, by rw [NX.out], hF⟩
                  case measure => simp [intOf]
              · by_cases hlk : k < n
                · have dk := N4.cell hlk
                  have ar := hide (AR.out k q wr (hC.out.trans hF.out))
                  have MS := mayF_succ (abN n ps) acc q k
                  rw [hmk, Bool.true_and] at MS
                  have k0 : (0 : Int) ≤ (k : Int) := by omega
                  have k1 : (k : Int) < (n : Int) := by omega
                  have ea : abv n ps (k : Int) (q : Int) = abN n ps k q := rfl
                  rw [ea] at ar
                  generalize has acc k = hkk at *
                  generalize abN n ps k q = akq at *
                  clear hmk N4
                  cases hkk
                  · rw [Bool.false_or] at MS
                    have HMS := hide MS
                    clear MS
                    go_wp2_with fail
                    refine ar.out.mono ?_
                    rintro e w5 ⟨rfl, g5⟩
                    have F5 := hide (hF.out.trans g5)
                    clear g5 ar hF y0 y1 y2
                    go_wp2_with fail
                    go_roundw
                    case rel => exact ⟨k + 1, by omega, by go_num, by rw [HMS.out], F5⟩
                    case measure => simp [intOf]; omega
                  · rw [Bool.true_or] at MS
                    have HMS := hide MS
                    clear MS ar
                    go_wp2_with fail
                    go_roundw
                    case rel => exact ⟨k + 1, by omega, by go_num, by rw [HMS.out], hF⟩
                    case measure => simp [intOf]; omega
                · have hkn : k = n := by omega
                  subst hkn
                  have NX : Hid (nextF k (abN k ps) acc q = some q) := hide (by rw [NS.out, show mayN k (abN k ps) acc q = true from hmk]; rfl)
                  clear hmk NS N4
                  go_wp2_with fail
                  go_roundw
                  case rel => exact ⟨q, by omega, by go_num, by rw [NX.out]; rfl, hF⟩
                  case measure => simp [intOf]
    · have hal2 : acc.length = n := by omega
      have hrest : rest = [] := by
        have h := hR.out
        rw [hal2, Nat.sub_self] at h
        cases h
        rfl
      have HF : Hid (acc = l) := hide (by have h := hE.out; rw [hrest, List.append_nil] at h; exact h)
      have IN := hide hU.out.ints
      clear hU hR hE hN
      go_wp2_with fail
      go_ret
      exact ⟨⟨_, rfl, by rw [← HF.out]; exact IN.out⟩, C1.out.trans hC.out⟩
end Go.Proofs.Ytdcpcemihpkkaaa
