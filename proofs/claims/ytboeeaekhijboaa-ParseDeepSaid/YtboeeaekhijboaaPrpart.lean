/- The document's parser: part. -/
import Derived.Test.YtboeeaekhijboaaPrtyp
namespace Go.Proofs.Ytboeeaekhijboaa
open Go.RowKit
set_option linter.unusedVariables false
set_option linter.unusedSimpArgs false

set_option maxRecDepth 100000 in
set_option maxHeartbeats 8000000 in
theorem rpart_any {tb : Nat} {v : Value} {ts : List Tok} {s : ByteArray} {o : Nat} (ho : o < 60) (inner : Nat → Rz Nd)
    (hin : ∀ (st : St) (w : World), RS w tb v ts s st → Calls Try.prog 41 #[.pointer (some ⟨tb, 0, none⟩), .int .i64 ((o + 1 : Nat) : Int)] w (ROut w tb v ts s (st.bind inner)))
    {k : Nat} {w : World} (h : RS w tb v ts s (.ok k)) :
    Calls Try.prog 81 #[.pointer (some ⟨tb, 0, none⟩), .int .i64 (o : Int)] w (ROut w tb v ts s (atomS ts s inner k)) := by
  have G0 := hide (al w (.cells #[.int .i64 0, .string ⟨#[]⟩, .int .i64 0, .slice none 0 0] 55))
  have B0 := hide (blk_new w (.cells #[.int .i64 0, .string ⟨#[]⟩, .int .i64 0, .slice none 0 0] 55))
  have H0 := hide (h.chg G0.out (fun _ _ h => h))
  have hl := h.lt
  have eo1 : ((o + 1 : Nat) : Int) = (o : Int) + 1 := by omega
  rw [eo1] at hin
  have IN := hide (fun w (h : RS w tb v ts s (.ok (k + 1))) => hin (.ok (k + 1)) w h)
  have IN : Hid (∀ w, RS w tb v ts s (.ok (k + 1)) → Calls Try.prog 41 #[.pointer (some ⟨tb, 0, none⟩), .int .i64 ((o : Int) + 1)] w (ROut w tb v ts s (inner (k + 1)))) := IN
  obtain ⟨A, hA⟩ : ∃ A, w.heap.size = A := ⟨_, rfl⟩
  have HL : Hid (tb < A ∧ w.heap.size = A) := hide ⟨by omega, hA⟩
  rw [hA] at B0
  have IS := hide (is_any bLp sg_lp H0.out)
  have nb : nextB ts s (.ok k) bLp = eatB ts s bLp k := rfl
  rw [nb] at IS
  clear h hl hA hin eo1 nb
  cases hb : eatB ts s bLp k
  · have LAW := hide (atom_law2 ts s inner k hb)
    have LT : Hid ((tokOf (tokS ts s 1 k)).2.2 = (tokAt ts s k 0).2.2 ∨ ∃ x, tokS ts s 1 k = .error x) := hide (by
      unfold tokS
      by_cases e : (tokAt ts s k 0).1 = 1
      · rw [if_pos e]; exact Or.inl rfl
      · rw [if_neg e]; exact Or.inr ⟨_, rfl⟩)
    rw [hb] at IS
    clear hb IN
    go_enter Try.func81, Try.ntmps81
    go_wp2_with fail
    rw [HL.out.2]
    generalize w.alloc (.cells #[.int .i64 0, .string ⟨#[]⟩, .int .i64 0, .slice none 0 0] 55) = w1 at *
    refine IS.out.mono ?_
    rintro e w2 ⟨rfl, g2⟩
    have H2 := hide (H0.out.chg g2 (fun _ _ h => h))
    have B2 := hide (g2.blk B0.out)
    have G2 := hide (G0.out.trans g2)
    clear g2 IS
    have AT := hide (rat_any H2.out)
    have AT : Hid (Calls Try.prog 67 #[.pointer (some ⟨tb, 0, none⟩)] w2 fun e w' => e = .returned (.int .i64 ((tokAt ts s k 0).2.2 : Int)) ∧ Chg (fun _ => False) w2 w') := AT
    go_wp2_with fail
    refine AT.out.mono ?_
    rintro e w3 ⟨rfl, g3⟩
    have H3 := hide (H2.out.chg g3 (fun _ _ h => h))
    have B3 := hide (g3.blk B2.out)
    have G3 := hide (G2.out.trans g3)
    clear g3 AT
    have AA := hide (a_any 1 (by decide) H3.out)
    have AA : Hid (Calls Try.prog 71 #[.pointer (some ⟨tb, 0, none⟩), .int .i64 1] w3 fun e w' => e = .returned (.string (tokOf (tokS ts s 1 k)).2.1) ∧ RS w' tb v ts s (tokS ts s 1 k).st ∧ Chg (fun x => x = tb) w3 w') := AA
    go_wp2_with fail
    refine AA.out.mono ?_
    rintro e w4 ⟨rfl, h4, g4⟩
    have H4 := hide h4
    have B4 := hide (g4.blkS (by have := HL.out; omega) B3.out)
    have G4 := hide (G3.out.none.trans g4)
    clear h4 g4 AA
    obtain ⟨a1, ha1⟩ : ∃ a1, (tokOf (tokS ts s 1 k)).2.1 = a1 := ⟨_, rfl⟩
    obtain ⟨a2, ha2⟩ : ∃ a2 : Int, ((tokAt ts s k 0).2.2 : Int) = a2 := ⟨_, rfl⟩
    have LW : Hid ((tokS ts s 1 k).st = (atomS ts s inner k).st ∧ ∀ q, atomS ts s inner k = .ok q → ((1, a1, a2, Ns.nil) : Nd) = q.1) := hide ⟨LAW.out.1, fun q hq => by
      have h := LAW.out.2 q hq
      rcases LT.out with e | ⟨x, e⟩
      · rw [ha1, e, ha2] at h; exact h
      · have h1 := LAW.out.1
        rw [e, hq] at h1
        cases h1⟩
    rw [LW.out.1] at H4
    rw [ha1, ha2]
    clear ha1 ha2 LAW LT
    have b0 := blk_cell B4.out 0
    have b1 := blk_cell B4.out 1
    have b2 := blk_cell B4.out 2
    have b3 := blk_cell B4.out 3
    have f0 := blk_free B4.out 0
    have f1 := blk_free B4.out 1
    have f2 := blk_free B4.out 2
    have f3 := blk_free B4.out 3
    have NS := hide (nv_set B4.out (.int .i64 1) (.string a1) (.int .i64 a2) (.slice none 0 0))
    have FS := hide (H4.out.chg NS.out.2 (fun x hx e => by have h1 := HL.out; omega))
    have CS := hide (rchg_fresh G4.out NS.out.2 (by have h1 := HL.out; omega))
    go_wp2_with fail
    generalize ((((w4.setCell ⟨A, 0, none⟩ (.int .i64 1)).setCell ⟨A, 1, none⟩ (.string a1)).setCell ⟨A, 2, none⟩ (.int .i64 a2)).setCell ⟨A, 3, none⟩ (.slice none 0 0)) = wF at *
    have r0 := blk_cell NS.out.1 0
    have r1 := blk_cell NS.out.1 1
    have r2 := blk_cell NS.out.1 2
    have r3 := blk_cell NS.out.1 3
    refine bodyPost_ret (v := .agg #[.int .i64 1, .string a1, .int .i64 a2, .slice none 0 0]) (by simp [results, Try.results81, go_sem, r0, r1, r2, r3]) rfl ?_
    exact ⟨⟨_, _, rfl, NV.leaf _ _ 1 a1 a2, LW.out.2⟩, FS.out, CS.out⟩
  · have LAW := hide (fun n hn => atom_law ts s inner k hb n hn)
    have hk1 := eatB_lt hb
    have HK := hide hk1
    rw [hb] at IS
    clear hb hk1
    go_enter Try.func81, Try.ntmps81
    go_wp2_with fail
    rw [HL.out.2]
    generalize w.alloc (.cells #[.int .i64 0, .string ⟨#[]⟩, .int .i64 0, .slice none 0 0] 55) = w1 at *
    refine IS.out.mono ?_
    rintro e w2 ⟨rfl, g2⟩
    have H2 := hide (H0.out.chg g2 (fun _ _ h => h))
    have B2 := hide (g2.blk B0.out)
    have G2 : Hid (Chg (fun x => x = tb) w w2) := hide (G0.out.trans g2).none
    have SZ2 : Hid (A < w2.heap.size) := hide (olt B2.out)
    clear g2 IS
    have hk2 := H2.out.env.len
    have hk1 := HK.out
    have H3 := hide (RS.moved (k := k) H2.out ((k : Int) + 1) (by omega) HK.out)
    have GS := Chg.set w2 tb 2 (.int .i64 ((k : Int) + 1))
    have B3 := hide (GS.blkS (by have := HL.out; omega) B2.out)
    have G3 := hide (G2.out.trans GS)
    have SZ3 : Hid (A < (w2.setCell ⟨tb, 2, none⟩ (.int .i64 ((k : Int) + 1))).heap.size) := hide (olt B3.out)
    have f2 := blk_free H2.out.blk 2
    have c2 : w2.cell? ⟨tb, 2, none⟩ = some (.int .i64 (k : Int)) := H2.out.cells.2.2.1
    clear GS
    have I3 := hide (IN.out _ H3.out)
    clear IN
    go_wp2_with fail
    generalize w2.setCell ⟨tb, 2, none⟩ (.int .i64 ((k : Int) + 1)) = w3 at *
    refine I3.out.mono ?_
    rintro e w4 ⟨⟨u, a, rfl, ha, hq⟩, h4, g4⟩
    obtain ⟨aa, ac, rfl, _⟩ := id ha
    have LW := hide (LAW.out a hq)
    obtain ⟨a0, a1, a2, a3⟩ := a
    dsimp only [Nd.kind, Nd.word, Nd.at, Nd.kids] at *
    have GT := al w4 (.cells #[.int .i64 a0, .string a1, .int .i64 a2, .slice aa a3.len ac] 55)
    have T4 := hide (blk_new w4 (.cells #[.int .i64 a0, .string a1, .int .i64 a2, .slice aa a3.len ac] 55))
    have H4 := hide (h4.chg GT (fun _ _ h => h))
    have B4 := hide (GT.blk (g4.blkS (by have := HL.out; omega) B3.out))
    have G4 := hide ((G3.out.trans g4).trans GT.none)
    have SZ4 : Hid (A < w4.heap.size ∧ w3.heap.size ≤ w4.heap.size ∧ w4.heap.size + 1 = (w4.alloc (.cells #[.int .i64 a0, .string a1, .int .i64 a2, .slice aa a3.len ac] 55)).heap.size) := hide (by have := g4.size; have := SZ3.out; have := al_sz w4 (.cells #[.int .i64 a0, .string a1, .int .i64 a2, .slice aa a3.len ac] 55); omega)
    have N4 := (ha.chg GT (fun _ _ h => h)).up (Y := fun x => A < x ∧ x < w4.heap.size) (fun x hx => ⟨by have := SZ3.out; omega, hx.2⟩)
    obtain ⟨_, _, ev, NT⟩ := N4
    have N4 : Hid (Ts (w4.alloc (.cells #[.int .i64 a0, .string a1, .int .i64 a2, .slice aa a3.len ac] 55)) (fun x => A < x ∧ x < w4.heap.size) (.slice aa a3.len ac) a3) := hide (by cases ev; exact NT)
    clear ev NT h4 g4 I3 LAW hq ha c2 f2 GT
    obtain ⟨D, hD⟩ : ∃ D, w4.heap.size = D := ⟨_, rfl⟩
    rw [hD] at T4 SZ4 N4
    go_wp2_with fail
    clear hD
    generalize w4.alloc (.cells #[.int .i64 a0, .string a1, .int .i64 a2, .slice aa a3.len ac] 55) = w5 at *
    have SG := hide (sign_any' bRp sg_rp H4.out)
    rw [LW.out.1] at SG
    refine SG.out.mono ?_
    rintro e w6 ⟨rfl, h6, g6⟩
    have H6 := hide h6
    have B6 := hide (g6.blkS (by have := HL.out; omega) B4.out)
    have T6 := hide (g6.blkS (by have := HL.out; have := SZ4.out; omega) T4.out)
    have G6 := hide (G4.out.trans g6)
    have N6 := hide (N4.out.chg g6 (fun x hx e => by have := hx.1; have := HL.out; omega))
    have SZ6 : Hid (D ≤ w6.heap.size) := hide (by have := g6.size; have := SZ4.out; omega)
    clear h6 g6 SG
    have q0 := blk_cell T6.out 0
    have q1 := blk_cell T6.out 1
    have q2 := blk_cell T6.out 2
    have q3 := blk_cell T6.out 3
    simp only [List.getElem?_toArray, List.getElem?_cons_zero, List.getElem?_cons_succ] at q0 q1 q2 q3
    have b0 := blk_cell B6.out 0
    have b1 := blk_cell B6.out 1
    have b2 := blk_cell B6.out 2
    have b3 := blk_cell B6.out 3
    have f0 := blk_free B6.out 0
    have f1 := blk_free B6.out 1
    have f2 := blk_free B6.out 2
    have f3 := blk_free B6.out 3
    have NS := hide (nv_set B6.out (.int .i64 a0) (.string a1) (.int .i64 a2) (.slice aa a3.len ac))
    have FS := hide (H6.out.chg NS.out.2 (fun x hx e => by have h1 := HL.out; omega))
    have CS := hide (rchg_fresh G6.out NS.out.2 (by have h1 := HL.out; omega))
    go_wp2_with fail
    generalize ((((w6.setCell ⟨A, 0, none⟩ (.int .i64 a0)).setCell ⟨A, 1, none⟩ (.string a1)).setCell ⟨A, 2, none⟩ (.int .i64 a2)).setCell ⟨A, 3, none⟩ (.slice aa a3.len ac)) = wF at *
    have r0 := blk_cell NS.out.1 0
    have r1 := blk_cell NS.out.1 1
    have r2 := blk_cell NS.out.1 2
    have r3 := blk_cell NS.out.1 3
    refine bodyPost_ret (v := .agg #[.int .i64 a0, .string a1, .int .i64 a2, .slice aa a3.len ac]) (by simp [results, Try.results81, go_sem, r0, r1, r2, r3]) rfl ?_
    have N7 := N6.out.chg NS.out.2 (fun x hx e => by have := hx.1; omega)
    exact ⟨⟨_, (a0, a1, a2, a3), rfl, ⟨aa, ac, rfl, N7.up (fun x hx => ⟨by have := HL.out; omega, by have h1 := NS.out.2.size; have h2 := SZ6.out; omega⟩)⟩, LW.out.2⟩, FS.out, CS.out⟩
end Go.Proofs.Ytboeeaekhijboaa
