/- The document's parser: typ. -/
import Derived.Test.YtboeeaekhijboaaShort
import Derived.Test.YtboeeaekhijboaaPrst
import Derived.Deep.CutBlock
namespace Go.Proofs.Ytboeeaekhijboaa
open Go.RowKit
set_option linter.unusedVariables false
set_option linter.unusedSimpArgs false

/-- a node was read, or a fault lies there -/
def ROut (w : World) (tb : Nat) (v : Value) (ts : List Tok) (s : ByteArray) (r : Rz Nd) (e : Ending) (w' : World) : Prop :=
 (∃ u n, e = .returned u ∧ NV w' (fun x => w.heap.size ≤ x ∧ x < w'.heap.size) u n ∧ ∀ q, r = .ok q → n = q.1) ∧ RS w' tb v ts s r.st ∧ Chg (fun x => x = tb) w w'
theorem rchg_fresh {w w1 w2 : World} {tb A : Nat} (h1 : Chg (fun x => x = tb) w w1) (h2 : Chg (fun x => x = A) w1 w2) (hA : w.heap.size ≤ A) : Chg (fun x => x = tb) w w2 :=
 ((h1.mono (T := fun x => x = tb ∨ x = A) (fun x _ h => Or.inl h)).trans (h2.mono (fun x _ h => Or.inr h))).mono (fun x hx e => by omega)
theorem sg_lp : Sg bLp := by unfold Sg; kernel_rfl
theorem sg_rp : Sg bRp := by unfold Sg; kernel_rfl
theorem sg_arrow : Sg bArrow := by unfold Sg; kernel_rfl
theorem sg_lam : Sg bLam := by unfold Sg; kernel_rfl
theorem sg_colon : Sg bColon := by unfold Sg; kernel_rfl
theorem sg_dot : Sg bDot := by unfold Sg; kernel_rfl
theorem sg_eq : Sg bEq := by unfold Sg; kernel_rfl
theorem sg_gt : Sg bGt := by unfold Sg; kernel_rfl
theorem sg_semi : Sg bSemi := by unfold Sg; kernel_rfl

/-- a node lies in D, the result is still empty -/
def RMid (w wr : World) (tb : Nat) (v : Value) (ts : List Tok) (s : ByteArray) (A D : Nat) (r : Rz Nd) : Prop :=
 ∃ (a : Nd) (aa : Option Addr) (ac : Nat), Hid (RS wr tb v ts s r.st) ∧ Hid (wr.heap[A]? = some (.cells #[.int .i64 0, .string ⟨#[]⟩, .int .i64 0, .slice none 0 0] 55)) ∧ Hid (wr.heap[D]? = some (.cells #[.int .i64 a.kind, .string a.word, .int .i64 a.at, .slice aa a.kids.len ac] 55)) ∧
  Hid (Ts wr (fun x => w.heap.size ≤ x ∧ x < wr.heap.size ∧ x ≠ A ∧ x ≠ D) (.slice aa a.kids.len ac) a.kids) ∧ Hid (Chg (fun x => x = tb) w wr) ∧ Hid (∀ q, r = .ok q → a = q.1) ∧ Hid (w.heap.size ≤ A ∧ A < D ∧ D < wr.heap.size ∧ tb < w.heap.size)

set_option maxRecDepth 100000 in
set_option maxHeartbeats 32000000 in
theorem rtyp_step {tb : Nat} {v : Value} {ts : List Tok} {s : ByteArray} {o : Nat} (ho : o ≤ 60) (f inner : Nat → Rz Nd) (hf0 : o = 60 → ∀ k, f k = .error (2, k)) (hf1 : o < 60 → ∀ k, f k = typB ts s inner k)
  (hin : o < 60 → ∀ (st : St) (w : World), RS w tb v ts s st → Calls Try.prog 42 #[.pointer (some ⟨tb, 0, none⟩), .int .i64 ((o + 1 : Nat) : Int)] w (ROut w tb v ts s (st.bind inner)))
  {st : St} {w : World} (h : RS w tb v ts s st) :
  Calls Try.prog 42 #[.pointer (some ⟨tb, 0, none⟩), .int .i64 (o : Int)] w (ROut w tb v ts s (st.bind f)) := by
 have G0 := hide (al w (.cells #[.int .i64 0, .string ⟨#[]⟩, .int .i64 0, .slice none 0 0] 55))
 have B0 := hide (blk_new w (.cells #[.int .i64 0, .string ⟨#[]⟩, .int .i64 0, .slice none 0 0] 55))
 have H0 := hide (h.chg G0.out (fun _ _ h => h))
 have hl := h.lt
 have HIN := hide hin
 have HF0 := hide hf0
 have HF1 := hide hf1
 obtain ⟨A, hA⟩ : ∃ A, w.heap.size = A := ⟨_, rfl⟩
 have HL : Hid (tb < A ∧ w.heap.size = A) := hide ⟨by omega, hA⟩
 rw [hA] at B0
 clear h hl hA hin hf0 hf1
 cases st with
 | error x =>
   have H0' : Hid (RS (w.alloc (.cells #[.int .i64 0, .string ⟨#[]⟩, .int .i64 0, .slice none 0 0] 55)) tb v ts s (Rz.st (St.bind (.error x : St) f))) := H0
   have RR : Hid (St.bind (.error x : St) f = .error x) := rfl
   obtain ⟨e1, e2⟩ := rerr_ne (H0.out.code x rfl)
   by_cases h60 : o = 60
   ·
    have e60 : ((o : Int) == 60) = true := by simp; omega
    clear h60
    go_enter Try.func42, Try.ntmps42
    go_wp2_with fail
    rw [HL.out.2]
    generalize w.alloc (.cells #[.int .i64 0, .string ⟨#[]⟩, .int .i64 0, .slice none 0 0] 55) = w1 at *
    refine (rfail_err 2 H0.out).mono ?_
    rintro e w' ⟨rfl, rfl⟩
    have c3 : w1.cell? ⟨tb, 3, none⟩ = some (.int .i64 x.1) := H0.out.cells.2.2.2.1
    have G1 : Hid (Chg (fun x => x = tb) w w1) := hide G0.out.none
    have b0 := blk_cell B0.out 0
    have b1 := blk_cell B0.out 1
    have b2 := blk_cell B0.out 2
    have b3 := blk_cell B0.out 3
    have f0 := blk_free B0.out 0
    have f1 := blk_free B0.out 1
    have f2 := blk_free B0.out 2
    have f3 := blk_free B0.out 3
    have NS := hide (nv_set B0.out (.int .i64 0) (.string ⟨#[]⟩) (.int .i64 0) (.slice none 0 0))
    have FS := hide (H0'.out.chg NS.out.2 (fun x hx e => by have h1 := HL.out; omega))
    have CS := hide (rchg_fresh G1.out NS.out.2 (by have h1 := HL.out; omega))
    go_wp2_with fail
    generalize ((((w1.setCell ⟨A, 0, none⟩ (.int .i64 0)).setCell ⟨A, 1, none⟩ (.string ⟨#[]⟩)).setCell ⟨A, 2, none⟩ (.int .i64 0)).setCell ⟨A, 3, none⟩ (.slice none 0 0)) = wF at *
    have r0 := blk_cell NS.out.1 0
    have r1 := blk_cell NS.out.1 1
    have r2 := blk_cell NS.out.1 2
    have r3 := blk_cell NS.out.1 3
    refine bodyPost_ret (v := .agg #[.int .i64 0, .string ⟨#[]⟩, .int .i64 0, .slice none 0 0]) (by simp [results, Try.results42, go_sem, r0, r1, r2, r3]) rfl ?_
    exact ⟨⟨_, _, rfl, NV.leaf _ _ 0 ⟨#[]⟩ 0, fun q hq => by rw [RR.out] at hq; cases hq⟩, FS.out, CS.out⟩
   ·
    have e60 : ((o : Int) == 60) = false := by simp; omega
    clear h60
    have c3 : (w.alloc (.cells #[.int .i64 0, .string ⟨#[]⟩, .int .i64 0, .slice none 0 0] 55)).cell? ⟨tb, 3, none⟩ = some (.int .i64 x.1) := H0.out.cells.2.2.2.1
    have G1 : Hid (Chg (fun x => x = tb) w (w.alloc (.cells #[.int .i64 0, .string ⟨#[]⟩, .int .i64 0, .slice none 0 0] 55))) := hide G0.out.none
    have lA := HL.out.2
    go_enter Try.func42, Try.ntmps42
    have r0 := blk_cell B0.out 0
    have r1 := blk_cell B0.out 1
    have r2 := blk_cell B0.out 2
    have r3 := blk_cell B0.out 3
    go_wp2_with fail
    refine bodyPost_ret (v := .agg #[.int .i64 0, .string ⟨#[]⟩, .int .i64 0, .slice none 0 0]) (by simp [results, Try.results42, go_sem, r0, r1, r2, r3]) rfl ?_
    exact ⟨⟨_, _, rfl, NV.leaf _ _ 0 ⟨#[]⟩ 0, fun q hq => by rw [RR.out] at hq; cases hq⟩, H0'.out, G1.out⟩
 | ok k =>
   by_cases h60 : o = 60
   ·
    have e60 : ((o : Int) == 60) = true := by simp; omega
    have RR : Hid (St.bind (.ok k : St) f = .error (2, k)) := hide (HF0.out h60 k)
    clear h60
    go_enter Try.func42, Try.ntmps42
    go_wp2_with fail
    rw [HL.out.2]
    generalize w.alloc (.cells #[.int .i64 0, .string ⟨#[]⟩, .int .i64 0, .slice none 0 0] 55) = w1 at *
    refine (rfail_ok 2 (Or.inl rfl) H0.out).mono ?_
    rintro e w2 ⟨rfl, h2, g2⟩
    have H2 := hide h2
    have H2' : Hid (RS w2 tb v ts s (Rz.st (St.bind (.ok k : St) f))) := hide (by rw [RR.out]; exact h2)
    have B2 := hide (g2.blkS (by have := HL.out; omega) B0.out)
    have G2 := hide (G0.out.none.trans g2)
    have c3 : w2.cell? ⟨tb, 3, none⟩ = some (.int .i64 2) := H2.out.cells.2.2.2.1
    clear h2 g2
    have b0 := blk_cell B2.out 0
    have b1 := blk_cell B2.out 1
    have b2 := blk_cell B2.out 2
    have b3 := blk_cell B2.out 3
    have f0 := blk_free B2.out 0
    have f1 := blk_free B2.out 1
    have f2 := blk_free B2.out 2
    have f3 := blk_free B2.out 3
    have NS := hide (nv_set B2.out (.int .i64 0) (.string ⟨#[]⟩) (.int .i64 0) (.slice none 0 0))
    have FS := hide (H2'.out.chg NS.out.2 (fun x hx e => by have h1 := HL.out; omega))
    have CS := hide (rchg_fresh G2.out NS.out.2 (by have h1 := HL.out; omega))
    go_wp2_with fail
    generalize ((((w2.setCell ⟨A, 0, none⟩ (.int .i64 0)).setCell ⟨A, 1, none⟩ (.string ⟨#[]⟩)).setCell ⟨A, 2, none⟩ (.int .i64 0)).setCell ⟨A, 3, none⟩ (.slice none 0 0)) = wF at *
    have r0 := blk_cell NS.out.1 0
    have r1 := blk_cell NS.out.1 1
    have r2 := blk_cell NS.out.1 2
    have r3 := blk_cell NS.out.1 3
    refine bodyPost_ret (v := .agg #[.int .i64 0, .string ⟨#[]⟩, .int .i64 0, .slice none 0 0]) (by simp [results, Try.results42, go_sem, r0, r1, r2, r3]) rfl ?_
    exact ⟨⟨_, _, rfl, NV.leaf _ _ 0 ⟨#[]⟩ 0, fun q hq => by rw [RR.out] at hq; cases hq⟩, FS.out, CS.out⟩
   ·
    have e60 : ((o : Int) == 60) = false := by simp; omega
    have hlt : o < 60 := by omega
    have IN := hide (HIN.out hlt)
    have RR : Hid (St.bind (.ok k : St) f = typB ts s inner k) := hide (HF1.out hlt k)
    have eo1 : ((o + 1 : Nat) : Int) = (o : Int) + 1 := by omega
    rw [eo1] at IN
    clear h60 eo1 HIN HF0 HF1
    have GD := hide (al (w.alloc (.cells #[.int .i64 0, .string ⟨#[]⟩, .int .i64 0, .slice none 0 0] 55)) (.cells #[.int .i64 0, .string ⟨#[]⟩, .int .i64 0, .slice none 0 0] 55))
    have BD := hide (blk_new (w.alloc (.cells #[.int .i64 0, .string ⟨#[]⟩, .int .i64 0, .slice none 0 0] 55)) (.cells #[.int .i64 0, .string ⟨#[]⟩, .int .i64 0, .slice none 0 0] 55))
    have B1 := hide (GD.out.blk B0.out)
    have H1 := hide (H0.out.chg GD.out (fun _ _ h => h))
    have G1 := hide (G0.out.trans GD.out)
    have c3 : (w.alloc (.cells #[.int .i64 0, .string ⟨#[]⟩, .int .i64 0, .slice none 0 0] 55)).cell? ⟨tb, 3, none⟩ = some (.int .i64 0) := H0.out.cells.2.2.2.1
    have sz1 := al_sz w (.cells #[.int .i64 0, .string ⟨#[]⟩, .int .i64 0, .slice none 0 0] 55)
    have sz2 := al_sz (w.alloc (.cells #[.int .i64 0, .string ⟨#[]⟩, .int .i64 0, .slice none 0 0] 55)) (.cells #[.int .i64 0, .string ⟨#[]⟩, .int .i64 0, .slice none 0 0] 55)
    obtain ⟨D, hD⟩ : ∃ D, (w.alloc (.cells #[.int .i64 0, .string ⟨#[]⟩, .int .i64 0, .slice none 0 0] 55)).heap.size = D := ⟨_, rfl⟩
    have DL : Hid (tb < A ∧ w.heap.size = A ∧ A + 1 = D) := hide ⟨HL.out.1, HL.out.2, by have := HL.out; omega⟩
    have SZ1 : Hid (((w.alloc (.cells #[.int .i64 0, .string ⟨#[]⟩, .int .i64 0, .slice none 0 0] 55)).alloc (.cells #[.int .i64 0, .string ⟨#[]⟩, .int .i64 0, .slice none 0 0] 55)).heap.size = D + 1) := hide (by rw [← hD]; exact sz2)
    rw [hD] at BD
    have IS := hide (is_any bLp sg_lp H1.out)
    have nb : nextB ts s (.ok k) bLp = eatB ts s bLp k := rfl
    rw [nb] at IS
    clear hD sz1 sz2 H0 B0 GD nb
    have lA := HL.out.2
    have lD := DL.out.2.2
    go_enter Try.func42, Try.ntmps42
    go_wp2_with fail
    clear lA lD
    generalize (w.alloc (.cells #[.int .i64 0, .string ⟨#[]⟩, .int .i64 0, .slice none 0 0] 55)).alloc (.cells #[.int .i64 0, .string ⟨#[]⟩, .int .i64 0, .slice none 0 0] 55) = w1 at *
    refine IS.out.mono ?_
    rintro e w2 ⟨rfl, g2⟩
    have H2 := hide (H1.out.chg g2 (fun _ _ h => h))
    have B2 := hide (g2.blk B1.out)
    have D2 := hide (g2.blk BD.out)
    have G2 : Hid (Chg (fun x => x = tb) w w2) := hide (G1.out.trans g2).none
    have SZ2 : Hid (D + 1 ≤ w2.heap.size) := hide (by have := g2.size; have := SZ1.out; omega)
    clear g2 H1 B1 BD G1 IS c3 SZ1
    go_upto_if 18 with fail
    go_cut [4] (fun s4 wx => s4 = .pointer (some ⟨A, 0, none⟩) ∧ Hid (RMid w wx tb v ts s A D (atomS ts s inner k)))
    case first =>
     cases hb : eatB ts s bLp k
     ·
      have LAW := hide (atom_law2 ts s inner k hb)
      have AT := hide (rat_any H2.out)
      have AT : Hid (Calls Try.prog 67 #[.pointer (some ⟨tb, 0, none⟩)] w2 fun e w' => e = .returned (.int .i64 ((tokAt ts s k 0).2.2 : Int)) ∧ Chg (fun _ => False) w2 w') := AT
      have LT : Hid ((tokOf (tokS ts s 1 k)).2.2 = (tokAt ts s k 0).2.2 ∨ ∃ x, tokS ts s 1 k = .error x) := hide (by
       unfold tokS
       by_cases e : (tokAt ts s k 0).1 = 1
       ·
        rw [if_pos e]; exact Or.inl rfl
       ·
        rw [if_neg e]; exact Or.inr ⟨_, rfl⟩)
      clear hb IN RR
      go_wp2_with fail
      refine AT.out.mono ?_
      rintro e w3 ⟨rfl, g3⟩
      have H3 := hide (H2.out.chg g3 (fun _ _ h => h))
      have B3 := hide (g3.blk B2.out)
      have D3 := hide (g3.blk D2.out)
      have G3 := hide (G2.out.trans g3.none)
      have SZ3 : Hid (D + 1 ≤ w3.heap.size) := hide (by have := g3.size; have := SZ2.out; omega)
      clear g3 AT
      have AA := hide (a_any 1 (by decide) H3.out)
      have AA : Hid (Calls Try.prog 71 #[.pointer (some ⟨tb, 0, none⟩), .int .i64 1] w3 fun e w' => e = .returned (.string (tokOf (tokS ts s 1 k)).2.1) ∧ RS w' tb v ts s (tokS ts s 1 k).st ∧ Chg (fun x => x = tb) w3 w') := AA
      go_wp2_with fail
      refine AA.out.mono ?_
      rintro e w4 ⟨rfl, h4, g4⟩
      have H4 := hide h4
      have B4 := hide (g4.blkS (by have := DL.out; omega) B3.out)
      have D4 := hide (g4.blkS (by have := DL.out; omega) D3.out)
      have G4 := hide (G3.out.trans g4)
      have SZ4 : Hid (D + 1 ≤ w4.heap.size) := hide (by have := g4.size; have := SZ3.out; omega)
      clear h4 g4 AA
      obtain ⟨a1, ha1⟩ : ∃ a1, (tokOf (tokS ts s 1 k)).2.1 = a1 := ⟨_, rfl⟩
      obtain ⟨a2, ha2⟩ : ∃ a2 : Int, ((tokAt ts s k 0).2.2 : Int) = a2 := ⟨_, rfl⟩
      have LW : Hid ((tokS ts s 1 k).st = (atomS ts s inner k).st ∧ ∀ q, atomS ts s inner k = .ok q → ((1, a1, a2, Ns.nil) : Nd) = q.1) := hide ⟨LAW.out.1, fun q hq => by
       have h := LAW.out.2 q hq
       rcases LT.out with e | ⟨x, e⟩
       ·
        rw [ha1, e, ha2] at h; exact h
       ·
        have h1 := LAW.out.1
        rw [e, hq] at h1
        cases h1⟩
      rw [LW.out.1] at H4
      rw [ha1, ha2]
      clear ha1 ha2 LAW LT
      have b0 := blk_cell D4.out 0
      have b1 := blk_cell D4.out 1
      have b2 := blk_cell D4.out 2
      have b3 := blk_cell D4.out 3
      have f0 := blk_free D4.out 0
      have f1 := blk_free D4.out 1
      have f2 := blk_free D4.out 2
      have f3 := blk_free D4.out 3
      have NS := hide (nv_set D4.out (.int .i64 1) (.string a1) (.int .i64 a2) (.slice none 0 0))
      have FS := hide (H4.out.chg NS.out.2 (fun x hx e => by have h1 := DL.out; omega))
      have CS := hide (rchg_fresh G4.out NS.out.2 (by have h1 := DL.out; omega))
      have B9 := hide (NS.out.2.blkS (by have := DL.out; omega) B4.out)
      go_wp2_with fail
      go_meet
      refine ⟨rfl, hide ⟨(1, a1, a2, Ns.nil), none, 0, FS, B9, NS.out.1, hide (Ts.nil _ _), CS, hide LW.out.2, hide ⟨by have := DL.out; omega, by have := DL.out; omega, by have h1 := NS.out.2.size; have := SZ4.out; omega, by have := DL.out; omega⟩⟩⟩
     ·
      have LAW := hide (fun n hn => atom_law ts s inner k hb n hn)
      have hk1 := eatB_lt hb
      have hk2 := H2.out.env.len
      have H3 := hide (H2.out.moved ((k : Int) + 1) (by omega) hk1)
      have GS := Chg.set w2 tb 2 (.int .i64 ((k : Int) + 1))
      have B3 := hide (GS.blkS (by have := DL.out; omega) B2.out)
      have D3 := hide (GS.blkS (by have := DL.out; omega) D2.out)
      have G3 := hide (G2.out.trans GS)
      have SZ3 : Hid (D + 1 ≤ (w2.setCell ⟨tb, 2, none⟩ (.int .i64 ((k : Int) + 1))).heap.size) := hide (by have := GS.size; have := SZ2.out; omega)
      have f2 := blk_free H2.out.blk 2
      have c2 : w2.cell? ⟨tb, 2, none⟩ = some (.int .i64 (k : Int)) := H2.out.cells.2.2.1
      clear GS hb RR
      have I3 := hide (IN.out (.ok (k + 1)) _ H3.out)
      have I3 : Hid (Calls Try.prog 42 #[.pointer (some ⟨tb, 0, none⟩), .int .i64 ((o : Int) + 1)] (w2.setCell ⟨tb, 2, none⟩ (.int .i64 ((k : Int) + 1))) (ROut (w2.setCell ⟨tb, 2, none⟩ (.int .i64 ((k : Int) + 1))) tb v ts s (inner (k + 1)))) := I3
      clear IN
      go_wp2_with fail
      generalize w2.setCell ⟨tb, 2, none⟩ (.int .i64 ((k : Int) + 1)) = w3 at *
      refine I3.out.mono ?_
      rintro e w4 ⟨⟨u, a, rfl, ha, hq⟩, h4, g4⟩
      obtain ⟨aa, ac, rfl, _⟩ := id ha
      have LW := hide (LAW.out a hq)
      obtain ⟨a0, a1, a2, a3⟩ := a
      dsimp only [Nd.kind, Nd.word, Nd.at, Nd.kids] at *
      have H4 := hide h4
      have B4 := hide (g4.blkS (by have := DL.out; omega) B3.out)
      have D4 := hide (g4.blkS (by have := DL.out; omega) D3.out)
      have G4 := hide (G3.out.trans g4)
      have SZ4 : Hid (D + 1 ≤ w3.heap.size ∧ w3.heap.size ≤ w4.heap.size) := hide (by have := g4.size; have := SZ3.out; omega)
      have N4 := ha.up (Y := fun x => D < x ∧ x < w4.heap.size) (fun x hx => ⟨by have := SZ4.out; omega, hx.2⟩)
      obtain ⟨_, _, ev, NT⟩ := N4
      have N4 : Hid (Ts w4 (fun x => D < x ∧ x < w4.heap.size) (.slice aa a3.len ac) a3) := hide (by cases ev; exact NT)
      clear ev NT
      clear h4 g4 I3 LAW hq ha c2 f2
      have b0 := blk_cell D4.out 0
      have b1 := blk_cell D4.out 1
      have b2 := blk_cell D4.out 2
      have b3 := blk_cell D4.out 3
      have f0 := blk_free D4.out 0
      have f1 := blk_free D4.out 1
      have f2 := blk_free D4.out 2
      have f3 := blk_free D4.out 3
      have NS := hide (nv_set D4.out (.int .i64 a0) (.string a1) (.int .i64 a2) (.slice aa a3.len ac))
      have FS := hide (H4.out.chg NS.out.2 (fun x hx e => by have h1 := DL.out; omega))
      have CS := hide (rchg_fresh G4.out NS.out.2 (by have h1 := DL.out; omega))
      have B9 := hide (NS.out.2.blkS (by have := DL.out; omega) B4.out)
      go_wp2_with fail
      generalize ((((w4.setCell ⟨D, 0, none⟩ (.int .i64 a0)).setCell ⟨D, 1, none⟩ (.string a1)).setCell ⟨D, 2, none⟩ (.int .i64 a2)).setCell ⟨D, 3, none⟩ (.slice aa a3.len ac)) = w5 at *
      have SG := hide (sign_any' bRp sg_rp FS.out)
      rw [LW.out.1] at SG
      refine SG.out.mono ?_
      rintro e w6 ⟨rfl, h6, g6⟩
      have H6 := hide h6
      have B6 := hide (g6.blkS (by have := DL.out; omega) B9.out)
      have D6 := hide (g6.blkS (by have := DL.out; omega) NS.out.1)
      have G6 := hide (CS.out.trans g6)
      have N6 := hide ((N4.out.chg NS.out.2 (fun x hx e => by have := hx.1; omega)).chg g6 (fun x hx e => by have := hx.1; have := DL.out; omega))
      have SZ6 : Hid (w4.heap.size ≤ w6.heap.size) := hide (by have := g6.size; have := NS.out.2.size; omega)
      clear h6 g6 SG
      go_wp2_with fail
      go_meet
      refine ⟨rfl, hide ⟨(a0, a1, a2, a3), aa, ac, H6, B6, D6, hide (N6.out.up (fun x hx => ⟨by have := hx.1; have := DL.out; omega, by have := hx.2; have := SZ6.out; omega, by have := hx.1; have := DL.out; omega, by have := hx.1; omega⟩)), G6, hide LW.out.2, hide ⟨by have := DL.out; omega, by have := DL.out; omega, by have := SZ6.out; have := SZ4.out; omega, by have := DL.out; omega⟩⟩⟩
    case rest =>
     obtain ⟨rfl, hM⟩ := hcut
     clear H2 B2 D2 G2 SZ2
     obtain ⟨r1, hr1⟩ : ∃ r1, atomS ts s inner k = r1 := ⟨_, rfl⟩
     have HR1 := hide hr1
     rw [hr1] at hM
     clear hr1
     obtain ⟨a, aa, ac, H3, B3, D3, N3, G3, Q3, L3⟩ := hM.out
     clear hM
     generalize wc = w3 at *
     obtain ⟨a0, a1, a2, a3⟩ := a
     dsimp only [Nd.kind, Nd.word, Nd.at, Nd.kids] at *
     have IS := hide (is_any bArrow sg_arrow H3.out)
     go_wp2_with fail
     refine IS.out.mono ?_
     rintro e w4 ⟨rfl, g4⟩
     have H4 := hide (H3.out.chg g4 (fun _ _ h => h))
     have B4 := hide (g4.blk B3.out)
     have D4 := hide (g4.blk D3.out)
     have N4 := hide (N3.out.chg g4 (fun _ _ h => h))
     have G4 := hide (G3.out.trans g4.none)
     have L4 : Hid (w.heap.size ≤ A ∧ A < D ∧ D < w4.heap.size ∧ tb < w.heap.size ∧ w3.heap.size ≤ w4.heap.size) := hide (by have := L3.out; have := g4.size; omega)
     clear g4 IS H3 B3 D3 G3
     have p0 := blk_cell D4.out 0
     have p1 := blk_cell D4.out 1
     have p2 := blk_cell D4.out 2
     have p3 := blk_cell D4.out 3
     simp only [gets] at p0 p1 p2 p3
     cases r1 with
     | error x =>
       have nb : nextB ts s (Rz.st (.error x : Rz Nd)) bArrow = false := rfl
       have LAW : Hid (St.bind (.ok k : St) f = .error x) := hide (RR.out.trans (typB_err HR1.out))
       have H4' : Hid (RS w4 tb v ts s (Rz.st (St.bind (.ok k : St) f))) := hide (by rw [LAW.out]; exact H4.out)
       rw [nb]
       clear nb HR1 RR
       have b0 := blk_cell B4.out 0
       have b1 := blk_cell B4.out 1
       have b2 := blk_cell B4.out 2
       have b3 := blk_cell B4.out 3
       have f0 := blk_free B4.out 0
       have f1 := blk_free B4.out 1
       have f2 := blk_free B4.out 2
       have f3 := blk_free B4.out 3
       have NS := hide (nv_set B4.out (.int .i64 a0) (.string a1) (.int .i64 a2) (.slice aa a3.len ac))
       have FS := hide (H4'.out.chg NS.out.2 (fun x hx e => by have h1 := L4.out; omega))
       have CS := hide (rchg_fresh G4.out NS.out.2 (by have h1 := L4.out; omega))
       go_wp2_with fail
       generalize ((((w4.setCell ⟨A, 0, none⟩ (.int .i64 a0)).setCell ⟨A, 1, none⟩ (.string a1)).setCell ⟨A, 2, none⟩ (.int .i64 a2)).setCell ⟨A, 3, none⟩ (.slice aa a3.len ac)) = wF at *
       have r0 := blk_cell NS.out.1 0
       have r1 := blk_cell NS.out.1 1
       have r2 := blk_cell NS.out.1 2
       have r3 := blk_cell NS.out.1 3
       refine bodyPost_ret (v := .agg #[.int .i64 a0, .string a1, .int .i64 a2, .slice aa a3.len ac]) (by simp [results, Try.results42, go_sem, r0, r1, r2, r3]) rfl ?_
       have N7 := N4.out.chg NS.out.2 (fun x hx e => hx.2.2.1 e)
       exact ⟨⟨_, (a0, a1, a2, a3), rfl, ⟨aa, ac, rfl, N7.up (fun x hx => ⟨hx.1, by have h1 := NS.out.2.size; have h2 := L4.out; omega⟩)⟩, fun q hq => by rw [LAW.out] at hq; cases hq⟩, FS.out, CS.out⟩
     | ok q =>
       have eq := Q3.out q rfl
       obtain ⟨q1, k1⟩ := q
       dsimp only at eq
       subst eq
       have nb : nextB ts s (Rz.st (.ok ((a0, a1, a2, a3), k1) : Rz Nd)) bArrow = eatB ts s bArrow k1 := rfl
       rw [nb]
       clear nb
       cases hb : eatB ts s bArrow k1
       ·
        have LAW : Hid (St.bind (.ok k : St) f = .ok ((a0, a1, a2, a3), k1)) := hide (RR.out.trans (typB_no HR1.out hb))
        have H4' : Hid (RS w4 tb v ts s (Rz.st (St.bind (.ok k : St) f))) := hide (by rw [LAW.out]; exact H4.out)
        clear HR1 RR hb
        have b0 := blk_cell B4.out 0
        have b1 := blk_cell B4.out 1
        have b2 := blk_cell B4.out 2
        have b3 := blk_cell B4.out 3
        have f0 := blk_free B4.out 0
        have f1 := blk_free B4.out 1
        have f2 := blk_free B4.out 2
        have f3 := blk_free B4.out 3
        have NS := hide (nv_set B4.out (.int .i64 a0) (.string a1) (.int .i64 a2) (.slice aa a3.len ac))
        have FS := hide (H4'.out.chg NS.out.2 (fun x hx e => by have h1 := L4.out; omega))
        have CS := hide (rchg_fresh G4.out NS.out.2 (by have h1 := L4.out; omega))
        go_wp2_with fail
        generalize ((((w4.setCell ⟨A, 0, none⟩ (.int .i64 a0)).setCell ⟨A, 1, none⟩ (.string a1)).setCell ⟨A, 2, none⟩ (.int .i64 a2)).setCell ⟨A, 3, none⟩ (.slice aa a3.len ac)) = wF at *
        have r0 := blk_cell NS.out.1 0
        have r1 := blk_cell NS.out.1 1
        have r2 := blk_cell NS.out.1 2
        have r3 := blk_cell NS.out.1 3
        refine bodyPost_ret (v := .agg #[.int .i64 a0, .string a1, .int .i64 a2, .slice aa a3.len ac]) (by simp [results, Try.results42, go_sem, r0, r1, r2, r3]) rfl ?_
        have N7 := N4.out.chg NS.out.2 (fun x hx e => hx.2.2.1 e)
        exact ⟨⟨_, (a0, a1, a2, a3), rfl, ⟨aa, ac, rfl, N7.up (fun x hx => ⟨hx.1, by have h1 := NS.out.2.size; have h2 := L4.out; omega⟩)⟩, fun q hq => by rw [LAW.out] at hq; cases hq; rfl⟩, FS.out, CS.out⟩
       ·
        have LAW := hide (fun b hq => typB_yes HR1.out hb b hq)
        have hk1 := eatB_lt hb
        have hk2 := H4.out.env.len
        have GS := Chg.set w4 tb 2 (.int .i64 ((k1 : Int) + 1))
        have H5 := hide ((RS.moved (k := k1) H4.out ((k1 : Int) + 1) (by omega) hk1).chg (Chg.refl (fun _ => False) (w4.setCell ⟨tb, 2, none⟩ (.int .i64 ((k1 : Int) + 1)))).drew (fun _ _ h => h))
        have B5 := hide (GS.blkS (by have := L4.out; omega) B4.out)
        have D5 := hide (GS.blkS (by have := L4.out; omega) D4.out)
        have N5 := hide ((N4.out.chg GS (fun x hx e => by have := hx.1; have := L4.out; omega)).chg (Chg.refl (fun _ => False) (w4.setCell ⟨tb, 2, none⟩ (.int .i64 ((k1 : Int) + 1)))).drew (fun _ _ h => h))
        have G5 := hide ((G4.out.trans GS).drew)
        have L5 : Hid (w.heap.size ≤ A ∧ A < D ∧ D < (w4.setCell ⟨tb, 2, none⟩ (.int .i64 ((k1 : Int) + 1))).heap.size ∧ tb < w.heap.size ∧ w3.heap.size ≤ (w4.setCell ⟨tb, 2, none⟩ (.int .i64 ((k1 : Int) + 1))).heap.size) := hide (by have := L4.out; have := GS.size; omega)
        have f2 := blk_free H4.out.blk 2
        have c2 : w4.cell? ⟨tb, 2, none⟩ = some (.int .i64 (k1 : Int)) := H4.out.cells.2.2.1
        have y0 := GS.cell (by have := L4.out; omega) p0
        have y1 := GS.cell (by have := L4.out; omega) p1
        have y2 := GS.cell (by have := L4.out; omega) p2
        have y3 := GS.cell (by have := L4.out; omega) p3
        clear GS hb HR1 H4 B4 D4 N4 G4 p0 p1 p2 p3
        have I5 := hide (IN.out (.ok (k1 + 1)) _ H5.out)
        have RT : Hid (St.bind (.ok k : St) f = typB ts s inner k) := RR
        clear IN RR H5
        go_wp2_with fail
        generalize w4.setCell ⟨tb, 2, none⟩ (.int .i64 ((k1 : Int) + 1)) = w5 at *
        have eo3 : IntKind.i64.wrap ((o : Int) + 1) = (o : Int) + 1 := IntWalk.i64_in _ (by omega)
        clear c2 f2 hk1 hk2
        refine wp_region_held_drew (S := (fun w' => True)) (by kernel_rfl) trivial (fun hHeld => ?_)
        first
         | (refine tku 0 ?_)
         | (refine tkl 0 ?_ ?_ ?_
            rotate_left
            (intro w hSw
             (try dsimp only at hSw)
             (go_simp <;> with_reducible rfl)))
        try simp only [Act.put, puts]
        first
         | (refine tku 3 ?_)
         | (refine tkl 3 ?_ ?_ ?_
            rotate_left
            (intro w hSw
             (try dsimp only at hSw)
             (go_simp <;> with_reducible rfl)))
        try simp only [Act.put, puts]
        first
         | (refine tku 4 ?_)
         | (refine tkl 4 ?_ ?_ ?_
            rotate_left
            (intro w hSw
             (try dsimp only at hSw)
             (go_simp <;> with_reducible rfl)))
        try simp only [Act.put, puts]
        first
         | (refine tku 5 ?_)
         | (refine tkl 5 ?_ ?_ ?_
            rotate_left
            (intro w hSw
             (try dsimp only at hSw)
             (go_simp <;> with_reducible rfl)))
        try simp only [Act.put, puts]
        try simp only [eo3]
        clear eo3
        refine wpAnyH_ready (rs := [1, 2, 6]) (by kernel_rfl) (by simp) ?_
        refine AllReadyH.cons (i := 1) (o := _) rfl (fun K hK => ?_) ?_
        ·
         go_simp
         refine hK.out _ _ trivial (fun hHeld => ?_)
         clear hK K
         try simp only [Act.put, puts]
         refine wpAnyH_ready (rs := [2, 6]) (by kernel_rfl) (by simp) ?_
         refine AllReadyH.cons (i := 2) (o := _) rfl (fun K hK => ?_) ?_
         ·
          go_simp
          refine hK.out _ _ trivial (fun hHeld => ?_)
          clear hK K
          try simp only [Act.put, puts]
          refine rd1 6 (fun K hK => ?_)
          go_simp
          refine I5.out.mono ?_
          rintro e w6 ⟨⟨u, m, rfl, hm, hqm⟩, h6, g6⟩
          obtain ⟨ma, mc, rfl, _⟩ := id hm
          have LW := hide (LAW.out m hqm)
          clear LAW hqm
          obtain ⟨m0, m1, m2, m3⟩ := m
          dsimp only [Nd.kind, Nd.word, Nd.at, Nd.kids] at *
          have hv5 : w5.drew.heap.size = w5.heap.size := rfl
          have GF := al w6 (.cells #[.int .i64 a0, .string a1, .int .i64 a2, .slice aa a3.len ac, .int .i64 m0, .string m1, .int .i64 m2, .slice ma m3.len mc] 55)
          have BF := hide (blk_new w6 (.cells #[.int .i64 a0, .string a1, .int .i64 a2, .slice aa a3.len ac, .int .i64 m0, .string m1, .int .i64 m2, .slice ma m3.len mc] 55))
          have H7 := hide (h6.chg GF (fun _ _ h => h))
          rw [show (St.bind (.ok (k1 + 1) : St) inner).st = (St.bind (.ok k : St) f).st from LW.out.1.trans (congrArg Rz.st RT.out.symm)] at H7
          have B7 := hide (GF.blk (g6.blkS (by have := L5.out; omega) B5.out))
          have D7 := hide (GF.blk (g6.blkS (by have := L5.out; omega) D5.out))
          have G7 := hide ((G5.out.trans g6).trans GF.none)
          have hz6 := g6.size
          have NA := ((N5.out.chg g6 (fun x hx e => by have := hx.1; have := L5.out; omega)).chg GF (fun _ _ h => h)).up (Y := fun x => w.heap.size ≤ x ∧ x < w6.heap.size + 1 ∧ x ≠ A ∧ x ≠ D) (fun x hx => ⟨hx.1, by have := L5.out; omega, hx.2.2.1, hx.2.2.2⟩)
          have NB := (hm.chg GF (fun _ _ h => h)).up (Y := fun x => w.heap.size ≤ x ∧ x < w6.heap.size + 1 ∧ x ≠ A ∧ x ≠ D) (fun x hx => ⟨by have := L5.out; omega, by omega, by have := L5.out; omega, by have := L5.out; omega⟩)
          obtain ⟨_, _, eb, NB⟩ := NB
          have N7 := hide (nv_two (X := fun x => w.heap.size ≤ x ∧ x < w6.heap.size + 1 ∧ x ≠ A ∧ x ≠ D) (g := w6.heap.size) (n := (a0, a1, a2, a3)) (m := (m0, m1, m2, m3)) 2 a2 ⟨by have := L5.out; omega, by omega, by have := L5.out; omega, by have := L5.out; omega⟩ BF.out NA (by cases eb; exact NB))
          have z0 := g6.cell (by have := L5.out; omega) y0
          have z1 := g6.cell (by have := L5.out; omega) y1
          have z2 := g6.cell (by have := L5.out; omega) y2
          have z3 := g6.cell (by have := L5.out; omega) y3
          have t0 := GF.cell (fun h => h) z0
          have t1 := GF.cell (fun h => h) z1
          have t2 := GF.cell (fun h => h) z2
          have t3 := GF.cell (fun h => h) z3
          have SZ7 : Hid (w6.heap.size + 1 = (w6.alloc (.cells #[.int .i64 a0, .string a1, .int .i64 a2, .slice aa a3.len ac, .int .i64 m0, .string m1, .int .i64 m2, .slice ma m3.len mc] 55)).heap.size) := hide (by rw [al_sz])
          clear h6 g6 GF hm NA NB eb hv5 hz6
          go_simp
          refine hK.out _ _ trivial (fun hHeld => ?_)
          clear hK K
          try simp only [Act.put, puts]
          refine rd1 7 (fun K hK => ?_)
          go_simp
          refine hK.out _ _ trivial (fun hHeld => ?_)
          clear hK K
          try simp only [Act.put, puts]
          first
           | (refine tku 8 ?_)
           | (refine tkl 8 ?_ ?_ ?_
              rotate_left
              (intro w hSw
               (try dsimp only at hSw)
               (go_simp <;> with_reducible rfl)))
          try simp only [Act.put, puts]
          refine rd1 9 (fun K hK => ?_)
          obtain ⟨F, hF⟩ : ∃ F, w6.heap.size = F := ⟨_, rfl⟩
          rw [hF] at N7 SZ7 ⊢
          clear hF
          generalize w6.alloc (.cells #[.int .i64 a0, .string a1, .int .i64 a2, .slice aa a3.len ac, .int .i64 m0, .string m1, .int .i64 m2, .slice ma m3.len mc] 55) = w7 at *
          have b0 := blk_cell D7.out 0
          have b1 := blk_cell D7.out 1
          have b2 := blk_cell D7.out 2
          have b3 := blk_cell D7.out 3
          have f0 := blk_free D7.out 0
          have f1 := blk_free D7.out 1
          have f2 := blk_free D7.out 2
          have f3 := blk_free D7.out 3
          have NS := hide (nv_set D7.out (.int .i64 2) (.string ⟨#[]⟩) (.int .i64 a2) (.slice (some ⟨F, 0, none⟩) 2 2))
          have FS := hide (H7.out.chg NS.out.2 (fun x hx e => by have h1 := L5.out; omega))
          have CS := hide (rchg_fresh G7.out NS.out.2 (by have h1 := L5.out; omega))
          have B8 := hide (NS.out.2.blkS (by have := L5.out; omega) B7.out)
          have N8 := hide (N7.out.chg NS.out.2 (fun x hx e => hx.2.2.2 e))
          have D8 := hide NS.out.1
          have H8 := FS
          have G8 := CS
          have Z8 : Hid (F + 1 ≤ ((((w7.setCell ⟨D, 0, none⟩ (.int .i64 2)).setCell ⟨D, 1, none⟩ (.string ⟨#[]⟩)).setCell ⟨D, 2, none⟩ (.int .i64 a2)).setCell ⟨D, 3, none⟩ (.slice (some ⟨F, 0, none⟩) 2 2)).heap.size) := hide (by have h1 := NS.out.2.size; have h2 := SZ7.out; omega)
          have w0 := blk_cell NS.out.1 0
          have w1 := blk_cell NS.out.1 1
          have w2 := blk_cell NS.out.1 2
          have w3' := blk_cell NS.out.1 3
          simp only [gets] at w0 w1 w2 w3'
          clear FS CS H7 B7 D7 G7 NS N7
          go_simp
          refine hK.out _ _ trivial (fun hHeld => ?_)
          clear hK K
          try simp only [Act.put, puts]
          refine wpAnyH_done (by kernel_rfl) ?_ _
          clear b0 b1 b2 b3 f0 f1 f2 f3 t0 t1 t2 t3 z0 z1 z2 z3 y0 y1 y2 y3
          generalize ((((w7.setCell ⟨D, 0, none⟩ (.int .i64 2)).setCell ⟨D, 1, none⟩ (.string ⟨#[]⟩)).setCell ⟨D, 2, none⟩ (.int .i64 a2)).setCell ⟨D, 3, none⟩ (.slice (some ⟨F, 0, none⟩) 2 2)) = w8 at *
          have b0 := blk_cell B8.out 0
          have b1 := blk_cell B8.out 1
          have b2 := blk_cell B8.out 2
          have b3 := blk_cell B8.out 3
          have f0 := blk_free B8.out 0
          have f1 := blk_free B8.out 1
          have f2 := blk_free B8.out 2
          have f3 := blk_free B8.out 3
          have NS := hide (nv_set B8.out (.int .i64 2) (.string ⟨#[]⟩) (.int .i64 a2) (.slice (some ⟨F, 0, none⟩) 2 2))
          have FS := hide (H8.out.chg NS.out.2 (fun x hx e => by have h1 := L5.out; omega))
          have CS := hide (rchg_fresh G8.out NS.out.2 (by have h1 := L5.out; omega))
          go_wp2_with fail
          generalize ((((w8.setCell ⟨A, 0, none⟩ (.int .i64 2)).setCell ⟨A, 1, none⟩ (.string ⟨#[]⟩)).setCell ⟨A, 2, none⟩ (.int .i64 a2)).setCell ⟨A, 3, none⟩ (.slice (some ⟨F, 0, none⟩) 2 2)) = wF at *
          have r0 := blk_cell NS.out.1 0
          have r1 := blk_cell NS.out.1 1
          have r2 := blk_cell NS.out.1 2
          have r3 := blk_cell NS.out.1 3
          refine bodyPost_ret (v := .agg #[.int .i64 2, .string ⟨#[]⟩, .int .i64 a2, .slice (some ⟨F, 0, none⟩) 2 2]) (by simp [results, Try.results42, go_sem, r0, r1, r2, r3]) rfl ?_
          have N9 := N8.out.chg NS.out.2 (fun x hx e => hx.2.2.1 e)
          exact ⟨⟨_, _, rfl, N9.up (fun x hx => ⟨hx.1, by have h1 := NS.out.2.size; have h2 := Z8.out; omega⟩), fun q hq => LW.out.2 q (by rw [← RT.out]; exact hq)⟩, FS.out, CS.out⟩
         refine AllReadyH.cons (i := 6) (o := _) rfl (fun K hK => ?_) ?_
         rotate_left
         ·
          exact AllReadyH.nil
         go_simp
         refine I5.out.mono ?_
         rintro e w6 ⟨⟨u, m, rfl, hm, hqm⟩, h6, g6⟩
         obtain ⟨ma, mc, rfl, _⟩ := id hm
         have LW := hide (LAW.out m hqm)
         clear LAW hqm
         obtain ⟨m0, m1, m2, m3⟩ := m
         dsimp only [Nd.kind, Nd.word, Nd.at, Nd.kids] at *
         have hv5 : w5.drew.heap.size = w5.heap.size := rfl
         have GF := al w6 (.cells #[.int .i64 a0, .string a1, .int .i64 a2, .slice aa a3.len ac, .int .i64 m0, .string m1, .int .i64 m2, .slice ma m3.len mc] 55)
         have BF := hide (blk_new w6 (.cells #[.int .i64 a0, .string a1, .int .i64 a2, .slice aa a3.len ac, .int .i64 m0, .string m1, .int .i64 m2, .slice ma m3.len mc] 55))
         have H7 := hide (h6.chg GF (fun _ _ h => h))
         rw [show (St.bind (.ok (k1 + 1) : St) inner).st = (St.bind (.ok k : St) f).st from LW.out.1.trans (congrArg Rz.st RT.out.symm)] at H7
         have B7 := hide (GF.blk (g6.blkS (by have := L5.out; omega) B5.out))
         have D7 := hide (GF.blk (g6.blkS (by have := L5.out; omega) D5.out))
         have G7 := hide ((G5.out.trans g6).trans GF.none)
         have hz6 := g6.size
         have NA := ((N5.out.chg g6 (fun x hx e => by have := hx.1; have := L5.out; omega)).chg GF (fun _ _ h => h)).up (Y := fun x => w.heap.size ≤ x ∧ x < w6.heap.size + 1 ∧ x ≠ A ∧ x ≠ D) (fun x hx => ⟨hx.1, by have := L5.out; omega, hx.2.2.1, hx.2.2.2⟩)
         have NB := (hm.chg GF (fun _ _ h => h)).up (Y := fun x => w.heap.size ≤ x ∧ x < w6.heap.size + 1 ∧ x ≠ A ∧ x ≠ D) (fun x hx => ⟨by have := L5.out; omega, by omega, by have := L5.out; omega, by have := L5.out; omega⟩)
         obtain ⟨_, _, eb, NB⟩ := NB
         have N7 := hide (nv_two (X := fun x => w.heap.size ≤ x ∧ x < w6.heap.size + 1 ∧ x ≠ A ∧ x ≠ D) (g := w6.heap.size) (n := (a0, a1, a2, a3)) (m := (m0, m1, m2, m3)) 2 a2 ⟨by have := L5.out; omega, by omega, by have := L5.out; omega, by have := L5.out; omega⟩ BF.out NA (by cases eb; exact NB))
         have z0 := g6.cell (by have := L5.out; omega) y0
         have z1 := g6.cell (by have := L5.out; omega) y1
         have z2 := g6.cell (by have := L5.out; omega) y2
         have z3 := g6.cell (by have := L5.out; omega) y3
         have t0 := GF.cell (fun h => h) z0
         have t1 := GF.cell (fun h => h) z1
         have t2 := GF.cell (fun h => h) z2
         have t3 := GF.cell (fun h => h) z3
         have SZ7 : Hid (w6.heap.size + 1 = (w6.alloc (.cells #[.int .i64 a0, .string a1, .int .i64 a2, .slice aa a3.len ac, .int .i64 m0, .string m1, .int .i64 m2, .slice ma m3.len mc] 55)).heap.size) := hide (by rw [al_sz])
         clear h6 g6 GF hm NA NB eb hv5 hz6
         go_simp
         refine hK.out _ _ trivial (fun hHeld => ?_)
         clear hK K
         try simp only [Act.put, puts]
         refine rd1 2 (fun K hK => ?_)
         go_simp
         refine hK.out _ _ trivial (fun hHeld => ?_)
         clear hK K
         try simp only [Act.put, puts]
         refine rd1 7 (fun K hK => ?_)
         go_simp
         refine hK.out _ _ trivial (fun hHeld => ?_)
         clear hK K
         try simp only [Act.put, puts]
         first
          | (refine tku 8 ?_)
          | (refine tkl 8 ?_ ?_ ?_
             rotate_left
             (intro w hSw
              (try dsimp only at hSw)
              (go_simp <;> with_reducible rfl)))
         try simp only [Act.put, puts]
         refine rd1 9 (fun K hK => ?_)
         obtain ⟨F, hF⟩ : ∃ F, w6.heap.size = F := ⟨_, rfl⟩
         rw [hF] at N7 SZ7 ⊢
         clear hF
         generalize w6.alloc (.cells #[.int .i64 a0, .string a1, .int .i64 a2, .slice aa a3.len ac, .int .i64 m0, .string m1, .int .i64 m2, .slice ma m3.len mc] 55) = w7 at *
         have b0 := blk_cell D7.out 0
         have b1 := blk_cell D7.out 1
         have b2 := blk_cell D7.out 2
         have b3 := blk_cell D7.out 3
         have f0 := blk_free D7.out 0
         have f1 := blk_free D7.out 1
         have f2 := blk_free D7.out 2
         have f3 := blk_free D7.out 3
         have NS := hide (nv_set D7.out (.int .i64 2) (.string ⟨#[]⟩) (.int .i64 a2) (.slice (some ⟨F, 0, none⟩) 2 2))
         have FS := hide (H7.out.chg NS.out.2 (fun x hx e => by have h1 := L5.out; omega))
         have CS := hide (rchg_fresh G7.out NS.out.2 (by have h1 := L5.out; omega))
         have B8 := hide (NS.out.2.blkS (by have := L5.out; omega) B7.out)
         have N8 := hide (N7.out.chg NS.out.2 (fun x hx e => hx.2.2.2 e))
         have D8 := hide NS.out.1
         have H8 := FS
         have G8 := CS
         have Z8 : Hid (F + 1 ≤ ((((w7.setCell ⟨D, 0, none⟩ (.int .i64 2)).setCell ⟨D, 1, none⟩ (.string ⟨#[]⟩)).setCell ⟨D, 2, none⟩ (.int .i64 a2)).setCell ⟨D, 3, none⟩ (.slice (some ⟨F, 0, none⟩) 2 2)).heap.size) := hide (by have h1 := NS.out.2.size; have h2 := SZ7.out; omega)
         have w0 := blk_cell NS.out.1 0
         have w1 := blk_cell NS.out.1 1
         have w2 := blk_cell NS.out.1 2
         have w3' := blk_cell NS.out.1 3
         simp only [gets] at w0 w1 w2 w3'
         clear FS CS H7 B7 D7 G7 NS N7
         go_simp
         refine hK.out _ _ trivial (fun hHeld => ?_)
         clear hK K
         try simp only [Act.put, puts]
         refine wpAnyH_done (by kernel_rfl) ?_ _
         clear b0 b1 b2 b3 f0 f1 f2 f3 t0 t1 t2 t3 z0 z1 z2 z3 y0 y1 y2 y3
         generalize ((((w7.setCell ⟨D, 0, none⟩ (.int .i64 2)).setCell ⟨D, 1, none⟩ (.string ⟨#[]⟩)).setCell ⟨D, 2, none⟩ (.int .i64 a2)).setCell ⟨D, 3, none⟩ (.slice (some ⟨F, 0, none⟩) 2 2)) = w8 at *
         have b0 := blk_cell B8.out 0
         have b1 := blk_cell B8.out 1
         have b2 := blk_cell B8.out 2
         have b3 := blk_cell B8.out 3
         have f0 := blk_free B8.out 0
         have f1 := blk_free B8.out 1
         have f2 := blk_free B8.out 2
         have f3 := blk_free B8.out 3
         have NS := hide (nv_set B8.out (.int .i64 2) (.string ⟨#[]⟩) (.int .i64 a2) (.slice (some ⟨F, 0, none⟩) 2 2))
         have FS := hide (H8.out.chg NS.out.2 (fun x hx e => by have h1 := L5.out; omega))
         have CS := hide (rchg_fresh G8.out NS.out.2 (by have h1 := L5.out; omega))
         go_wp2_with fail
         generalize ((((w8.setCell ⟨A, 0, none⟩ (.int .i64 2)).setCell ⟨A, 1, none⟩ (.string ⟨#[]⟩)).setCell ⟨A, 2, none⟩ (.int .i64 a2)).setCell ⟨A, 3, none⟩ (.slice (some ⟨F, 0, none⟩) 2 2)) = wF at *
         have r0 := blk_cell NS.out.1 0
         have r1 := blk_cell NS.out.1 1
         have r2 := blk_cell NS.out.1 2
         have r3 := blk_cell NS.out.1 3
         refine bodyPost_ret (v := .agg #[.int .i64 2, .string ⟨#[]⟩, .int .i64 a2, .slice (some ⟨F, 0, none⟩) 2 2]) (by simp [results, Try.results42, go_sem, r0, r1, r2, r3]) rfl ?_
         have N9 := N8.out.chg NS.out.2 (fun x hx e => hx.2.2.1 e)
         exact ⟨⟨_, _, rfl, N9.up (fun x hx => ⟨hx.1, by have h1 := NS.out.2.size; have h2 := Z8.out; omega⟩), fun q hq => LW.out.2 q (by rw [← RT.out]; exact hq)⟩, FS.out, CS.out⟩
        refine AllReadyH.cons (i := 2) (o := _) rfl (fun K hK => ?_) ?_
        ·
         go_simp
         refine hK.out _ _ trivial (fun hHeld => ?_)
         clear hK K
         try simp only [Act.put, puts]
         refine wpAnyH_ready (rs := [1, 6]) (by kernel_rfl) (by simp) ?_
         refine AllReadyH.cons (i := 1) (o := _) rfl (fun K hK => ?_) ?_
         ·
          go_simp
          refine hK.out _ _ trivial (fun hHeld => ?_)
          clear hK K
          try simp only [Act.put, puts]
          refine rd1 6 (fun K hK => ?_)
          go_simp
          refine I5.out.mono ?_
          rintro e w6 ⟨⟨u, m, rfl, hm, hqm⟩, h6, g6⟩
          obtain ⟨ma, mc, rfl, _⟩ := id hm
          have LW := hide (LAW.out m hqm)
          clear LAW hqm
          obtain ⟨m0, m1, m2, m3⟩ := m
          dsimp only [Nd.kind, Nd.word, Nd.at, Nd.kids] at *
          have hv5 : w5.drew.heap.size = w5.heap.size := rfl
          have GF := al w6 (.cells #[.int .i64 a0, .string a1, .int .i64 a2, .slice aa a3.len ac, .int .i64 m0, .string m1, .int .i64 m2, .slice ma m3.len mc] 55)
          have BF := hide (blk_new w6 (.cells #[.int .i64 a0, .string a1, .int .i64 a2, .slice aa a3.len ac, .int .i64 m0, .string m1, .int .i64 m2, .slice ma m3.len mc] 55))
          have H7 := hide (h6.chg GF (fun _ _ h => h))
          rw [show (St.bind (.ok (k1 + 1) : St) inner).st = (St.bind (.ok k : St) f).st from LW.out.1.trans (congrArg Rz.st RT.out.symm)] at H7
          have B7 := hide (GF.blk (g6.blkS (by have := L5.out; omega) B5.out))
          have D7 := hide (GF.blk (g6.blkS (by have := L5.out; omega) D5.out))
          have G7 := hide ((G5.out.trans g6).trans GF.none)
          have hz6 := g6.size
          have NA := ((N5.out.chg g6 (fun x hx e => by have := hx.1; have := L5.out; omega)).chg GF (fun _ _ h => h)).up (Y := fun x => w.heap.size ≤ x ∧ x < w6.heap.size + 1 ∧ x ≠ A ∧ x ≠ D) (fun x hx => ⟨hx.1, by have := L5.out; omega, hx.2.2.1, hx.2.2.2⟩)
          have NB := (hm.chg GF (fun _ _ h => h)).up (Y := fun x => w.heap.size ≤ x ∧ x < w6.heap.size + 1 ∧ x ≠ A ∧ x ≠ D) (fun x hx => ⟨by have := L5.out; omega, by omega, by have := L5.out; omega, by have := L5.out; omega⟩)
          obtain ⟨_, _, eb, NB⟩ := NB
          have N7 := hide (nv_two (X := fun x => w.heap.size ≤ x ∧ x < w6.heap.size + 1 ∧ x ≠ A ∧ x ≠ D) (g := w6.heap.size) (n := (a0, a1, a2, a3)) (m := (m0, m1, m2, m3)) 2 a2 ⟨by have := L5.out; omega, by omega, by have := L5.out; omega, by have := L5.out; omega⟩ BF.out NA (by cases eb; exact NB))
          have z0 := g6.cell (by have := L5.out; omega) y0
          have z1 := g6.cell (by have := L5.out; omega) y1
          have z2 := g6.cell (by have := L5.out; omega) y2
          have z3 := g6.cell (by have := L5.out; omega) y3
          have t0 := GF.cell (fun h => h) z0
          have t1 := GF.cell (fun h => h) z1
          have t2 := GF.cell (fun h => h) z2
          have t3 := GF.cell (fun h => h) z3
          have SZ7 : Hid (w6.heap.size + 1 = (w6.alloc (.cells #[.int .i64 a0, .string a1, .int .i64 a2, .slice aa a3.len ac, .int .i64 m0, .string m1, .int .i64 m2, .slice ma m3.len mc] 55)).heap.size) := hide (by rw [al_sz])
          clear h6 g6 GF hm NA NB eb hv5 hz6
          go_simp
          refine hK.out _ _ trivial (fun hHeld => ?_)
          clear hK K
          try simp only [Act.put, puts]
          refine rd1 7 (fun K hK => ?_)
          go_simp
          refine hK.out _ _ trivial (fun hHeld => ?_)
          clear hK K
          try simp only [Act.put, puts]
          first
           | (refine tku 8 ?_)
           | (refine tkl 8 ?_ ?_ ?_
              rotate_left
              (intro w hSw
               (try dsimp only at hSw)
               (go_simp <;> with_reducible rfl)))
          try simp only [Act.put, puts]
          refine rd1 9 (fun K hK => ?_)
          obtain ⟨F, hF⟩ : ∃ F, w6.heap.size = F := ⟨_, rfl⟩
          rw [hF] at N7 SZ7 ⊢
          clear hF
          generalize w6.alloc (.cells #[.int .i64 a0, .string a1, .int .i64 a2, .slice aa a3.len ac, .int .i64 m0, .string m1, .int .i64 m2, .slice ma m3.len mc] 55) = w7 at *
          have b0 := blk_cell D7.out 0
          have b1 := blk_cell D7.out 1
          have b2 := blk_cell D7.out 2
          have b3 := blk_cell D7.out 3
          have f0 := blk_free D7.out 0
          have f1 := blk_free D7.out 1
          have f2 := blk_free D7.out 2
          have f3 := blk_free D7.out 3
          have NS := hide (nv_set D7.out (.int .i64 2) (.string ⟨#[]⟩) (.int .i64 a2) (.slice (some ⟨F, 0, none⟩) 2 2))
          have FS := hide (H7.out.chg NS.out.2 (fun x hx e => by have h1 := L5.out; omega))
          have CS := hide (rchg_fresh G7.out NS.out.2 (by have h1 := L5.out; omega))
          have B8 := hide (NS.out.2.blkS (by have := L5.out; omega) B7.out)
          have N8 := hide (N7.out.chg NS.out.2 (fun x hx e => hx.2.2.2 e))
          have D8 := hide NS.out.1
          have H8 := FS
          have G8 := CS
          have Z8 : Hid (F + 1 ≤ ((((w7.setCell ⟨D, 0, none⟩ (.int .i64 2)).setCell ⟨D, 1, none⟩ (.string ⟨#[]⟩)).setCell ⟨D, 2, none⟩ (.int .i64 a2)).setCell ⟨D, 3, none⟩ (.slice (some ⟨F, 0, none⟩) 2 2)).heap.size) := hide (by have h1 := NS.out.2.size; have h2 := SZ7.out; omega)
          have w0 := blk_cell NS.out.1 0
          have w1 := blk_cell NS.out.1 1
          have w2 := blk_cell NS.out.1 2
          have w3' := blk_cell NS.out.1 3
          simp only [gets] at w0 w1 w2 w3'
          clear FS CS H7 B7 D7 G7 NS N7
          go_simp
          refine hK.out _ _ trivial (fun hHeld => ?_)
          clear hK K
          try simp only [Act.put, puts]
          refine wpAnyH_done (by kernel_rfl) ?_ _
          clear b0 b1 b2 b3 f0 f1 f2 f3 t0 t1 t2 t3 z0 z1 z2 z3 y0 y1 y2 y3
          generalize ((((w7.setCell ⟨D, 0, none⟩ (.int .i64 2)).setCell ⟨D, 1, none⟩ (.string ⟨#[]⟩)).setCell ⟨D, 2, none⟩ (.int .i64 a2)).setCell ⟨D, 3, none⟩ (.slice (some ⟨F, 0, none⟩) 2 2)) = w8 at *
          have b0 := blk_cell B8.out 0
          have b1 := blk_cell B8.out 1
          have b2 := blk_cell B8.out 2
          have b3 := blk_cell B8.out 3
          have f0 := blk_free B8.out 0
          have f1 := blk_free B8.out 1
          have f2 := blk_free B8.out 2
          have f3 := blk_free B8.out 3
          have NS := hide (nv_set B8.out (.int .i64 2) (.string ⟨#[]⟩) (.int .i64 a2) (.slice (some ⟨F, 0, none⟩) 2 2))
          have FS := hide (H8.out.chg NS.out.2 (fun x hx e => by have h1 := L5.out; omega))
          have CS := hide (rchg_fresh G8.out NS.out.2 (by have h1 := L5.out; omega))
          go_wp2_with fail
          generalize ((((w8.setCell ⟨A, 0, none⟩ (.int .i64 2)).setCell ⟨A, 1, none⟩ (.string ⟨#[]⟩)).setCell ⟨A, 2, none⟩ (.int .i64 a2)).setCell ⟨A, 3, none⟩ (.slice (some ⟨F, 0, none⟩) 2 2)) = wF at *
          have r0 := blk_cell NS.out.1 0
          have r1 := blk_cell NS.out.1 1
          have r2 := blk_cell NS.out.1 2
          have r3 := blk_cell NS.out.1 3
          refine bodyPost_ret (v := .agg #[.int .i64 2, .string ⟨#[]⟩, .int .i64 a2, .slice (some ⟨F, 0, none⟩) 2 2]) (by simp [results, Try.results42, go_sem, r0, r1, r2, r3]) rfl ?_
          have N9 := N8.out.chg NS.out.2 (fun x hx e => hx.2.2.1 e)
          exact ⟨⟨_, _, rfl, N9.up (fun x hx => ⟨hx.1, by have h1 := NS.out.2.size; have h2 := Z8.out; omega⟩), fun q hq => LW.out.2 q (by rw [← RT.out]; exact hq)⟩, FS.out, CS.out⟩
         refine AllReadyH.cons (i := 6) (o := _) rfl (fun K hK => ?_) ?_
         rotate_left
         ·
          exact AllReadyH.nil
         go_simp
         refine I5.out.mono ?_
         rintro e w6 ⟨⟨u, m, rfl, hm, hqm⟩, h6, g6⟩
         obtain ⟨ma, mc, rfl, _⟩ := id hm
         have LW := hide (LAW.out m hqm)
         clear LAW hqm
         obtain ⟨m0, m1, m2, m3⟩ := m
         dsimp only [Nd.kind, Nd.word, Nd.at, Nd.kids] at *
         have hv5 : w5.drew.heap.size = w5.heap.size := rfl
         have GF := al w6 (.cells #[.int .i64 a0, .string a1, .int .i64 a2, .slice aa a3.len ac, .int .i64 m0, .string m1, .int .i64 m2, .slice ma m3.len mc] 55)
         have BF := hide (blk_new w6 (.cells #[.int .i64 a0, .string a1, .int .i64 a2, .slice aa a3.len ac, .int .i64 m0, .string m1, .int .i64 m2, .slice ma m3.len mc] 55))
         have H7 := hide (h6.chg GF (fun _ _ h => h))
         rw [show (St.bind (.ok (k1 + 1) : St) inner).st = (St.bind (.ok k : St) f).st from LW.out.1.trans (congrArg Rz.st RT.out.symm)] at H7
         have B7 := hide (GF.blk (g6.blkS (by have := L5.out; omega) B5.out))
         have D7 := hide (GF.blk (g6.blkS (by have := L5.out; omega) D5.out))
         have G7 := hide ((G5.out.trans g6).trans GF.none)
         have hz6 := g6.size
         have NA := ((N5.out.chg g6 (fun x hx e => by have := hx.1; have := L5.out; omega)).chg GF (fun _ _ h => h)).up (Y := fun x => w.heap.size ≤ x ∧ x < w6.heap.size + 1 ∧ x ≠ A ∧ x ≠ D) (fun x hx => ⟨hx.1, by have := L5.out; omega, hx.2.2.1, hx.2.2.2⟩)
         have NB := (hm.chg GF (fun _ _ h => h)).up (Y := fun x => w.heap.size ≤ x ∧ x < w6.heap.size + 1 ∧ x ≠ A ∧ x ≠ D) (fun x hx => ⟨by have := L5.out; omega, by omega, by have := L5.out; omega, by have := L5.out; omega⟩)
         obtain ⟨_, _, eb, NB⟩ := NB
         have N7 := hide (nv_two (X := fun x => w.heap.size ≤ x ∧ x < w6.heap.size + 1 ∧ x ≠ A ∧ x ≠ D) (g := w6.heap.size) (n := (a0, a1, a2, a3)) (m := (m0, m1, m2, m3)) 2 a2 ⟨by have := L5.out; omega, by omega, by have := L5.out; omega, by have := L5.out; omega⟩ BF.out NA (by cases eb; exact NB))
         have z0 := g6.cell (by have := L5.out; omega) y0
         have z1 := g6.cell (by have := L5.out; omega) y1
         have z2 := g6.cell (by have := L5.out; omega) y2
         have z3 := g6.cell (by have := L5.out; omega) y3
         have t0 := GF.cell (fun h => h) z0
         have t1 := GF.cell (fun h => h) z1
         have t2 := GF.cell (fun h => h) z2
         have t3 := GF.cell (fun h => h) z3
         have SZ7 : Hid (w6.heap.size + 1 = (w6.alloc (.cells #[.int .i64 a0, .string a1, .int .i64 a2, .slice aa a3.len ac, .int .i64 m0, .string m1, .int .i64 m2, .slice ma m3.len mc] 55)).heap.size) := hide (by rw [al_sz])
         clear h6 g6 GF hm NA NB eb hv5 hz6
         go_simp
         refine hK.out _ _ trivial (fun hHeld => ?_)
         clear hK K
         try simp only [Act.put, puts]
         refine wpAnyH_ready (rs := [1, 7]) (by kernel_rfl) (by simp) ?_
         refine AllReadyH.cons (i := 1) (o := _) rfl (fun K hK => ?_) ?_
         ·
          go_simp
          refine hK.out _ _ trivial (fun hHeld => ?_)
          clear hK K
          try simp only [Act.put, puts]
          refine rd1 7 (fun K hK => ?_)
          go_simp
          refine hK.out _ _ trivial (fun hHeld => ?_)
          clear hK K
          try simp only [Act.put, puts]
          first
           | (refine tku 8 ?_)
           | (refine tkl 8 ?_ ?_ ?_
              rotate_left
              (intro w hSw
               (try dsimp only at hSw)
               (go_simp <;> with_reducible rfl)))
          try simp only [Act.put, puts]
          refine rd1 9 (fun K hK => ?_)
          obtain ⟨F, hF⟩ : ∃ F, w6.heap.size = F := ⟨_, rfl⟩
          rw [hF] at N7 SZ7 ⊢
          clear hF
          generalize w6.alloc (.cells #[.int .i64 a0, .string a1, .int .i64 a2, .slice aa a3.len ac, .int .i64 m0, .string m1, .int .i64 m2, .slice ma m3.len mc] 55) = w7 at *
          have b0 := blk_cell D7.out 0
          have b1 := blk_cell D7.out 1
          have b2 := blk_cell D7.out 2
          have b3 := blk_cell D7.out 3
          have f0 := blk_free D7.out 0
          have f1 := blk_free D7.out 1
          have f2 := blk_free D7.out 2
          have f3 := blk_free D7.out 3
          have NS := hide (nv_set D7.out (.int .i64 2) (.string ⟨#[]⟩) (.int .i64 a2) (.slice (some ⟨F, 0, none⟩) 2 2))
          have FS := hide (H7.out.chg NS.out.2 (fun x hx e => by have h1 := L5.out; omega))
          have CS := hide (rchg_fresh G7.out NS.out.2 (by have h1 := L5.out; omega))
          have B8 := hide (NS.out.2.blkS (by have := L5.out; omega) B7.out)
          have N8 := hide (N7.out.chg NS.out.2 (fun x hx e => hx.2.2.2 e))
          have D8 := hide NS.out.1
          have H8 := FS
          have G8 := CS
          have Z8 : Hid (F + 1 ≤ ((((w7.setCell ⟨D, 0, none⟩ (.int .i64 2)).setCell ⟨D, 1, none⟩ (.string ⟨#[]⟩)).setCell ⟨D, 2, none⟩ (.int .i64 a2)).setCell ⟨D, 3, none⟩ (.slice (some ⟨F, 0, none⟩) 2 2)).heap.size) := hide (by have h1 := NS.out.2.size; have h2 := SZ7.out; omega)
          have w0 := blk_cell NS.out.1 0
          have w1 := blk_cell NS.out.1 1
          have w2 := blk_cell NS.out.1 2
          have w3' := blk_cell NS.out.1 3
          simp only [gets] at w0 w1 w2 w3'
          clear FS CS H7 B7 D7 G7 NS N7
          go_simp
          refine hK.out _ _ trivial (fun hHeld => ?_)
          clear hK K
          try simp only [Act.put, puts]
          refine wpAnyH_done (by kernel_rfl) ?_ _
          clear b0 b1 b2 b3 f0 f1 f2 f3 t0 t1 t2 t3 z0 z1 z2 z3 y0 y1 y2 y3
          generalize ((((w7.setCell ⟨D, 0, none⟩ (.int .i64 2)).setCell ⟨D, 1, none⟩ (.string ⟨#[]⟩)).setCell ⟨D, 2, none⟩ (.int .i64 a2)).setCell ⟨D, 3, none⟩ (.slice (some ⟨F, 0, none⟩) 2 2)) = w8 at *
          have b0 := blk_cell B8.out 0
          have b1 := blk_cell B8.out 1
          have b2 := blk_cell B8.out 2
          have b3 := blk_cell B8.out 3
          have f0 := blk_free B8.out 0
          have f1 := blk_free B8.out 1
          have f2 := blk_free B8.out 2
          have f3 := blk_free B8.out 3
          have NS := hide (nv_set B8.out (.int .i64 2) (.string ⟨#[]⟩) (.int .i64 a2) (.slice (some ⟨F, 0, none⟩) 2 2))
          have FS := hide (H8.out.chg NS.out.2 (fun x hx e => by have h1 := L5.out; omega))
          have CS := hide (rchg_fresh G8.out NS.out.2 (by have h1 := L5.out; omega))
          go_wp2_with fail
          generalize ((((w8.setCell ⟨A, 0, none⟩ (.int .i64 2)).setCell ⟨A, 1, none⟩ (.string ⟨#[]⟩)).setCell ⟨A, 2, none⟩ (.int .i64 a2)).setCell ⟨A, 3, none⟩ (.slice (some ⟨F, 0, none⟩) 2 2)) = wF at *
          have r0 := blk_cell NS.out.1 0
          have r1 := blk_cell NS.out.1 1
          have r2 := blk_cell NS.out.1 2
          have r3 := blk_cell NS.out.1 3
          refine bodyPost_ret (v := .agg #[.int .i64 2, .string ⟨#[]⟩, .int .i64 a2, .slice (some ⟨F, 0, none⟩) 2 2]) (by simp [results, Try.results42, go_sem, r0, r1, r2, r3]) rfl ?_
          have N9 := N8.out.chg NS.out.2 (fun x hx e => hx.2.2.1 e)
          exact ⟨⟨_, _, rfl, N9.up (fun x hx => ⟨hx.1, by have h1 := NS.out.2.size; have h2 := Z8.out; omega⟩), fun q hq => LW.out.2 q (by rw [← RT.out]; exact hq)⟩, FS.out, CS.out⟩
         refine AllReadyH.cons (i := 7) (o := _) rfl (fun K hK => ?_) ?_
         rotate_left
         ·
          exact AllReadyH.nil
         go_simp
         refine hK.out _ _ trivial (fun hHeld => ?_)
         clear hK K
         try simp only [Act.put, puts]
         refine rd1 1 (fun K hK => ?_)
         go_simp
         refine hK.out _ _ trivial (fun hHeld => ?_)
         clear hK K
         try simp only [Act.put, puts]
         first
          | (refine tku 8 ?_)
          | (refine tkl 8 ?_ ?_ ?_
             rotate_left
             (intro w hSw
              (try dsimp only at hSw)
              (go_simp <;> with_reducible rfl)))
         try simp only [Act.put, puts]
         refine rd1 9 (fun K hK => ?_)
         obtain ⟨F, hF⟩ : ∃ F, w6.heap.size = F := ⟨_, rfl⟩
         rw [hF] at N7 SZ7 ⊢
         clear hF
         generalize w6.alloc (.cells #[.int .i64 a0, .string a1, .int .i64 a2, .slice aa a3.len ac, .int .i64 m0, .string m1, .int .i64 m2, .slice ma m3.len mc] 55) = w7 at *
         have b0 := blk_cell D7.out 0
         have b1 := blk_cell D7.out 1
         have b2 := blk_cell D7.out 2
         have b3 := blk_cell D7.out 3
         have f0 := blk_free D7.out 0
         have f1 := blk_free D7.out 1
         have f2 := blk_free D7.out 2
         have f3 := blk_free D7.out 3
         have NS := hide (nv_set D7.out (.int .i64 2) (.string ⟨#[]⟩) (.int .i64 a2) (.slice (some ⟨F, 0, none⟩) 2 2))
         have FS := hide (H7.out.chg NS.out.2 (fun x hx e => by have h1 := L5.out; omega))
         have CS := hide (rchg_fresh G7.out NS.out.2 (by have h1 := L5.out; omega))
         have B8 := hide (NS.out.2.blkS (by have := L5.out; omega) B7.out)
         have N8 := hide (N7.out.chg NS.out.2 (fun x hx e => hx.2.2.2 e))
         have D8 := hide NS.out.1
         have H8 := FS
         have G8 := CS
         have Z8 : Hid (F + 1 ≤ ((((w7.setCell ⟨D, 0, none⟩ (.int .i64 2)).setCell ⟨D, 1, none⟩ (.string ⟨#[]⟩)).setCell ⟨D, 2, none⟩ (.int .i64 a2)).setCell ⟨D, 3, none⟩ (.slice (some ⟨F, 0, none⟩) 2 2)).heap.size) := hide (by have h1 := NS.out.2.size; have h2 := SZ7.out; omega)
         have w0 := blk_cell NS.out.1 0
         have w1 := blk_cell NS.out.1 1
         have w2 := blk_cell NS.out.1 2
         have w3' := blk_cell NS.out.1 3
         simp only [gets] at w0 w1 w2 w3'
         clear FS CS H7 B7 D7 G7 NS N7
         go_simp
         refine hK.out _ _ trivial (fun hHeld => ?_)
         clear hK K
         try simp only [Act.put, puts]
         refine wpAnyH_done (by kernel_rfl) ?_ _
         clear b0 b1 b2 b3 f0 f1 f2 f3 t0 t1 t2 t3 z0 z1 z2 z3 y0 y1 y2 y3
         generalize ((((w7.setCell ⟨D, 0, none⟩ (.int .i64 2)).setCell ⟨D, 1, none⟩ (.string ⟨#[]⟩)).setCell ⟨D, 2, none⟩ (.int .i64 a2)).setCell ⟨D, 3, none⟩ (.slice (some ⟨F, 0, none⟩) 2 2)) = w8 at *
         have b0 := blk_cell B8.out 0
         have b1 := blk_cell B8.out 1
         have b2 := blk_cell B8.out 2
         have b3 := blk_cell B8.out 3
         have f0 := blk_free B8.out 0
         have f1 := blk_free B8.out 1
         have f2 := blk_free B8.out 2
         have f3 := blk_free B8.out 3
         have NS := hide (nv_set B8.out (.int .i64 2) (.string ⟨#[]⟩) (.int .i64 a2) (.slice (some ⟨F, 0, none⟩) 2 2))
         have FS := hide (H8.out.chg NS.out.2 (fun x hx e => by have h1 := L5.out; omega))
         have CS := hide (rchg_fresh G8.out NS.out.2 (by have h1 := L5.out; omega))
         go_wp2_with fail
         generalize ((((w8.setCell ⟨A, 0, none⟩ (.int .i64 2)).setCell ⟨A, 1, none⟩ (.string ⟨#[]⟩)).setCell ⟨A, 2, none⟩ (.int .i64 a2)).setCell ⟨A, 3, none⟩ (.slice (some ⟨F, 0, none⟩) 2 2)) = wF at *
         have r0 := blk_cell NS.out.1 0
         have r1 := blk_cell NS.out.1 1
         have r2 := blk_cell NS.out.1 2
         have r3 := blk_cell NS.out.1 3
         refine bodyPost_ret (v := .agg #[.int .i64 2, .string ⟨#[]⟩, .int .i64 a2, .slice (some ⟨F, 0, none⟩) 2 2]) (by simp [results, Try.results42, go_sem, r0, r1, r2, r3]) rfl ?_
         have N9 := N8.out.chg NS.out.2 (fun x hx e => hx.2.2.1 e)
         exact ⟨⟨_, _, rfl, N9.up (fun x hx => ⟨hx.1, by have h1 := NS.out.2.size; have h2 := Z8.out; omega⟩), fun q hq => LW.out.2 q (by rw [← RT.out]; exact hq)⟩, FS.out, CS.out⟩
        refine AllReadyH.cons (i := 6) (o := _) rfl (fun K hK => ?_) ?_
        rotate_left
        ·
         exact AllReadyH.nil
        go_simp
        refine I5.out.mono ?_
        rintro e w6 ⟨⟨u, m, rfl, hm, hqm⟩, h6, g6⟩
        obtain ⟨ma, mc, rfl, _⟩ := id hm
        have LW := hide (LAW.out m hqm)
        clear LAW hqm
        obtain ⟨m0, m1, m2, m3⟩ := m
        dsimp only [Nd.kind, Nd.word, Nd.at, Nd.kids] at *
        have hv5 : w5.drew.heap.size = w5.heap.size := rfl
        have GF := al w6 (.cells #[.int .i64 a0, .string a1, .int .i64 a2, .slice aa a3.len ac, .int .i64 m0, .string m1, .int .i64 m2, .slice ma m3.len mc] 55)
        have BF := hide (blk_new w6 (.cells #[.int .i64 a0, .string a1, .int .i64 a2, .slice aa a3.len ac, .int .i64 m0, .string m1, .int .i64 m2, .slice ma m3.len mc] 55))
        have H7 := hide (h6.chg GF (fun _ _ h => h))
        rw [show (St.bind (.ok (k1 + 1) : St) inner).st = (St.bind (.ok k : St) f).st from LW.out.1.trans (congrArg Rz.st RT.out.symm)] at H7
        have B7 := hide (GF.blk (g6.blkS (by have := L5.out; omega) B5.out))
        have D7 := hide (GF.blk (g6.blkS (by have := L5.out; omega) D5.out))
        have G7 := hide ((G5.out.trans g6).trans GF.none)
        have hz6 := g6.size
        have NA := ((N5.out.chg g6 (fun x hx e => by have := hx.1; have := L5.out; omega)).chg GF (fun _ _ h => h)).up (Y := fun x => w.heap.size ≤ x ∧ x < w6.heap.size + 1 ∧ x ≠ A ∧ x ≠ D) (fun x hx => ⟨hx.1, by have := L5.out; omega, hx.2.2.1, hx.2.2.2⟩)
        have NB := (hm.chg GF (fun _ _ h => h)).up (Y := fun x => w.heap.size ≤ x ∧ x < w6.heap.size + 1 ∧ x ≠ A ∧ x ≠ D) (fun x hx => ⟨by have := L5.out; omega, by omega, by have := L5.out; omega, by have := L5.out; omega⟩)
        obtain ⟨_, _, eb, NB⟩ := NB
        have N7 := hide (nv_two (X := fun x => w.heap.size ≤ x ∧ x < w6.heap.size + 1 ∧ x ≠ A ∧ x ≠ D) (g := w6.heap.size) (n := (a0, a1, a2, a3)) (m := (m0, m1, m2, m3)) 2 a2 ⟨by have := L5.out; omega, by omega, by have := L5.out; omega, by have := L5.out; omega⟩ BF.out NA (by cases eb; exact NB))
        have z0 := g6.cell (by have := L5.out; omega) y0
        have z1 := g6.cell (by have := L5.out; omega) y1
        have z2 := g6.cell (by have := L5.out; omega) y2
        have z3 := g6.cell (by have := L5.out; omega) y3
        have t0 := GF.cell (fun h => h) z0
        have t1 := GF.cell (fun h => h) z1
        have t2 := GF.cell (fun h => h) z2
        have t3 := GF.cell (fun h => h) z3
        have SZ7 : Hid (w6.heap.size + 1 = (w6.alloc (.cells #[.int .i64 a0, .string a1, .int .i64 a2, .slice aa a3.len ac, .int .i64 m0, .string m1, .int .i64 m2, .slice ma m3.len mc] 55)).heap.size) := hide (by rw [al_sz])
        clear h6 g6 GF hm NA NB eb hv5 hz6
        go_simp
        refine hK.out _ _ trivial (fun hHeld => ?_)
        clear hK K
        try simp only [Act.put, puts]
        refine wpAnyH_ready (rs := [1, 2]) (by kernel_rfl) (by simp) ?_
        refine AllReadyH.cons (i := 1) (o := _) rfl (fun K hK => ?_) ?_
        ·
         go_simp
         refine hK.out _ _ trivial (fun hHeld => ?_)
         clear hK K
         try simp only [Act.put, puts]
         refine rd1 2 (fun K hK => ?_)
         go_simp
         refine hK.out _ _ trivial (fun hHeld => ?_)
         clear hK K
         try simp only [Act.put, puts]
         refine rd1 7 (fun K hK => ?_)
         go_simp
         refine hK.out _ _ trivial (fun hHeld => ?_)
         clear hK K
         try simp only [Act.put, puts]
         first
          | (refine tku 8 ?_)
          | (refine tkl 8 ?_ ?_ ?_
             rotate_left
             (intro w hSw
              (try dsimp only at hSw)
              (go_simp <;> with_reducible rfl)))
         try simp only [Act.put, puts]
         refine rd1 9 (fun K hK => ?_)
         obtain ⟨F, hF⟩ : ∃ F, w6.heap.size = F := ⟨_, rfl⟩
         rw [hF] at N7 SZ7 ⊢
         clear hF
         generalize w6.alloc (.cells #[.int .i64 a0, .string a1, .int .i64 a2, .slice aa a3.len ac, .int .i64 m0, .string m1, .int .i64 m2, .slice ma m3.len mc] 55) = w7 at *
         have b0 := blk_cell D7.out 0
         have b1 := blk_cell D7.out 1
         have b2 := blk_cell D7.out 2
         have b3 := blk_cell D7.out 3
         have f0 := blk_free D7.out 0
         have f1 := blk_free D7.out 1
         have f2 := blk_free D7.out 2
         have f3 := blk_free D7.out 3
         have NS := hide (nv_set D7.out (.int .i64 2) (.string ⟨#[]⟩) (.int .i64 a2) (.slice (some ⟨F, 0, none⟩) 2 2))
         have FS := hide (H7.out.chg NS.out.2 (fun x hx e => by have h1 := L5.out; omega))
         have CS := hide (rchg_fresh G7.out NS.out.2 (by have h1 := L5.out; omega))
         have B8 := hide (NS.out.2.blkS (by have := L5.out; omega) B7.out)
         have N8 := hide (N7.out.chg NS.out.2 (fun x hx e => hx.2.2.2 e))
         have D8 := hide NS.out.1
         have H8 := FS
         have G8 := CS
         have Z8 : Hid (F + 1 ≤ ((((w7.setCell ⟨D, 0, none⟩ (.int .i64 2)).setCell ⟨D, 1, none⟩ (.string ⟨#[]⟩)).setCell ⟨D, 2, none⟩ (.int .i64 a2)).setCell ⟨D, 3, none⟩ (.slice (some ⟨F, 0, none⟩) 2 2)).heap.size) := hide (by have h1 := NS.out.2.size; have h2 := SZ7.out; omega)
         have w0 := blk_cell NS.out.1 0
         have w1 := blk_cell NS.out.1 1
         have w2 := blk_cell NS.out.1 2
         have w3' := blk_cell NS.out.1 3
         simp only [gets] at w0 w1 w2 w3'
         clear FS CS H7 B7 D7 G7 NS N7
         go_simp
         refine hK.out _ _ trivial (fun hHeld => ?_)
         clear hK K
         try simp only [Act.put, puts]
         refine wpAnyH_done (by kernel_rfl) ?_ _
         clear b0 b1 b2 b3 f0 f1 f2 f3 t0 t1 t2 t3 z0 z1 z2 z3 y0 y1 y2 y3
         generalize ((((w7.setCell ⟨D, 0, none⟩ (.int .i64 2)).setCell ⟨D, 1, none⟩ (.string ⟨#[]⟩)).setCell ⟨D, 2, none⟩ (.int .i64 a2)).setCell ⟨D, 3, none⟩ (.slice (some ⟨F, 0, none⟩) 2 2)) = w8 at *
         have b0 := blk_cell B8.out 0
         have b1 := blk_cell B8.out 1
         have b2 := blk_cell B8.out 2
         have b3 := blk_cell B8.out 3
         have f0 := blk_free B8.out 0
         have f1 := blk_free B8.out 1
         have f2 := blk_free B8.out 2
         have f3 := blk_free B8.out 3
         have NS := hide (nv_set B8.out (.int .i64 2) (.string ⟨#[]⟩) (.int .i64 a2) (.slice (some ⟨F, 0, none⟩) 2 2))
         have FS := hide (H8.out.chg NS.out.2 (fun x hx e => by have h1 := L5.out; omega))
         have CS := hide (rchg_fresh G8.out NS.out.2 (by have h1 := L5.out; omega))
         go_wp2_with fail
         generalize ((((w8.setCell ⟨A, 0, none⟩ (.int .i64 2)).setCell ⟨A, 1, none⟩ (.string ⟨#[]⟩)).setCell ⟨A, 2, none⟩ (.int .i64 a2)).setCell ⟨A, 3, none⟩ (.slice (some ⟨F, 0, none⟩) 2 2)) = wF at *
         have r0 := blk_cell NS.out.1 0
         have r1 := blk_cell NS.out.1 1
         have r2 := blk_cell NS.out.1 2
         have r3 := blk_cell NS.out.1 3
         refine bodyPost_ret (v := .agg #[.int .i64 2, .string ⟨#[]⟩, .int .i64 a2, .slice (some ⟨F, 0, none⟩) 2 2]) (by simp [results, Try.results42, go_sem, r0, r1, r2, r3]) rfl ?_
         have N9 := N8.out.chg NS.out.2 (fun x hx e => hx.2.2.1 e)
         exact ⟨⟨_, _, rfl, N9.up (fun x hx => ⟨hx.1, by have h1 := NS.out.2.size; have h2 := Z8.out; omega⟩), fun q hq => LW.out.2 q (by rw [← RT.out]; exact hq)⟩, FS.out, CS.out⟩
        refine AllReadyH.cons (i := 2) (o := _) rfl (fun K hK => ?_) ?_
        rotate_left
        ·
         exact AllReadyH.nil
        go_simp
        refine hK.out _ _ trivial (fun hHeld => ?_)
        clear hK K
        try simp only [Act.put, puts]
        refine wpAnyH_ready (rs := [1, 7]) (by kernel_rfl) (by simp) ?_
        refine AllReadyH.cons (i := 1) (o := _) rfl (fun K hK => ?_) ?_
        ·
         go_simp
         refine hK.out _ _ trivial (fun hHeld => ?_)
         clear hK K
         try simp only [Act.put, puts]
         refine rd1 7 (fun K hK => ?_)
         go_simp
         refine hK.out _ _ trivial (fun hHeld => ?_)
         clear hK K
         try simp only [Act.put, puts]
         first
          | (refine tku 8 ?_)
          | (refine tkl 8 ?_ ?_ ?_
             rotate_left
             (intro w hSw
              (try dsimp only at hSw)
              (go_simp <;> with_reducible rfl)))
         try simp only [Act.put, puts]
         refine rd1 9 (fun K hK => ?_)
         obtain ⟨F, hF⟩ : ∃ F, w6.heap.size = F := ⟨_, rfl⟩
         rw [hF] at N7 SZ7 ⊢
         clear hF
         generalize w6.alloc (.cells #[.int .i64 a0, .string a1, .int .i64 a2, .slice aa a3.len ac, .int .i64 m0, .string m1, .int .i64 m2, .slice ma m3.len mc] 55) = w7 at *
         have b0 := blk_cell D7.out 0
         have b1 := blk_cell D7.out 1
         have b2 := blk_cell D7.out 2
         have b3 := blk_cell D7.out 3
         have f0 := blk_free D7.out 0
         have f1 := blk_free D7.out 1
         have f2 := blk_free D7.out 2
         have f3 := blk_free D7.out 3
         have NS := hide (nv_set D7.out (.int .i64 2) (.string ⟨#[]⟩) (.int .i64 a2) (.slice (some ⟨F, 0, none⟩) 2 2))
         have FS := hide (H7.out.chg NS.out.2 (fun x hx e => by have h1 := L5.out; omega))
         have CS := hide (rchg_fresh G7.out NS.out.2 (by have h1 := L5.out; omega))
         have B8 := hide (NS.out.2.blkS (by have := L5.out; omega) B7.out)
         have N8 := hide (N7.out.chg NS.out.2 (fun x hx e => hx.2.2.2 e))
         have D8 := hide NS.out.1
         have H8 := FS
         have G8 := CS
         have Z8 : Hid (F + 1 ≤ ((((w7.setCell ⟨D, 0, none⟩ (.int .i64 2)).setCell ⟨D, 1, none⟩ (.string ⟨#[]⟩)).setCell ⟨D, 2, none⟩ (.int .i64 a2)).setCell ⟨D, 3, none⟩ (.slice (some ⟨F, 0, none⟩) 2 2)).heap.size) := hide (by have h1 := NS.out.2.size; have h2 := SZ7.out; omega)
         have w0 := blk_cell NS.out.1 0
         have w1 := blk_cell NS.out.1 1
         have w2 := blk_cell NS.out.1 2
         have w3' := blk_cell NS.out.1 3
         simp only [gets] at w0 w1 w2 w3'
         clear FS CS H7 B7 D7 G7 NS N7
         go_simp
         refine hK.out _ _ trivial (fun hHeld => ?_)
         clear hK K
         try simp only [Act.put, puts]
         refine wpAnyH_done (by kernel_rfl) ?_ _
         clear b0 b1 b2 b3 f0 f1 f2 f3 t0 t1 t2 t3 z0 z1 z2 z3 y0 y1 y2 y3
         generalize ((((w7.setCell ⟨D, 0, none⟩ (.int .i64 2)).setCell ⟨D, 1, none⟩ (.string ⟨#[]⟩)).setCell ⟨D, 2, none⟩ (.int .i64 a2)).setCell ⟨D, 3, none⟩ (.slice (some ⟨F, 0, none⟩) 2 2)) = w8 at *
         have b0 := blk_cell B8.out 0
         have b1 := blk_cell B8.out 1
         have b2 := blk_cell B8.out 2
         have b3 := blk_cell B8.out 3
         have f0 := blk_free B8.out 0
         have f1 := blk_free B8.out 1
         have f2 := blk_free B8.out 2
         have f3 := blk_free B8.out 3
         have NS := hide (nv_set B8.out (.int .i64 2) (.string ⟨#[]⟩) (.int .i64 a2) (.slice (some ⟨F, 0, none⟩) 2 2))
         have FS := hide (H8.out.chg NS.out.2 (fun x hx e => by have h1 := L5.out; omega))
         have CS := hide (rchg_fresh G8.out NS.out.2 (by have h1 := L5.out; omega))
         go_wp2_with fail
         generalize ((((w8.setCell ⟨A, 0, none⟩ (.int .i64 2)).setCell ⟨A, 1, none⟩ (.string ⟨#[]⟩)).setCell ⟨A, 2, none⟩ (.int .i64 a2)).setCell ⟨A, 3, none⟩ (.slice (some ⟨F, 0, none⟩) 2 2)) = wF at *
         have r0 := blk_cell NS.out.1 0
         have r1 := blk_cell NS.out.1 1
         have r2 := blk_cell NS.out.1 2
         have r3 := blk_cell NS.out.1 3
         refine bodyPost_ret (v := .agg #[.int .i64 2, .string ⟨#[]⟩, .int .i64 a2, .slice (some ⟨F, 0, none⟩) 2 2]) (by simp [results, Try.results42, go_sem, r0, r1, r2, r3]) rfl ?_
         have N9 := N8.out.chg NS.out.2 (fun x hx e => hx.2.2.1 e)
         exact ⟨⟨_, _, rfl, N9.up (fun x hx => ⟨hx.1, by have h1 := NS.out.2.size; have h2 := Z8.out; omega⟩), fun q hq => LW.out.2 q (by rw [← RT.out]; exact hq)⟩, FS.out, CS.out⟩
        refine AllReadyH.cons (i := 7) (o := _) rfl (fun K hK => ?_) ?_
        rotate_left
        ·
         exact AllReadyH.nil
        go_simp
        refine hK.out _ _ trivial (fun hHeld => ?_)
        clear hK K
        try simp only [Act.put, puts]
        refine rd1 1 (fun K hK => ?_)
        go_simp
        refine hK.out _ _ trivial (fun hHeld => ?_)
        clear hK K
        try simp only [Act.put, puts]
        first
         | (refine tku 8 ?_)
         | (refine tkl 8 ?_ ?_ ?_
            rotate_left
            (intro w hSw
             (try dsimp only at hSw)
             (go_simp <;> with_reducible rfl)))
        try simp only [Act.put, puts]
        refine rd1 9 (fun K hK => ?_)
        obtain ⟨F, hF⟩ : ∃ F, w6.heap.size = F := ⟨_, rfl⟩
        rw [hF] at N7 SZ7 ⊢
        clear hF
        generalize w6.alloc (.cells #[.int .i64 a0, .string a1, .int .i64 a2, .slice aa a3.len ac, .int .i64 m0, .string m1, .int .i64 m2, .slice ma m3.len mc] 55) = w7 at *
        have b0 := blk_cell D7.out 0
        have b1 := blk_cell D7.out 1
        have b2 := blk_cell D7.out 2
        have b3 := blk_cell D7.out 3
        have f0 := blk_free D7.out 0
        have f1 := blk_free D7.out 1
        have f2 := blk_free D7.out 2
        have f3 := blk_free D7.out 3
        have NS := hide (nv_set D7.out (.int .i64 2) (.string ⟨#[]⟩) (.int .i64 a2) (.slice (some ⟨F, 0, none⟩) 2 2))
        have FS := hide (H7.out.chg NS.out.2 (fun x hx e => by have h1 := L5.out; omega))
        have CS := hide (rchg_fresh G7.out NS.out.2 (by have h1 := L5.out; omega))
        have B8 := hide (NS.out.2.blkS (by have := L5.out; omega) B7.out)
        have N8 := hide (N7.out.chg NS.out.2 (fun x hx e => hx.2.2.2 e))
        have D8 := hide NS.out.1
        have H8 := FS
        have G8 := CS
        have Z8 : Hid (F + 1 ≤ ((((w7.setCell ⟨D, 0, none⟩ (.int .i64 2)).setCell ⟨D, 1, none⟩ (.string ⟨#[]⟩)).setCell ⟨D, 2, none⟩ (.int .i64 a2)).setCell ⟨D, 3, none⟩ (.slice (some ⟨F, 0, none⟩) 2 2)).heap.size) := hide (by have h1 := NS.out.2.size; have h2 := SZ7.out; omega)
        have w0 := blk_cell NS.out.1 0
        have w1 := blk_cell NS.out.1 1
        have w2 := blk_cell NS.out.1 2
        have w3' := blk_cell NS.out.1 3
        simp only [gets] at w0 w1 w2 w3'
        clear FS CS H7 B7 D7 G7 NS N7
        go_simp
        refine hK.out _ _ trivial (fun hHeld => ?_)
        clear hK K
        try simp only [Act.put, puts]
        refine wpAnyH_done (by kernel_rfl) ?_ _
        clear b0 b1 b2 b3 f0 f1 f2 f3 t0 t1 t2 t3 z0 z1 z2 z3 y0 y1 y2 y3
        generalize ((((w7.setCell ⟨D, 0, none⟩ (.int .i64 2)).setCell ⟨D, 1, none⟩ (.string ⟨#[]⟩)).setCell ⟨D, 2, none⟩ (.int .i64 a2)).setCell ⟨D, 3, none⟩ (.slice (some ⟨F, 0, none⟩) 2 2)) = w8 at *
        have b0 := blk_cell B8.out 0
        have b1 := blk_cell B8.out 1
        have b2 := blk_cell B8.out 2
        have b3 := blk_cell B8.out 3
        have f0 := blk_free B8.out 0
        have f1 := blk_free B8.out 1
        have f2 := blk_free B8.out 2
        have f3 := blk_free B8.out 3
        have NS := hide (nv_set B8.out (.int .i64 2) (.string ⟨#[]⟩) (.int .i64 a2) (.slice (some ⟨F, 0, none⟩) 2 2))
        have FS := hide (H8.out.chg NS.out.2 (fun x hx e => by have h1 := L5.out; omega))
        have CS := hide (rchg_fresh G8.out NS.out.2 (by have h1 := L5.out; omega))
        go_wp2_with fail
        generalize ((((w8.setCell ⟨A, 0, none⟩ (.int .i64 2)).setCell ⟨A, 1, none⟩ (.string ⟨#[]⟩)).setCell ⟨A, 2, none⟩ (.int .i64 a2)).setCell ⟨A, 3, none⟩ (.slice (some ⟨F, 0, none⟩) 2 2)) = wF at *
        have r0 := blk_cell NS.out.1 0
        have r1 := blk_cell NS.out.1 1
        have r2 := blk_cell NS.out.1 2
        have r3 := blk_cell NS.out.1 3
        refine bodyPost_ret (v := .agg #[.int .i64 2, .string ⟨#[]⟩, .int .i64 a2, .slice (some ⟨F, 0, none⟩) 2 2]) (by simp [results, Try.results42, go_sem, r0, r1, r2, r3]) rfl ?_
        have N9 := N8.out.chg NS.out.2 (fun x hx e => hx.2.2.1 e)
        exact ⟨⟨_, _, rfl, N9.up (fun x hx => ⟨hx.1, by have h1 := NS.out.2.size; have h2 := Z8.out; omega⟩), fun q hq => LW.out.2 q (by rw [← RT.out]; exact hq)⟩, FS.out, CS.out⟩

theorem rtyp_any {tb : Nat} {v : Value} {ts : List Tok} {s : ByteArray} : ∀ (n o : Nat), o + n = 60 → ∀ (st : St) (w : World), RS w tb v ts s st →
  Calls Try.prog 42 #[.pointer (some ⟨tb, 0, none⟩), .int .i64 (o : Int)] w (ROut w tb v ts s (st.bind (typS ts s n)))
 | 0, o, ho, st, w, h => rtyp_step (by omega) (typS ts s 0) (typS ts s 0) (fun _ k => rfl) (fun hlt => absurd hlt (by omega)) (fun hlt => absurd hlt (by omega)) h
 | n + 1, o, ho, st, w, h => rtyp_step (by omega) (typS ts s (n + 1)) (typS ts s n) (fun e => absurd e (by omega)) (fun _ k => rfl) (fun _ st w h => rtyp_any n (o + 1) (by omega) st w h) h
end Go.Proofs.Ytboeeaekhijboaa
