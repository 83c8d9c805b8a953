/- The document's parser: part. The document's parser: term. -/
import Derived.Test.YtboeeaekhijboaaShort
import Derived.Test.YtboeeaekhijboaaPrtyp
import Derived.Deep.LoopGhost
namespace Go.Proofs.Ytboeeaekhijboaa
open Go.RowKit
set_option linter.unusedVariables false
set_option linter.unusedSimpArgs false

set_option maxRecDepth 100000 in
set_option maxHeartbeats 8000000 in
theorem rpart_any {tb : Nat} {v : Value} {ts : List Tok} {s : ByteArray} {o : Nat} (ho : o < 60) (inner : Nat → Rz Nd)
  (hin : ∀ (st : St) (w : World), RS w tb v ts s st → Calls Try.prog 41 #[.pointer (some ⟨tb, 0, none⟩), .int .i64 ((o + 1 : Nat) : Int)] w (ROut w tb v ts s (st.bind inner)))
  {k : Nat} {w : World} (h : RS w tb v ts s (.ok k)) :
  Calls Try.prog 81 #[.pointer (some ⟨tb, 0, none⟩), .int .i64 (o : Int)] w (ROut w tb v ts s (atomS ts s inner k)) := by
 have G0 := hide (al w (.cells #[.int .i64 0, .string ⟨#[]⟩, .int .i64 0, .slice none 0 0] 55))
 have B0 := hide (blk_new w (.cells #[.int .i64 0, .string ⟨#[]⟩, .int .i64 0, .slice none 0 0] 55))
 have H0 := hide (h.chg G0.out (fun _ _ h => h))
 have hl := h.lt
 have eo1 : ((o + 1 : Nat) : Int) = (o : Int) + 1 := by omega
 rw [eo1] at hin
 have IN := hide (fun w (h : RS w tb v ts s (.ok (k + 1))) => hin (.ok (k + 1)) w h)
 have IN : Hid (∀ w, RS w tb v ts s (.ok (k + 1)) → Calls Try.prog 41 #[.pointer (some ⟨tb, 0, none⟩), .int .i64 ((o : Int) + 1)] w (ROut w tb v ts s (inner (k + 1)))) := IN
 obtain ⟨A, hA⟩ : ∃ A, w.heap.size = A := ⟨_, rfl⟩
 have HL : Hid (tb < A ∧ w.heap.size = A) := hide ⟨by omega, hA⟩
 rw [hA] at B0
 have IS := hide (is_any bLp sg_lp H0.out)
 have nb : nextB ts s (.ok k) bLp = eatB ts s bLp k := rfl
 rw [nb] at IS
 clear h hl hA hin eo1 nb
 cases hb : eatB ts s bLp k
 ·
  have LAW := hide (atom_law2 ts s inner k hb)
  have LT : Hid ((tokOf (tokS ts s 1 k)).2.2 = (tokAt ts s k 0).2.2 ∨ ∃ x, tokS ts s 1 k = .error x) := hide (by
   unfold tokS
   by_cases e : (tokAt ts s k 0).1 = 1
   ·
    rw [if_pos e]; exact Or.inl rfl
   ·
    rw [if_neg e]; exact Or.inr ⟨_, rfl⟩)
  rw [hb] at IS
  clear hb IN
  go_enter Try.func81, Try.ntmps81
  go_wp2_with fail
  rw [HL.out.2]
  generalize w.alloc (.cells #[.int .i64 0, .string ⟨#[]⟩, .int .i64 0, .slice none 0 0] 55) = w1 at *
  refine IS.out.mono ?_
  rintro e w2 ⟨rfl, g2⟩
  have H2 := hide (H0.out.chg g2 (fun _ _ h => h))
  have B2 := hide (g2.blk B0.out)
  have G2 := hide (G0.out.trans g2)
  clear g2 IS
  have AT := hide (rat_any H2.out)
  have AT : Hid (Calls Try.prog 67 #[.pointer (some ⟨tb, 0, none⟩)] w2 fun e w' => e = .returned (.int .i64 ((tokAt ts s k 0).2.2 : Int)) ∧ Chg (fun _ => False) w2 w') := AT
  go_wp2_with fail
  refine AT.out.mono ?_
  rintro e w3 ⟨rfl, g3⟩
  have H3 := hide (H2.out.chg g3 (fun _ _ h => h))
  have B3 := hide (g3.blk B2.out)
  have G3 := hide (G2.out.trans g3)
  clear g3 AT
  have AA := hide (a_any 1 (by decide) H3.out)
  have AA : Hid (Calls Try.prog 71 #[.pointer (some ⟨tb, 0, none⟩), .int .i64 1] w3 fun e w' => e = .returned (.string (tokOf (tokS ts s 1 k)).2.1) ∧ RS w' tb v ts s (tokS ts s 1 k).st ∧ Chg (fun x => x = tb) w3 w') := AA
  go_wp2_with fail
  refine AA.out.mono ?_
  rintro e w4 ⟨rfl, h4, g4⟩
  have H4 := hide h4
  have B4 := hide (g4.blkS (by have := HL.out; omega) B3.out)
  have G4 := hide (G3.out.none.trans g4)
  clear h4 g4 AA
  obtain ⟨a1, ha1⟩ : ∃ a1, (tokOf (tokS ts s 1 k)).2.1 = a1 := ⟨_, rfl⟩
  obtain ⟨a2, ha2⟩ : ∃ a2 : Int, ((tokAt ts s k 0).2.2 : Int) = a2 := ⟨_, rfl⟩
  have LW : Hid ((tokS ts s 1 k).st = (atomS ts s inner k).st ∧ ∀ q, atomS ts s inner k = .ok q → ((1, a1, a2, Ns.nil) : Nd) = q.1) := hide ⟨LAW.out.1, fun q hq => by
   have h := LAW.out.2 q hq
   rcases LT.out with e | ⟨x, e⟩
   ·
    rw [ha1, e, ha2] at h; exact h
   ·
    have h1 := LAW.out.1
    rw [e, hq] at h1
    cases h1⟩
  rw [LW.out.1] at H4
  rw [ha1, ha2]
  clear ha1 ha2 LAW LT
  have b0 := blk_cell B4.out 0
  have b1 := blk_cell B4.out 1
  have b2 := blk_cell B4.out 2
  have b3 := blk_cell B4.out 3
  have f0 := blk_free B4.out 0
  have f1 := blk_free B4.out 1
  have f2 := blk_free B4.out 2
  have f3 := blk_free B4.out 3
  have NS := hide (nv_set B4.out (.int .i64 1) (.string a1) (.int .i64 a2) (.slice none 0 0))
  have FS := hide (H4.out.chg NS.out.2 (fun x hx e => by have h1 := HL.out; omega))
  have CS := hide (rchg_fresh G4.out NS.out.2 (by have h1 := HL.out; omega))
  go_wp2_with fail
  generalize ((((w4.setCell ⟨A, 0, none⟩ (.int .i64 1)).setCell ⟨A, 1, none⟩ (.string a1)).setCell ⟨A, 2, none⟩ (.int .i64 a2)).setCell ⟨A, 3, none⟩ (.slice none 0 0)) = wF at *
  have r0 := blk_cell NS.out.1 0
  have r1 := blk_cell NS.out.1 1
  have r2 := blk_cell NS.out.1 2
  have r3 := blk_cell NS.out.1 3
  refine bodyPost_ret (v := .agg #[.int .i64 1, .string a1, .int .i64 a2, .slice none 0 0]) (by simp [results, Try.results81, go_sem, r0, r1, r2, r3]) rfl ?_
  exact ⟨⟨_, _, rfl, NV.leaf _ _ 1 a1 a2, LW.out.2⟩, FS.out, CS.out⟩
 ·
  have LAW := hide (fun n hn => atom_law ts s inner k hb n hn)
  have hk1 := eatB_lt hb
  have HK := hide hk1
  rw [hb] at IS
  clear hb hk1
  go_enter Try.func81, Try.ntmps81
  go_wp2_with fail
  rw [HL.out.2]
  generalize w.alloc (.cells #[.int .i64 0, .string ⟨#[]⟩, .int .i64 0, .slice none 0 0] 55) = w1 at *
  refine IS.out.mono ?_
  rintro e w2 ⟨rfl, g2⟩
  have H2 := hide (H0.out.chg g2 (fun _ _ h => h))
  have B2 := hide (g2.blk B0.out)
  have G2 : Hid (Chg (fun x => x = tb) w w2) := hide (G0.out.trans g2).none
  have SZ2 : Hid (A < w2.heap.size) := hide (olt B2.out)
  clear g2 IS
  have hk2 := H2.out.env.len
  have hk1 := HK.out
  have H3 := hide (RS.moved (k := k) H2.out ((k : Int) + 1) (by omega) HK.out)
  have GS := Chg.set w2 tb 2 (.int .i64 ((k : Int) + 1))
  have B3 := hide (GS.blkS (by have := HL.out; omega) B2.out)
  have G3 := hide (G2.out.trans GS)
  have SZ3 : Hid (A < (w2.setCell ⟨tb, 2, none⟩ (.int .i64 ((k : Int) + 1))).heap.size) := hide (olt B3.out)
  have f2 := blk_free H2.out.blk 2
  have c2 : w2.cell? ⟨tb, 2, none⟩ = some (.int .i64 (k : Int)) := H2.out.cells.2.2.1
  clear GS
  have I3 := hide (IN.out _ H3.out)
  clear IN
  go_wp2_with fail
  generalize w2.setCell ⟨tb, 2, none⟩ (.int .i64 ((k : Int) + 1)) = w3 at *
  refine I3.out.mono ?_
  rintro e w4 ⟨⟨u, a, rfl, ha, hq⟩, h4, g4⟩
  obtain ⟨aa, ac, rfl, _⟩ := id ha
  have LW := hide (LAW.out a hq)
  obtain ⟨a0, a1, a2, a3⟩ := a
  dsimp only [Nd.kind, Nd.word, Nd.at, Nd.kids] at *
  have GT := al w4 (.cells #[.int .i64 a0, .string a1, .int .i64 a2, .slice aa a3.len ac] 55)
  have T4 := hide (blk_new w4 (.cells #[.int .i64 a0, .string a1, .int .i64 a2, .slice aa a3.len ac] 55))
  have H4 := hide (h4.chg GT (fun _ _ h => h))
  have B4 := hide (GT.blk (g4.blkS (by have := HL.out; omega) B3.out))
  have G4 := hide ((G3.out.trans g4).trans GT.none)
  have SZ4 : Hid (A < w4.heap.size ∧ w3.heap.size ≤ w4.heap.size ∧ w4.heap.size + 1 = (w4.alloc (.cells #[.int .i64 a0, .string a1, .int .i64 a2, .slice aa a3.len ac] 55)).heap.size) := hide (by have := g4.size; have := SZ3.out; have := al_sz w4 (.cells #[.int .i64 a0, .string a1, .int .i64 a2, .slice aa a3.len ac] 55); omega)
  have N4 := (ha.chg GT (fun _ _ h => h)).up (Y := fun x => A < x ∧ x < w4.heap.size) (fun x hx => ⟨by have := SZ3.out; omega, hx.2⟩)
  obtain ⟨_, _, ev, NT⟩ := N4
  have N4 : Hid (Ts (w4.alloc (.cells #[.int .i64 a0, .string a1, .int .i64 a2, .slice aa a3.len ac] 55)) (fun x => A < x ∧ x < w4.heap.size) (.slice aa a3.len ac) a3) := hide (by cases ev; exact NT)
  clear ev NT h4 g4 I3 LAW hq ha c2 f2 GT
  obtain ⟨D, hD⟩ : ∃ D, w4.heap.size = D := ⟨_, rfl⟩
  rw [hD] at T4 SZ4 N4
  go_wp2_with fail
  clear hD
  generalize w4.alloc (.cells #[.int .i64 a0, .string a1, .int .i64 a2, .slice aa a3.len ac] 55) = w5 at *
  have SG := hide (sign_any' bRp sg_rp H4.out)
  rw [LW.out.1] at SG
  refine SG.out.mono ?_
  rintro e w6 ⟨rfl, h6, g6⟩
  have H6 := hide h6
  have B6 := hide (g6.blkS (by have := HL.out; omega) B4.out)
  have T6 := hide (g6.blkS (by have := HL.out; have := SZ4.out; omega) T4.out)
  have G6 := hide (G4.out.trans g6)
  have N6 := hide (N4.out.chg g6 (fun x hx e => by have := hx.1; have := HL.out; omega))
  have SZ6 : Hid (D ≤ w6.heap.size) := hide (by have := g6.size; have := SZ4.out; omega)
  clear h6 g6 SG
  have q0 := blk_cell T6.out 0
  have q1 := blk_cell T6.out 1
  have q2 := blk_cell T6.out 2
  have q3 := blk_cell T6.out 3
  simp only [gets] at q0 q1 q2 q3
  have b0 := blk_cell B6.out 0
  have b1 := blk_cell B6.out 1
  have b2 := blk_cell B6.out 2
  have b3 := blk_cell B6.out 3
  have f0 := blk_free B6.out 0
  have f1 := blk_free B6.out 1
  have f2 := blk_free B6.out 2
  have f3 := blk_free B6.out 3
  have NS := hide (nv_set B6.out (.int .i64 a0) (.string a1) (.int .i64 a2) (.slice aa a3.len ac))
  have FS := hide (H6.out.chg NS.out.2 (fun x hx e => by have h1 := HL.out; omega))
  have CS := hide (rchg_fresh G6.out NS.out.2 (by have h1 := HL.out; omega))
  go_wp2_with fail
  generalize ((((w6.setCell ⟨A, 0, none⟩ (.int .i64 a0)).setCell ⟨A, 1, none⟩ (.string a1)).setCell ⟨A, 2, none⟩ (.int .i64 a2)).setCell ⟨A, 3, none⟩ (.slice aa a3.len ac)) = wF at *
  have r0 := blk_cell NS.out.1 0
  have r1 := blk_cell NS.out.1 1
  have r2 := blk_cell NS.out.1 2
  have r3 := blk_cell NS.out.1 3
  refine bodyPost_ret (v := .agg #[.int .i64 a0, .string a1, .int .i64 a2, .slice aa a3.len ac]) (by simp [results, Try.results81, go_sem, r0, r1, r2, r3]) rfl ?_
  have N7 := N6.out.chg NS.out.2 (fun x hx e => by have := hx.1; omega)
  exact ⟨⟨_, (a0, a1, a2, a3), rfl, ⟨aa, ac, rfl, N7.up (fun x hx => ⟨by have := HL.out; omega, by have h1 := NS.out.2.size; have h2 := SZ6.out; omega⟩)⟩, LW.out.2⟩, FS.out, CS.out⟩
end Go.Proofs.Ytboeeaekhijboaa
namespace Go.Proofs.Ytboeeaekhijboaa
open Go.RowKit
set_option linter.unusedVariables false
set_option linter.unusedSimpArgs false

/-- what the loop over parts keeps -/
def RInv (w wr : World) (tb : Nat) (v : Value) (ts : List Tok) (s : ByteArray) (A D : Nat) (inner : Nat → Rz Nd) (R : Rz Nd) (g : Nat) : Prop :=
 ∃ (st : St) (a : Nd) (aa : Option Addr) (ac : Nat), Hid (RS wr tb v ts s st) ∧ Hid (wr.heap[A]? = some (.cells #[.int .i64 0, .string ⟨#[]⟩, .int .i64 0, .slice none 0 0] 55)) ∧ Hid (wr.heap[D]? = some (.cells #[.int .i64 a.kind, .string a.word, .int .i64 a.at, .slice aa a.kids.len ac] 55)) ∧
  Hid (Ts wr (fun x => w.heap.size ≤ x ∧ x < wr.heap.size ∧ x ≠ A ∧ x ≠ D) (.slice aa a.kids.len ac) a.kids) ∧ Hid (Chg (fun x => x = tb) w wr) ∧
  Hid ((∃ k f, st = .ok k ∧ R = partsS ts s inner f a k ∧ ts.length + 1 - k ≤ f ∧ g = ts.length + 2 - k) ∨ (∃ x, st = .error x ∧ R = .error x ∧ g = 0))

set_option maxRecDepth 100000 in
set_option maxHeartbeats 32000000 in
theorem rterm_step {tb : Nat} {v : Value} {ts : List Tok} {s : ByteArray} {o : Nat} (ho : o ≤ 60) (f typ inner : Nat → Rz Nd) (hf0 : o = 60 → ∀ k, f k = .error (2, k)) (hf1 : o < 60 → ∀ k, f k = termB ts s typ inner k)
  (hfw : Fwd ts inner)
  (hty : o < 60 → ∀ (st : St) (w : World), RS w tb v ts s st → Calls Try.prog 42 #[.pointer (some ⟨tb, 0, none⟩), .int .i64 ((o + 1 : Nat) : Int)] w (ROut w tb v ts s (st.bind typ)))
  (hin : o < 60 → ∀ (st : St) (w : World), RS w tb v ts s st → Calls Try.prog 41 #[.pointer (some ⟨tb, 0, none⟩), .int .i64 ((o + 1 : Nat) : Int)] w (ROut w tb v ts s (st.bind inner)))
  {st : St} {w : World} (h : RS w tb v ts s st) :
  Calls Try.prog 41 #[.pointer (some ⟨tb, 0, none⟩), .int .i64 (o : Int)] w (ROut w tb v ts s (st.bind f)) := by
 have G0 := hide (al w (.cells #[.int .i64 0, .string ⟨#[]⟩, .int .i64 0, .slice none 0 0] 55))
 have B0 := hide (blk_new w (.cells #[.int .i64 0, .string ⟨#[]⟩, .int .i64 0, .slice none 0 0] 55))
 have H0 := hide (h.chg G0.out (fun _ _ h => h))
 have hl := h.lt
 have HIN := hide hin
 have HTY := hide hty
 have HF0 := hide hf0
 have HF1 := hide hf1
 have HFW := hide (atomS_fwd (s := s) hfw)
 obtain ⟨A, hA⟩ : ∃ A, w.heap.size = A := ⟨_, rfl⟩
 have HL : Hid (tb < A ∧ w.heap.size = A) := hide ⟨by omega, hA⟩
 rw [hA] at B0
 clear h hl hA hin hf0 hf1 hty hfw
 cases st with
 | error x =>
   have H0' : Hid (RS (w.alloc (.cells #[.int .i64 0, .string ⟨#[]⟩, .int .i64 0, .slice none 0 0] 55)) tb v ts s (Rz.st (St.bind (.error x : St) f))) := H0
   have RR : Hid (St.bind (.error x : St) f = .error x) := rfl
   obtain ⟨e1, e2⟩ := rerr_ne (H0.out.code x rfl)
   by_cases h60 : o = 60
   ·
    have e60 : ((o : Int) == 60) = true := by simp; omega
    clear h60
    go_enter Try.func41, Try.ntmps41
    go_wp2_with fail
    rw [HL.out.2]
    generalize w.alloc (.cells #[.int .i64 0, .string ⟨#[]⟩, .int .i64 0, .slice none 0 0] 55) = w1 at *
    refine (rfail_err 2 H0.out).mono ?_
    rintro e w' ⟨rfl, rfl⟩
    have c3 : w1.cell? ⟨tb, 3, none⟩ = some (.int .i64 x.1) := H0.out.cells.2.2.2.1
    have G1 : Hid (Chg (fun x => x = tb) w w1) := hide G0.out.none
    have b0 := blk_cell B0.out 0
    have b1 := blk_cell B0.out 1
    have b2 := blk_cell B0.out 2
    have b3 := blk_cell B0.out 3
    have f0 := blk_free B0.out 0
    have f1 := blk_free B0.out 1
    have f2 := blk_free B0.out 2
    have f3 := blk_free B0.out 3
    have NS := hide (nv_set B0.out (.int .i64 0) (.string ⟨#[]⟩) (.int .i64 0) (.slice none 0 0))
    have FS := hide (H0'.out.chg NS.out.2 (fun x hx e => by have h1 := HL.out; omega))
    have CS := hide (rchg_fresh G1.out NS.out.2 (by have h1 := HL.out; omega))
    go_wp2_with fail
    generalize ((((w1.setCell ⟨A, 0, none⟩ (.int .i64 0)).setCell ⟨A, 1, none⟩ (.string ⟨#[]⟩)).setCell ⟨A, 2, none⟩ (.int .i64 0)).setCell ⟨A, 3, none⟩ (.slice none 0 0)) = wF at *
    have r0 := blk_cell NS.out.1 0
    have r1 := blk_cell NS.out.1 1
    have r2 := blk_cell NS.out.1 2
    have r3 := blk_cell NS.out.1 3
    refine bodyPost_ret (v := .agg #[.int .i64 0, .string ⟨#[]⟩, .int .i64 0, .slice none 0 0]) (by simp [results, Try.results41, go_sem, r0, r1, r2, r3]) rfl ?_
    exact ⟨⟨_, _, rfl, NV.leaf _ _ 0 ⟨#[]⟩ 0, fun q hq => by rw [RR.out] at hq; cases hq⟩, FS.out, CS.out⟩
   ·
    have e60 : ((o : Int) == 60) = false := by simp; omega
    clear h60
    have c3 : (w.alloc (.cells #[.int .i64 0, .string ⟨#[]⟩, .int .i64 0, .slice none 0 0] 55)).cell? ⟨tb, 3, none⟩ = some (.int .i64 x.1) := H0.out.cells.2.2.2.1
    have G1 : Hid (Chg (fun x => x = tb) w (w.alloc (.cells #[.int .i64 0, .string ⟨#[]⟩, .int .i64 0, .slice none 0 0] 55))) := hide G0.out.none
    have lA := HL.out.2
    go_enter Try.func41, Try.ntmps41
    have r0 := blk_cell B0.out 0
    have r1 := blk_cell B0.out 1
    have r2 := blk_cell B0.out 2
    have r3 := blk_cell B0.out 3
    go_wp2_with fail
    refine bodyPost_ret (v := .agg #[.int .i64 0, .string ⟨#[]⟩, .int .i64 0, .slice none 0 0]) (by simp [results, Try.results41, go_sem, r0, r1, r2, r3]) rfl ?_
    exact ⟨⟨_, _, rfl, NV.leaf _ _ 0 ⟨#[]⟩ 0, fun q hq => by rw [RR.out] at hq; cases hq⟩, H0'.out, G1.out⟩
 | ok k =>
   by_cases h60 : o = 60
   ·
    have e60 : ((o : Int) == 60) = true := by simp; omega
    have RR : Hid (St.bind (.ok k : St) f = .error (2, k)) := hide (HF0.out h60 k)
    clear h60
    go_enter Try.func41, Try.ntmps41
    go_wp2_with fail
    rw [HL.out.2]
    generalize w.alloc (.cells #[.int .i64 0, .string ⟨#[]⟩, .int .i64 0, .slice none 0 0] 55) = w1 at *
    refine (rfail_ok 2 (Or.inl rfl) H0.out).mono ?_
    rintro e w2 ⟨rfl, h2, g2⟩
    have H2 := hide h2
    have H2' : Hid (RS w2 tb v ts s (Rz.st (St.bind (.ok k : St) f))) := hide (by rw [RR.out]; exact h2)
    have B2 := hide (g2.blkS (by have := HL.out; omega) B0.out)
    have G2 := hide (G0.out.none.trans g2)
    have c3 : w2.cell? ⟨tb, 3, none⟩ = some (.int .i64 2) := H2.out.cells.2.2.2.1
    clear h2 g2
    have b0 := blk_cell B2.out 0
    have b1 := blk_cell B2.out 1
    have b2 := blk_cell B2.out 2
    have b3 := blk_cell B2.out 3
    have f0 := blk_free B2.out 0
    have f1 := blk_free B2.out 1
    have f2 := blk_free B2.out 2
    have f3 := blk_free B2.out 3
    have NS := hide (nv_set B2.out (.int .i64 0) (.string ⟨#[]⟩) (.int .i64 0) (.slice none 0 0))
    have FS := hide (H2'.out.chg NS.out.2 (fun x hx e => by have h1 := HL.out; omega))
    have CS := hide (rchg_fresh G2.out NS.out.2 (by have h1 := HL.out; omega))
    go_wp2_with fail
    generalize ((((w2.setCell ⟨A, 0, none⟩ (.int .i64 0)).setCell ⟨A, 1, none⟩ (.string ⟨#[]⟩)).setCell ⟨A, 2, none⟩ (.int .i64 0)).setCell ⟨A, 3, none⟩ (.slice none 0 0)) = wF at *
    have r0 := blk_cell NS.out.1 0
    have r1 := blk_cell NS.out.1 1
    have r2 := blk_cell NS.out.1 2
    have r3 := blk_cell NS.out.1 3
    refine bodyPost_ret (v := .agg #[.int .i64 0, .string ⟨#[]⟩, .int .i64 0, .slice none 0 0]) (by simp [results, Try.results41, go_sem, r0, r1, r2, r3]) rfl ?_
    exact ⟨⟨_, _, rfl, NV.leaf _ _ 0 ⟨#[]⟩ 0, fun q hq => by rw [RR.out] at hq; cases hq⟩, FS.out, CS.out⟩
   ·
    have e60 : ((o : Int) == 60) = false := by simp; omega
    have hlt : o < 60 := by omega
    have PA := hide (fun k w h => rpart_any hlt inner (HIN.out hlt) (k := k) (w := w) h)
    have IN := hide (HIN.out hlt)
    have TY := hide (HTY.out hlt)
    have RR : Hid (St.bind (.ok k : St) f = termB ts s typ inner k) := hide (HF1.out hlt k)
    have eo1 : ((o + 1 : Nat) : Int) = (o : Int) + 1 := by omega
    rw [eo1] at IN TY
    clear h60 eo1 HIN HF0 HF1 HTY
    have c3 : (w.alloc (.cells #[.int .i64 0, .string ⟨#[]⟩, .int .i64 0, .slice none 0 0] 55)).cell? ⟨tb, 3, none⟩ = some (.int .i64 0) := H0.out.cells.2.2.2.1
    have IS := hide (is_any bLam sg_lam H0.out)
    have nb : nextB ts s (.ok k) bLam = eatB ts s bLam k := rfl
    rw [nb] at IS
    clear nb
    generalize St.bind (.ok k : St) f = R at *
    go_enter Try.func41, Try.ntmps41
    go_wp2_with fail
    rw [HL.out.2]
    generalize w.alloc (.cells #[.int .i64 0, .string ⟨#[]⟩, .int .i64 0, .slice none 0 0] 55) = w1 at *
    refine IS.out.mono ?_
    rintro e w2 ⟨rfl, g2⟩
    have H2 := hide (H0.out.chg g2 (fun _ _ h => h))
    have B2 := hide (g2.blk B0.out)
    have G2 : Hid (Chg (fun x => x = tb) w w2) := hide (G0.out.trans g2).none
    clear g2 IS c3
    cases hb : eatB ts s bLam k
    ·
     have TB : Hid (R = (atomS ts s inner k).bind fun a k1 => partsS ts s inner (ts.length + 1 - k1) a k1) := hide (RR.out.trans (by unfold termB; rw [if_neg (by rw [hb]; decide)]))
     have FW0 := hide (HFW.out k H2.out.le)
     have A3 := hide (PA.out k w2 H2.out)
     clear hb RR IN TY
     go_wp2_with fail
     refine A3.out.mono ?_
     rintro e w4 ⟨⟨u, a, rfl, ha, hq⟩, h4, g4⟩
     obtain ⟨aa, ac, rfl, _⟩ := id ha
     have GE := al w4 (.cells #[.int .i64 a.kind, .string a.word, .int .i64 a.at, .slice aa a.kids.len ac] 55)
     have D4 := hide (blk_new w4 (.cells #[.int .i64 a.kind, .string a.word, .int .i64 a.at, .slice aa a.kids.len ac] 55))
     have B4 := hide (GE.blk (g4.blkS (by have := HL.out; omega) B2.out))
     have H4 := hide (h4.chg GE (fun _ _ h => h))
     have G4 := hide ((G2.out.trans g4).trans GE.none)
     have hA3 := olt B2.out
     have hA4 := g4.size
     have DL : Hid (A < w4.heap.size ∧ tb < A ∧ w.heap.size = A) := hide ⟨by omega, HL.out⟩
     have N4 := hide ((ha.chg GE (fun _ _ h => h)).up (Y := fun x => w.heap.size ≤ x ∧ x < (w4.alloc (.cells #[.int .i64 a.kind, .string a.word, .int .i64 a.at, .slice aa a.kids.len ac] 55)).heap.size ∧ x ≠ A ∧ x ≠ w4.heap.size) (fun x hx => ⟨by have := HL.out; omega, by have := GE.size; omega, by omega, by omega⟩))
     obtain ⟨D, hD⟩ : ∃ D, w4.heap.size = D := ⟨_, rfl⟩
     rw [hD] at D4 N4 DL
     have I4 : Hid (∃ g, RInv w (w4.alloc (.cells #[.int .i64 a.kind, .string a.word, .int .i64 a.at, .slice aa a.kids.len ac] 55)) tb v ts s A D inner R g) := hide (by
      obtain ⟨aa', ac', e1, N4⟩ := N4.out
      injection e1 with e1
      have e2 := congrArg (fun l => l[3]?) e1
      simp at e2
      obtain ⟨rfl, rfl⟩ := e2
      cases e : atomS ts s inner k with
      | error x =>
        refine ⟨0, (.error x), a, aa, ac, ?_, B4, D4, N4, G4, Or.inr ⟨x, rfl, by rw [TB.out, e]; rfl, rfl⟩⟩
        have := H4.out; rw [e] at this; exact this
      | ok q =>
        have e3 := hq q e
        refine ⟨ts.length + 2 - q.2, (.ok q.2), a, aa, ac, ?_, B4, D4, N4, G4, Or.inl ⟨q.2, ts.length + 1 - q.2, rfl, by rw [TB.out, e, e3]; rfl, Nat.le_refl _, rfl⟩⟩
        have := H4.out; rw [e] at this; exact this)
     clear h4 g4 GE ha hq hA3 hA4 N4 G4 H4 B4 D4 A3 TB FW0 H2 B2 G2
     obtain ⟨g0, I0⟩ := I4.out
     have I0 := hide I0
     clear I4
     go_wp2_with fail
     clear hD
     generalize w4.alloc (.cells #[.int .i64 a.kind, .string a.word, .int .i64 a.at, .slice aa a.kids.len ac] 55) = w5 at *
     go_loopg [68] g0 (fun g d wr => Hid (RInv w wr tb v ts s A D inner R g))
     case atStart => exact I0
     case round =>
      have hI := hrel
      clear I0 hrel
      obtain ⟨st, a, aa, ac, H5, B5, D5, N5, G5, J5⟩ := hI.out
      clear hI
      obtain ⟨a0, a1, a2, a3⟩ := a
      dsimp only [Nd.kind, Nd.word, Nd.at, Nd.kids] at *
      have p0 := blk_cell D5.out 0
      have p1 := blk_cell D5.out 1
      have p2 := blk_cell D5.out 2
      have p3 := blk_cell D5.out 3
      simp only [gets] at p0 p1 p2 p3
      cases st with
      | error x =>
        have QF : Hid (R.st = .error x ∧ ∀ q, R = .ok q → ((a0, a1, a2, a3) : Nd) = q.1) := hide (by
         rcases J5.out with ⟨k, f, e0, -⟩ | ⟨y, e0, e, -⟩
         ·
          cases e0
         ·
          cases e0
          rw [e]
          exact ⟨rfl, fun q hq => by cases hq⟩)
        obtain ⟨e1, e2⟩ := rerr_ne (H5.out.code x rfl)
        have c3 : wr.cell? ⟨tb, 3, none⟩ = some (.int .i64 x.1) := H5.out.cells.2.2.2.1
        have H6 : Hid (RS wr tb v ts s R.st) := hide (by rw [QF.out.1]; exact H5.out)
        clear J5
        have b0 := blk_cell B5.out 0
        have b1 := blk_cell B5.out 1
        have b2 := blk_cell B5.out 2
        have b3 := blk_cell B5.out 3
        have f0 := blk_free B5.out 0
        have f1 := blk_free B5.out 1
        have f2 := blk_free B5.out 2
        have f3 := blk_free B5.out 3
        have NS := hide (nv_set B5.out (.int .i64 a0) (.string a1) (.int .i64 a2) (.slice aa a3.len ac))
        have FS := hide (H6.out.chg NS.out.2 (fun x hx e => by have h1 := DL.out; omega))
        have CS := hide (rchg_fresh G5.out NS.out.2 (by have h1 := DL.out; omega))
        go_wp2_with fail
        generalize ((((wr.setCell ⟨A, 0, none⟩ (.int .i64 a0)).setCell ⟨A, 1, none⟩ (.string a1)).setCell ⟨A, 2, none⟩ (.int .i64 a2)).setCell ⟨A, 3, none⟩ (.slice aa a3.len ac)) = wF at *
        have r0 := blk_cell NS.out.1 0
        have r1 := blk_cell NS.out.1 1
        have r2 := blk_cell NS.out.1 2
        have r3 := blk_cell NS.out.1 3
        refine bodyPost_ret (v := .agg #[.int .i64 a0, .string a1, .int .i64 a2, .slice aa a3.len ac]) (by simp [results, Try.results41, go_sem, r0, r1, r2, r3]) rfl ?_
        have N7 := N5.out.chg NS.out.2 (fun x hx e => hx.2.2.1 e)
        exact ⟨⟨_, (a0, a1, a2, a3), rfl, ⟨aa, ac, rfl, N7.up (fun x hx => ⟨hx.1, by have h1 := NS.out.2.size; omega⟩)⟩, QF.out.2⟩, FS.out, CS.out⟩
      | ok k1 =>
        have c3 : wr.cell? ⟨tb, 3, none⟩ = some (.int .i64 0) := H5.out.cells.2.2.2.1
        have KD := hide (kind_any H5.out)
        have KD : Hid (Calls Try.prog 68 #[.pointer (some ⟨tb, 0, none⟩)] wr fun e w' => e = .returned (.int .i64 (tokAt ts s k1 0).1) ∧ Chg (fun _ => False) wr w') := KD
        have EI := hide (eat_is (s := s) H5.out.env.wf sg_lp k1 H5.out.le)
        obtain ⟨t, ht⟩ : ∃ t, tokAt ts s k1 0 = t := ⟨_, rfl⟩
        have PB : Hid (partB ts s k1 = ((t.1 == 1) || eatB ts s bLp k1)) := hide (by rw [EI.out]; unfold partB; rw [ht])
        rw [ht] at KD
        clear ht EI
        obtain ⟨t0, t1, t2⟩ := t
        dsimp only at KD PB
        go_wp2_with fail
        refine KD.out.mono ?_
        rintro e w6 ⟨rfl, g6⟩
        have H6 := hide (H5.out.chg g6 (fun _ _ h => h))
        have B6 := hide (g6.blk B5.out)
        have D6 := hide (g6.blk D5.out)
        have G6 : Hid (Chg (fun x => x = tb) w w6) := hide (G5.out.trans g6.none)
        have N6 := hide (N5.out.chg g6 (fun _ _ h => h))
        have SZ6 := hide g6.size
        have y0 := g6.cell (fun h => h) p0
        have y1 := g6.cell (fun h => h) p1
        have y2 := g6.cell (fun h => h) p2
        have y3 := g6.cell (fun h => h) p3
        clear g6 p0 p1 p2 p3 H5 B5 D5 G5 N5 c3 KD
        have GO : Hid (partB ts s k1 = true → ∃ f, R = (atomS ts s inner k1).bind (fun m k2 => partsS ts s inner f (4, bNone, a2, twoN (a0, a1, a2, a3) m) k2) ∧ ts.length + 1 - k1 ≤ f + 1 ∧ gk = ts.length + 2 - k1) := hide (fun hp' => by
         rcases J5.out with ⟨k, f, e0, e, hf, hg⟩ | ⟨x, e0, e, -⟩
         ·
          cases e0
          have hle : k1 ≤ ts.length := H6.out.le
          obtain ⟨f', rfl⟩ : ∃ f', f = f' + 1 := ⟨f - 1, by omega⟩
          simp only [partsS] at e
          rw [if_pos hp'] at e
          exact ⟨f', e, hf, hg⟩
         ·
          cases e0)
        have NO : Hid (partB ts s k1 = false → R = .ok ((a0, a1, a2, a3), k1)) := hide (fun hp' => by
         rcases J5.out with ⟨k, f, e0, e, hf, hg⟩ | ⟨x, e0, e, -⟩
         ·
          cases e0
          have hle : k1 ≤ ts.length := H6.out.le
          obtain ⟨f', rfl⟩ : ∃ f', f = f' + 1 := ⟨f - 1, by omega⟩
          simp only [partsS] at e
          rw [if_neg (by rw [hp']; decide)] at e
          exact e
         ·
          cases e0)
        have FW1 := hide (HFW.out k1 H6.out.le)
        have P6 := hide (PA.out k1)
        generalize atomS ts s inner k1 = r at *
        clear J5
        cases e1 : (t0 == 1)
        ·
         have IS := hide (is_any bLp sg_lp H6.out)
         have nb : nextB ts s (.ok k1) bLp = eatB ts s bLp k1 := rfl
         rw [nb] at IS
         clear nb
         cases hp : eatB ts s bLp k1
         ·
          have QR : Hid (R = .ok ((a0, a1, a2, a3), k1)) := hide (NO.out (by rw [PB.out, e1, hp]; rfl))
          have QF : Hid (R.st = .ok k1 ∧ ∀ q, R = .ok q → ((a0, a1, a2, a3) : Nd) = q.1) := hide (by rw [QR.out]; exact ⟨rfl, fun q hq => by cases hq; rfl⟩)
          rw [hp] at IS
          clear hp NO GO PB QR
          go_wp2_with fail
          refine IS.out.mono ?_
          rintro e w7 ⟨rfl, g7⟩
          have H7 : Hid (RS w7 tb v ts s R.st) := hide (by rw [QF.out.1]; exact H6.out.chg g7 (fun _ _ h => h))
          have B7 := hide (g7.blk B6.out)
          have G7 : Hid (Chg (fun x => x = tb) w w7) := hide (G6.out.trans g7.none)
          have N7 := hide (N6.out.chg g7 (fun _ _ h => h))
          have SZ7 := hide (Nat.le_trans SZ6.out g7.size)
          have z0 := g7.cell (fun h => h) y0
          have z1 := g7.cell (fun h => h) y1
          have z2 := g7.cell (fun h => h) y2
          have z3 := g7.cell (fun h => h) y3
          clear g7 y0 y1 y2 y3
          have b0 := blk_cell B7.out 0
          have b1 := blk_cell B7.out 1
          have b2 := blk_cell B7.out 2
          have b3 := blk_cell B7.out 3
          have f0 := blk_free B7.out 0
          have f1 := blk_free B7.out 1
          have f2 := blk_free B7.out 2
          have f3 := blk_free B7.out 3
          have NS := hide (nv_set B7.out (.int .i64 a0) (.string a1) (.int .i64 a2) (.slice aa a3.len ac))
          have FS := hide (H7.out.chg NS.out.2 (fun x hx e => by have h1 := DL.out; omega))
          have CS := hide (rchg_fresh G7.out NS.out.2 (by have h1 := DL.out; omega))
          go_wp2_with fail
          generalize ((((w7.setCell ⟨A, 0, none⟩ (.int .i64 a0)).setCell ⟨A, 1, none⟩ (.string a1)).setCell ⟨A, 2, none⟩ (.int .i64 a2)).setCell ⟨A, 3, none⟩ (.slice aa a3.len ac)) = wF at *
          have r0 := blk_cell NS.out.1 0
          have r1 := blk_cell NS.out.1 1
          have r2 := blk_cell NS.out.1 2
          have r3 := blk_cell NS.out.1 3
          refine bodyPost_ret (v := .agg #[.int .i64 a0, .string a1, .int .i64 a2, .slice aa a3.len ac]) (by simp [results, Try.results41, go_sem, r0, r1, r2, r3]) rfl ?_
          have N8 := N7.out.chg NS.out.2 (fun x hx e => hx.2.2.1 e)
          exact ⟨⟨_, (a0, a1, a2, a3), rfl, ⟨aa, ac, rfl, N8.up (fun x hx => ⟨hx.1, by have h1 := NS.out.2.size; have h2 := SZ7.out; omega⟩)⟩, QF.out.2⟩, FS.out, CS.out⟩
         ·
          have GP := hide (GO.out (by rw [PB.out, e1, hp]; rfl))
          rw [hp] at IS
          clear hp NO GO PB
          go_wp2_with fail
          refine IS.out.mono ?_
          rintro e w7 ⟨rfl, g7⟩
          have H7 := hide (H6.out.chg g7 (fun _ _ h => h))
          have B7 := hide (g7.blk B6.out)
          have D7 := hide (g7.blk D6.out)
          have G7 : Hid (Chg (fun x => x = tb) w w7) := hide (G6.out.trans g7.none)
          have N7 := hide (N6.out.chg g7 (fun _ _ h => h))
          have SZ7 := hide (Nat.le_trans SZ6.out g7.size)
          have z0 := g7.cell (fun h => h) y0
          have z1 := g7.cell (fun h => h) y1
          have z2 := g7.cell (fun h => h) y2
          have z3 := g7.cell (fun h => h) y3
          clear g7 y0 y1 y2 y3 H6 B6 D6 G6 N6
          obtain ⟨f, QR, QK1, QK2⟩ := GP.out
          have QR := hide QR
          have QK := hide (And.intro QK1 QK2)
          clear GP QK1 QK2
          have A6 := hide (P6.out w7 H7.out)
          clear P6
          go_wp2_with fail
          refine A6.out.mono ?_
          rintro e w8 ⟨⟨u, m, rfl, hm, hqm⟩, h8, g8⟩
          obtain ⟨ma, mc, rfl, _⟩ := id hm
          have HQM := hide hqm
          obtain ⟨m0, m1, m2, m3⟩ := m
          dsimp only [Nd.kind, Nd.word, Nd.at, Nd.kids] at *
          have GF := al w8 (.cells #[.int .i64 m0, .string m1, .int .i64 m2, .slice ma m3.len mc] 55)
          have BF := blk_new w8 (.cells #[.int .i64 m0, .string m1, .int .i64 m2, .slice ma m3.len mc] 55)
          have GN := al (w8.alloc (.cells #[.int .i64 m0, .string m1, .int .i64 m2, .slice ma m3.len mc] 55)) (.cells #[.int .i64 a0, .string a1, .int .i64 a2, .slice aa a3.len ac, .int .i64 m0, .string m1, .int .i64 m2, .slice ma m3.len mc] 55)
          have BN := hide (blk_new (w8.alloc (.cells #[.int .i64 m0, .string m1, .int .i64 m2, .slice ma m3.len mc] 55)) (.cells #[.int .i64 a0, .string a1, .int .i64 a2, .slice aa a3.len ac, .int .i64 m0, .string m1, .int .i64 m2, .slice ma m3.len mc] 55))
          have szF := al_sz w8 (.cells #[.int .i64 m0, .string m1, .int .i64 m2, .slice ma m3.len mc] 55)
          have szN := al_sz (w8.alloc (.cells #[.int .i64 m0, .string m1, .int .i64 m2, .slice ma m3.len mc] 55)) (.cells #[.int .i64 a0, .string a1, .int .i64 a2, .slice aa a3.len ac, .int .i64 m0, .string m1, .int .i64 m2, .slice ma m3.len mc] 55)
          have GG := GF.trans GN
          have H9 := hide (h8.chg GG (fun _ _ h => h))
          have B9 := hide (GG.blk (g8.blkS (by have := DL.out; omega) B7.out))
          have D9 := hide (GG.blk (g8.blkS (by have := DL.out; omega) D7.out))
          have G9 := hide ((G7.out.trans g8).trans GG.none)
          have hD7 := olt D7.out
          have hD8 := g8.size
          rw [szF] at BN
          have NA := ((N7.out.chg g8 (fun x hx e => by have := hx.1; have := DL.out; omega)).chg GG (fun _ _ h => h)).up (Y := fun x => w.heap.size ≤ x ∧ x < w8.heap.size + 2 ∧ x ≠ A ∧ x ≠ D) (fun x hx => ⟨hx.1, by have := SZ7.out; omega, hx.2.2.1, hx.2.2.2⟩)
          have NB := (hm.chg GG (fun _ _ h => h)).up (Y := fun x => w.heap.size ≤ x ∧ x < w8.heap.size + 2 ∧ x ≠ A ∧ x ≠ D) (fun x hx => ⟨by have := DL.out; omega, by omega, by have := DL.out; omega, by omega⟩)
          obtain ⟨_, _, eb, NB⟩ := NB
          have N9 := hide (nv_two (X := fun x => w.heap.size ≤ x ∧ x < w8.heap.size + 2 ∧ x ≠ A ∧ x ≠ D) (g := w8.heap.size + 1) (n := (a0, a1, a2, a3)) (m := (m0, m1, m2, m3)) 4 a2 ⟨by have := DL.out; omega, by omega, by have := DL.out; omega, by omega⟩ BN.out NA (by cases eb; exact NB))
          have d0 := GF.cell (fun h => h) (g8.cell (by have := DL.out; omega) z0)
          have d1 := GF.cell (fun h => h) (g8.cell (by have := DL.out; omega) z1)
          have d2 := GF.cell (fun h => h) (g8.cell (by have := DL.out; omega) z2)
          have d3 := GF.cell (fun h => h) (g8.cell (by have := DL.out; omega) z3)
          have o0 := blk_cell BF 0
          have o1 := blk_cell BF 1
          have o2 := blk_cell BF 2
          have o3 := blk_cell BF 3
          simp only [gets] at o0 o1 o2 o3
          obtain ⟨G, hG⟩ : ∃ G, w8.heap.size + 1 = G := ⟨_, rfl⟩
          rw [hG] at N9
          have Z9 : Hid (w8.heap.size + 2 = ((w8.alloc (.cells #[.int .i64 m0, .string m1, .int .i64 m2, .slice ma m3.len mc] 55)).alloc (.cells #[.int .i64 a0, .string a1, .int .i64 a2, .slice aa a3.len ac, .int .i64 m0, .string m1, .int .i64 m2, .slice ma m3.len mc] 55)).heap.size) := hide (by omega)
          clear h8 g8 GF GN GG BF szF szN hm NA NB eb hD7 hD8 hqm A6
          have b0 := blk_cell D9.out 0
          have b1 := blk_cell D9.out 1
          have b2 := blk_cell D9.out 2
          have b3 := blk_cell D9.out 3
          have f0 := blk_free D9.out 0
          have f1 := blk_free D9.out 1
          have f2 := blk_free D9.out 2
          have f3 := blk_free D9.out 3
          have NS := hide (nv_set D9.out (.int .i64 4) (.string ⟨#[]⟩) (.int .i64 a2) (.slice (some ⟨G, 0, none⟩) 2 2))
          have FS := hide (H9.out.chg NS.out.2 (fun x hx e => by have h1 := DL.out; omega))
          have CS := hide (rchg_fresh G9.out NS.out.2 (by have h1 := DL.out; omega))
          have BS := hide (NS.out.2.blkS (by have := DL.out; omega) B9.out)
          have NN0 := hide (N9.out.chg NS.out.2 (fun x hx e => hx.2.2.2 e))
          have IN : Hid (∃ g', g' < gk ∧ RInv w ((((((w8.alloc (.cells #[.int .i64 m0, .string m1, .int .i64 m2, .slice ma m3.len mc] 55)).alloc (.cells #[.int .i64 a0, .string a1, .int .i64 a2, .slice aa a3.len ac, .int .i64 m0, .string m1, .int .i64 m2, .slice ma m3.len mc] 55)).setCell ⟨D, 0, none⟩ (.int .i64 4)).setCell ⟨D, 1, none⟩ (.string ⟨#[]⟩)).setCell ⟨D, 2, none⟩ (.int .i64 a2)).setCell ⟨D, 3, none⟩ (.slice (some ⟨G, 0, none⟩) 2 2)) tb v ts s A D inner R g') := hide (by
           obtain ⟨ka, kc, ek, NN⟩ := NN0.out
           have NN : Ts ((((((w8.alloc (.cells #[.int .i64 m0, .string m1, .int .i64 m2, .slice ma m3.len mc] 55)).alloc (.cells #[.int .i64 a0, .string a1, .int .i64 a2, .slice aa a3.len ac, .int .i64 m0, .string m1, .int .i64 m2, .slice ma m3.len mc] 55)).setCell ⟨D, 0, none⟩ (.int .i64 4)).setCell ⟨D, 1, none⟩ (.string ⟨#[]⟩)).setCell ⟨D, 2, none⟩ (.int .i64 a2)).setCell ⟨D, 3, none⟩ (.slice (some ⟨G, 0, none⟩) 2 2)) (fun x => w.heap.size ≤ x ∧ x < w8.heap.size + 2 ∧ x ≠ A ∧ x ≠ D) (.slice (some ⟨G, 0, none⟩) 2 2) (twoN (a0, a1, a2, a3) (m0, m1, m2, m3)) := by cases ek; exact NN
           have NN := NN.up (Y := fun x => w.heap.size ≤ x ∧ x < ((((((w8.alloc (.cells #[.int .i64 m0, .string m1, .int .i64 m2, .slice ma m3.len mc] 55)).alloc (.cells #[.int .i64 a0, .string a1, .int .i64 a2, .slice aa a3.len ac, .int .i64 m0, .string m1, .int .i64 m2, .slice ma m3.len mc] 55)).setCell ⟨D, 0, none⟩ (.int .i64 4)).setCell ⟨D, 1, none⟩ (.string ⟨#[]⟩)).setCell ⟨D, 2, none⟩ (.int .i64 a2)).setCell ⟨D, 3, none⟩ (.slice (some ⟨G, 0, none⟩) 2 2)).heap.size ∧ x ≠ A ∧ x ≠ D) (fun x hx => ⟨hx.1, by have h1 := NS.out.2.size; have h2 := Z9.out; omega, hx.2.2⟩)
           have hfw := FW1.out
           have hk := QK.out
           have hle : k1 ≤ ts.length := H7.out.le
           have hr := QR.out
           cases r with
           | error x => exact ⟨0, by omega, .error x, (4, bNone, a2, twoN (a0, a1, a2, a3) (m0, m1, m2, m3)), _, _, FS.out, BS, NS.out.1, NN, CS.out, Or.inr ⟨x, rfl, hr, rfl⟩⟩
           | ok q =>
             have e3 := HQM.out q rfl
             dsimp only at hfw
             exact ⟨ts.length + 2 - q.2, by omega, .ok q.2, (4, bNone, a2, twoN (a0, a1, a2, a3) (m0, m1, m2, m3)), _, _, FS.out, BS, NS.out.1, NN, CS.out, Or.inl ⟨q.2, f, rfl, by rw [hr, e3]; rfl, by omega, rfl⟩⟩)
          clear N9 FS CS BS H9 B9 D9 G9 NN0
          go_wp2_with fail
          obtain ⟨g', hg', HI⟩ := IN.out
          have HI := hide HI
          clear IN
          clear hG
          generalize ((((((w8.alloc (.cells #[.int .i64 m0, .string m1, .int .i64 m2, .slice ma m3.len mc] 55)).alloc (.cells #[.int .i64 a0, .string a1, .int .i64 a2, .slice aa a3.len ac, .int .i64 m0, .string m1, .int .i64 m2, .slice ma m3.len mc] 55)).setCell ⟨D, 0, none⟩ (.int .i64 4)).setCell ⟨D, 1, none⟩ (.string ⟨#[]⟩)).setCell ⟨D, 2, none⟩ (.int .i64 a2)).setCell ⟨D, 3, none⟩ (.slice (some ⟨G, 0, none⟩) 2 2)) = w10 at *
          go_roundg g'
          case measure => exact hg'
          case rel => exact HI
        ·
         have GP := hide (GO.out (by rw [PB.out, e1]; rfl))
         clear NO GO PB
         have w7e : ∃ w7, w6 = w7 := ⟨_, rfl⟩
         obtain ⟨w7, hw7⟩ := w7e
         have g7 : Chg (fun _ => False) w6 w7 := by rw [hw7]; exact Chg.refl _ _
         have H7 := hide (H6.out.chg g7 (fun _ _ h => h))
         have B7 := hide (g7.blk B6.out)
         have D7 := hide (g7.blk D6.out)
         have G7 : Hid (Chg (fun x => x = tb) w w7) := hide (G6.out.trans g7.none)
         have N7 := hide (N6.out.chg g7 (fun _ _ h => h))
         have SZ7 := hide (Nat.le_trans SZ6.out g7.size)
         have z0 := g7.cell (fun h => h) y0
         have z1 := g7.cell (fun h => h) y1
         have z2 := g7.cell (fun h => h) y2
         have z3 := g7.cell (fun h => h) y3
         clear g7 y0 y1 y2 y3 H6 B6 D6 G6 N6
         obtain ⟨f, QR, QK1, QK2⟩ := GP.out
         have QR := hide QR
         have QK := hide (And.intro QK1 QK2)
         clear GP QK1 QK2
         have A6 := hide (P6.out w7 H7.out)
         clear P6
         go_wp2_with fail
         refine A6.out.mono ?_
         rintro e w8 ⟨⟨u, m, rfl, hm, hqm⟩, h8, g8⟩
         obtain ⟨ma, mc, rfl, _⟩ := id hm
         have HQM := hide hqm
         obtain ⟨m0, m1, m2, m3⟩ := m
         dsimp only [Nd.kind, Nd.word, Nd.at, Nd.kids] at *
         have GF := al w8 (.cells #[.int .i64 m0, .string m1, .int .i64 m2, .slice ma m3.len mc] 55)
         have BF := blk_new w8 (.cells #[.int .i64 m0, .string m1, .int .i64 m2, .slice ma m3.len mc] 55)
         have GN := al (w8.alloc (.cells #[.int .i64 m0, .string m1, .int .i64 m2, .slice ma m3.len mc] 55)) (.cells #[.int .i64 a0, .string a1, .int .i64 a2, .slice aa a3.len ac, .int .i64 m0, .string m1, .int .i64 m2, .slice ma m3.len mc] 55)
         have BN := hide (blk_new (w8.alloc (.cells #[.int .i64 m0, .string m1, .int .i64 m2, .slice ma m3.len mc] 55)) (.cells #[.int .i64 a0, .string a1, .int .i64 a2, .slice aa a3.len ac, .int .i64 m0, .string m1, .int .i64 m2, .slice ma m3.len mc] 55))
         have szF := al_sz w8 (.cells #[.int .i64 m0, .string m1, .int .i64 m2, .slice ma m3.len mc] 55)
         have szN := al_sz (w8.alloc (.cells #[.int .i64 m0, .string m1, .int .i64 m2, .slice ma m3.len mc] 55)) (.cells #[.int .i64 a0, .string a1, .int .i64 a2, .slice aa a3.len ac, .int .i64 m0, .string m1, .int .i64 m2, .slice ma m3.len mc] 55)
         have GG := GF.trans GN
         have H9 := hide (h8.chg GG (fun _ _ h => h))
         have B9 := hide (GG.blk (g8.blkS (by have := DL.out; omega) B7.out))
         have D9 := hide (GG.blk (g8.blkS (by have := DL.out; omega) D7.out))
         have G9 := hide ((G7.out.trans g8).trans GG.none)
         have hD7 := olt D7.out
         have hD8 := g8.size
         rw [szF] at BN
         have NA := ((N7.out.chg g8 (fun x hx e => by have := hx.1; have := DL.out; omega)).chg GG (fun _ _ h => h)).up (Y := fun x => w.heap.size ≤ x ∧ x < w8.heap.size + 2 ∧ x ≠ A ∧ x ≠ D) (fun x hx => ⟨hx.1, by have := SZ7.out; omega, hx.2.2.1, hx.2.2.2⟩)
         have NB := (hm.chg GG (fun _ _ h => h)).up (Y := fun x => w.heap.size ≤ x ∧ x < w8.heap.size + 2 ∧ x ≠ A ∧ x ≠ D) (fun x hx => ⟨by have := DL.out; omega, by omega, by have := DL.out; omega, by omega⟩)
         obtain ⟨_, _, eb, NB⟩ := NB
         have N9 := hide (nv_two (X := fun x => w.heap.size ≤ x ∧ x < w8.heap.size + 2 ∧ x ≠ A ∧ x ≠ D) (g := w8.heap.size + 1) (n := (a0, a1, a2, a3)) (m := (m0, m1, m2, m3)) 4 a2 ⟨by have := DL.out; omega, by omega, by have := DL.out; omega, by omega⟩ BN.out NA (by cases eb; exact NB))
         have d0 := GF.cell (fun h => h) (g8.cell (by have := DL.out; omega) z0)
         have d1 := GF.cell (fun h => h) (g8.cell (by have := DL.out; omega) z1)
         have d2 := GF.cell (fun h => h) (g8.cell (by have := DL.out; omega) z2)
         have d3 := GF.cell (fun h => h) (g8.cell (by have := DL.out; omega) z3)
         have o0 := blk_cell BF 0
         have o1 := blk_cell BF 1
         have o2 := blk_cell BF 2
         have o3 := blk_cell BF 3
         simp only [gets] at o0 o1 o2 o3
         obtain ⟨G, hG⟩ : ∃ G, w8.heap.size + 1 = G := ⟨_, rfl⟩
         rw [hG] at N9
         have Z9 : Hid (w8.heap.size + 2 = ((w8.alloc (.cells #[.int .i64 m0, .string m1, .int .i64 m2, .slice ma m3.len mc] 55)).alloc (.cells #[.int .i64 a0, .string a1, .int .i64 a2, .slice aa a3.len ac, .int .i64 m0, .string m1, .int .i64 m2, .slice ma m3.len mc] 55)).heap.size) := hide (by omega)
         clear h8 g8 GF GN GG BF szF szN hm NA NB eb hD7 hD8 hqm A6
         have b0 := blk_cell D9.out 0
         have b1 := blk_cell D9.out 1
         have b2 := blk_cell D9.out 2
         have b3 := blk_cell D9.out 3
         have f0 := blk_free D9.out 0
         have f1 := blk_free D9.out 1
         have f2 := blk_free D9.out 2
         have f3 := blk_free D9.out 3
         have NS := hide (nv_set D9.out (.int .i64 4) (.string ⟨#[]⟩) (.int .i64 a2) (.slice (some ⟨G, 0, none⟩) 2 2))
         have FS := hide (H9.out.chg NS.out.2 (fun x hx e => by have h1 := DL.out; omega))
         have CS := hide (rchg_fresh G9.out NS.out.2 (by have h1 := DL.out; omega))
         have BS := hide (NS.out.2.blkS (by have := DL.out; omega) B9.out)
         have NN0 := hide (N9.out.chg NS.out.2 (fun x hx e => hx.2.2.2 e))
         have IN : Hid (∃ g', g' < gk ∧ RInv w ((((((w8.alloc (.cells #[.int .i64 m0, .string m1, .int .i64 m2, .slice ma m3.len mc] 55)).alloc (.cells #[.int .i64 a0, .string a1, .int .i64 a2, .slice aa a3.len ac, .int .i64 m0, .string m1, .int .i64 m2, .slice ma m3.len mc] 55)).setCell ⟨D, 0, none⟩ (.int .i64 4)).setCell ⟨D, 1, none⟩ (.string ⟨#[]⟩)).setCell ⟨D, 2, none⟩ (.int .i64 a2)).setCell ⟨D, 3, none⟩ (.slice (some ⟨G, 0, none⟩) 2 2)) tb v ts s A D inner R g') := hide (by
          obtain ⟨ka, kc, ek, NN⟩ := NN0.out
          have NN : Ts ((((((w8.alloc (.cells #[.int .i64 m0, .string m1, .int .i64 m2, .slice ma m3.len mc] 55)).alloc (.cells #[.int .i64 a0, .string a1, .int .i64 a2, .slice aa a3.len ac, .int .i64 m0, .string m1, .int .i64 m2, .slice ma m3.len mc] 55)).setCell ⟨D, 0, none⟩ (.int .i64 4)).setCell ⟨D, 1, none⟩ (.string ⟨#[]⟩)).setCell ⟨D, 2, none⟩ (.int .i64 a2)).setCell ⟨D, 3, none⟩ (.slice (some ⟨G, 0, none⟩) 2 2)) (fun x => w.heap.size ≤ x ∧ x < w8.heap.size + 2 ∧ x ≠ A ∧ x ≠ D) (.slice (some ⟨G, 0, none⟩) 2 2) (twoN (a0, a1, a2, a3) (m0, m1, m2, m3)) := by cases ek; exact NN
          have NN := NN.up (Y := fun x => w.heap.size ≤ x ∧ x < ((((((w8.alloc (.cells #[.int .i64 m0, .string m1, .int .i64 m2, .slice ma m3.len mc] 55)).alloc (.cells #[.int .i64 a0, .string a1, .int .i64 a2, .slice aa a3.len ac, .int .i64 m0, .string m1, .int .i64 m2, .slice ma m3.len mc] 55)).setCell ⟨D, 0, none⟩ (.int .i64 4)).setCell ⟨D, 1, none⟩ (.string ⟨#[]⟩)).setCell ⟨D, 2, none⟩ (.int .i64 a2)).setCell ⟨D, 3, none⟩ (.slice (some ⟨G, 0, none⟩) 2 2)).heap.size ∧ x ≠ A ∧ x ≠ D) (fun x hx => ⟨hx.1, by have h1 := NS.out.2.size; have h2 := Z9.out; omega, hx.2.2⟩)
          have hfw := FW1.out
          have hk := QK.out
          have hle : k1 ≤ ts.length := H7.out.le
          have hr := QR.out
          cases r with
          | error x => exact ⟨0, by omega, .error x, (4, bNone, a2, twoN (a0, a1, a2, a3) (m0, m1, m2, m3)), _, _, FS.out, BS, NS.out.1, NN, CS.out, Or.inr ⟨x, rfl, hr, rfl⟩⟩
          | ok q =>
            have e3 := HQM.out q rfl
            dsimp only at hfw
            exact ⟨ts.length + 2 - q.2, by omega, .ok q.2, (4, bNone, a2, twoN (a0, a1, a2, a3) (m0, m1, m2, m3)), _, _, FS.out, BS, NS.out.1, NN, CS.out, Or.inl ⟨q.2, f, rfl, by rw [hr, e3]; rfl, by omega, rfl⟩⟩)
         clear N9 FS CS BS H9 B9 D9 G9 NN0
         go_wp2_with fail
         obtain ⟨g', hg', HI⟩ := IN.out
         have HI := hide HI
         clear IN
         clear hG
         generalize ((((((w8.alloc (.cells #[.int .i64 m0, .string m1, .int .i64 m2, .slice ma m3.len mc] 55)).alloc (.cells #[.int .i64 a0, .string a1, .int .i64 a2, .slice aa a3.len ac, .int .i64 m0, .string m1, .int .i64 m2, .slice ma m3.len mc] 55)).setCell ⟨D, 0, none⟩ (.int .i64 4)).setCell ⟨D, 1, none⟩ (.string ⟨#[]⟩)).setCell ⟨D, 2, none⟩ (.int .i64 a2)).setCell ⟨D, 3, none⟩ (.slice (some ⟨G, 0, none⟩) 2 2)) = w10 at *
         go_roundg g'
         case measure => exact hg'
         case rel => exact HI
    ·
     have TB : Hid (R = lamS ts s typ inner ((tokAt ts s k 0).2.2 : Int) (k + 1)) := hide (RR.out.trans (by unfold termB; rw [if_pos hb]))
     have HK := hide (eatB_lt hb)
     have AT := hide (rat_any H2.out)
     have AT : Hid (Calls Try.prog 67 #[.pointer (some ⟨tb, 0, none⟩)] w2 fun e w' => e = .returned (.int .i64 ((tokAt ts s k 0).2.2 : Int)) ∧ Chg (fun _ => False) w2 w') := AT
     obtain ⟨at0, hat⟩ : ∃ at0 : Int, ((tokAt ts s k 0).2.2 : Int) = at0 := ⟨_, rfl⟩
     rw [hat] at TB AT
     have LAW := hide (fun a b ha hb => lam_law ts s typ inner at0 (.ok (k + 1)) a b ha hb)
     have LAW : Hid (∀ (a b : Nd), (∀ q, ((((tokS ts s 1 (k + 1)).st.then (mustS ts s bColon)).bind typ) = .ok q → a = q.1)) → (∀ q, ((((((tokS ts s 1 (k + 1)).st.then (mustS ts s bColon)).bind typ).st.then (mustS ts s bDot)).bind inner) = .ok q → b = q.1)) →
      ((((((tokS ts s 1 (k + 1)).st.then (mustS ts s bColon)).bind typ).st.then (mustS ts s bDot)).bind inner).st = R.st ∧ ∀ q, R = .ok q → ((3, (tokOf (tokS ts s 1 (k + 1))).2.1, at0, twoN a b) : Nd) = q.1)) := hide (by rw [TB.out]; exact LAW.out)
     clear hat hb RR TB PA
     go_wp2_with fail
     refine AT.out.mono ?_
     rintro e v3 ⟨rfl, g3⟩
     have GD := al v3 (.cells #[.int .i64 3, .string ⟨#[]⟩, .int .i64 at0, .slice none 0 0] 55)
     have D3 := hide (blk_new v3 (.cells #[.int .i64 3, .string ⟨#[]⟩, .int .i64 at0, .slice none 0 0] 55))
     have H3 := hide ((H2.out.chg g3 (fun _ _ h => h)).chg GD (fun _ _ h => h))
     have B3 := hide (GD.blk (g3.blk B2.out))
     have G3 := hide ((G2.out.trans g3.none).trans GD.none)
     obtain ⟨D, hD⟩ : ∃ D, v3.heap.size = D := ⟨_, rfl⟩
     have DL : Hid (A < D ∧ tb < A ∧ w.heap.size = A) := hide ⟨by have h1 := olt (g3.blk B2.out); omega, HL.out⟩
     rw [hD] at D3
     clear g3 GD AT H2 B2 G2
     have hk1 := HK.out
     have hk2 := H3.out.env.len
     have H4 := hide (RS.moved (k := k) H3.out ((k : Int) + 1) (by omega) HK.out)
     have GS := Chg.set (v3.alloc (.cells #[.int .i64 3, .string ⟨#[]⟩, .int .i64 at0, .slice none 0 0] 55)) tb 2 (.int .i64 ((k : Int) + 1))
     have B4 := hide (GS.blkS (by have := DL.out; omega) B3.out)
     have D4 := hide (GS.blkS (by have := DL.out; omega) D3.out)
     have G4 := hide (G3.out.trans GS)
     have f2 := blk_free H3.out.blk 2
     have c2 : (v3.alloc (.cells #[.int .i64 3, .string ⟨#[]⟩, .int .i64 at0, .slice none 0 0] 55)).cell? ⟨tb, 2, none⟩ = some (.int .i64 (k : Int)) := H3.out.cells.2.2.1
     clear GS H3 B3 D3 G3
     go_wp2_with fail
     clear hD
     generalize (v3.alloc (.cells #[.int .i64 3, .string ⟨#[]⟩, .int .i64 at0, .slice none 0 0] 55)).setCell ⟨tb, 2, none⟩ (.int .i64 ((k : Int) + 1)) = v4 at *
     clear c2 f2
     have AA := hide (a_any 1 (by decide) H4.out)
     have AA : Hid (Calls Try.prog 71 #[.pointer (some ⟨tb, 0, none⟩), .int .i64 1] v4 fun e w' => e = .returned (.string (tokOf (tokS ts s 1 (k + 1))).2.1) ∧ RS w' tb v ts s (tokS ts s 1 (k + 1)).st ∧ Chg (fun x => x = tb) v4 w') := AA
     generalize tokS ts s 1 (k + 1) = r1 at *
     obtain ⟨x1, hx1⟩ : ∃ x1, (tokOf r1).2.1 = x1 := ⟨_, rfl⟩
     rw [hx1] at AA LAW
     clear hx1
     refine AA.out.mono ?_
     rintro e v5 ⟨rfl, h5, g5⟩
     have D5 := g5.blkS (by have := DL.out; omega) D4.out
     have q1 := blk_cell D5 1
     have f1 := blk_free D5 1
     have GS := Chg.set v5 D 1 (.string x1)
     have D6 := hide (blk_set D5 1 (.string x1))
     have H6 := hide (h5.chg GS (fun x hx e => by have := DL.out; omega))
     have B6 := hide (GS.blkS (by have := DL.out; omega) (g5.blkS (by have := DL.out; omega) B4.out))
     have G6 := hide (rchg_fresh (G4.out.trans g5) GS (by have := DL.out; omega))
     clear h5 g5 GS AA D5 H4 B4 D4 G4
     go_wp2_with fail
     generalize v5.setCell ⟨D, 1, none⟩ (.string x1) = v6 at *
     clear q1 f1
     have SG := hide (sign_any' bColon sg_colon H6.out)
     generalize r1.st.then (mustS ts s bColon) = st2 at *
     refine SG.out.mono ?_
     rintro e v7 ⟨rfl, h7, g7⟩
     have H7 := hide h7
     have B7 := hide (g7.blkS (by have := DL.out; omega) B6.out)
     have D7 := hide (g7.blkS (by have := DL.out; omega) D6.out)
     have G7 := hide (G6.out.trans g7)
     clear h7 g7 SG H6 B6 D6 G6
     have T7 := hide (TY.out st2 v7 H7.out)
     generalize st2.bind typ = r3 at *
     go_wp2_with fail
     refine T7.out.mono ?_
     rintro e v8 ⟨⟨u, a, rfl, ha, hqa⟩, h8, g8⟩
     obtain ⟨aa, ac, rfl, _⟩ := id ha
     obtain ⟨a0, a1, a2, a3⟩ := a
     dsimp only [Nd.kind, Nd.word, Nd.at, Nd.kids] at *
     have GE := al v8 (.cells #[.int .i64 a0, .string a1, .int .i64 a2, .slice aa a3.len ac] 55)
     have E8 := hide (blk_new v8 (.cells #[.int .i64 a0, .string a1, .int .i64 a2, .slice aa a3.len ac] 55))
     have H8 := hide (h8.chg GE (fun _ _ h => h))
     have B8 := hide (GE.blk (g8.blkS (by have := DL.out; omega) B7.out))
     have D8 := hide (GE.blk (g8.blkS (by have := DL.out; omega) D7.out))
     have G8 := hide ((G7.out.trans g8).trans GE.none)
     obtain ⟨E, hE⟩ : ∃ E, v8.heap.size = E := ⟨_, rfl⟩
     have EL : Hid (D < E) := hide (by have h1 := olt (g8.blkS (by have := DL.out; omega) D7.out); omega)
     have SZ7 : Hid (D < v7.heap.size) := hide (olt D7.out)
     have NA := (ha.chg GE (fun _ _ h => h)).up (Y := fun x => D < x ∧ x < E) (fun x hx => ⟨by have := SZ7.out; omega, by omega⟩)
     obtain ⟨_, _, ev, NA⟩ := NA
     have NA : Hid (Ts (v8.alloc (.cells #[.int .i64 a0, .string a1, .int .i64 a2, .slice aa a3.len ac] 55)) (fun x => D < x ∧ x < E) (.slice aa a3.len ac) a3) := hide (by cases ev; exact NA)
     rw [hE] at E8
     clear h8 g8 GE T7 ha ev H7 B7 D7 G7
     have SG := hide (sign_any' bDot sg_dot H8.out)
     have LAW2 := hide (fun b hb => LAW.out (a0, a1, a2, a3) b hqa hb)
     clear LAW hqa
     generalize r3.st.then (mustS ts s bDot) = st4 at *
     go_wp2_with fail
     clear hE
     generalize v8.alloc (.cells #[.int .i64 a0, .string a1, .int .i64 a2, .slice aa a3.len ac] 55) = v9 at *
     refine SG.out.mono ?_
     rintro e v10 ⟨rfl, h10, g10⟩
     have H10 := hide h10
     have B10 := hide (g10.blkS (by have := DL.out; omega) B8.out)
     have D10 := hide (g10.blkS (by have := DL.out; omega) D8.out)
     have E10 := hide (g10.blkS (by have := DL.out; have := EL.out; omega) E8.out)
     have G10 := hide (G8.out.trans g10)
     have NA10 := hide (NA.out.chg g10 (fun x hx e => by have := hx.1; have := DL.out; omega))
     clear h10 g10 SG NA H8 B8 D8 E8 G8
     have TE := hide (IN.out st4 v10 H10.out)
     generalize st4.bind inner = r5 at *
     go_wp2_with fail
     refine TE.out.mono ?_
     rintro e v11 ⟨⟨u, m, rfl, hm, hqm⟩, h11, g11⟩
     obtain ⟨ma, mc, rfl, _⟩ := id hm
     have LW := hide (LAW2.out m hqm)
     clear LAW2 hqm
     obtain ⟨m0, m1, m2, m3⟩ := m
     dsimp only [Nd.kind, Nd.word, Nd.at, Nd.kids] at *
     have GF := al v11 (.cells #[.int .i64 m0, .string m1, .int .i64 m2, .slice ma m3.len mc] 55)
     have BF := blk_new v11 (.cells #[.int .i64 m0, .string m1, .int .i64 m2, .slice ma m3.len mc] 55)
     have GN := al (v11.alloc (.cells #[.int .i64 m0, .string m1, .int .i64 m2, .slice ma m3.len mc] 55)) (.cells #[.int .i64 a0, .string a1, .int .i64 a2, .slice aa a3.len ac, .int .i64 m0, .string m1, .int .i64 m2, .slice ma m3.len mc] 55)
     have BN := hide (blk_new (v11.alloc (.cells #[.int .i64 m0, .string m1, .int .i64 m2, .slice ma m3.len mc] 55)) (.cells #[.int .i64 a0, .string a1, .int .i64 a2, .slice aa a3.len ac, .int .i64 m0, .string m1, .int .i64 m2, .slice ma m3.len mc] 55))
     have szF := al_sz v11 (.cells #[.int .i64 m0, .string m1, .int .i64 m2, .slice ma m3.len mc] 55)
     have szN := al_sz (v11.alloc (.cells #[.int .i64 m0, .string m1, .int .i64 m2, .slice ma m3.len mc] 55)) (.cells #[.int .i64 a0, .string a1, .int .i64 a2, .slice aa a3.len ac, .int .i64 m0, .string m1, .int .i64 m2, .slice ma m3.len mc] 55)
     have GG := GF.trans GN
     have F12 := hide (GN.blk BF)
     have H12 := hide (h11.chg GG (fun _ _ h => h))
     rw [LW.out.1] at H12
     have B12 := hide (GG.blk (g11.blkS (by have := DL.out; omega) B10.out))
     have D12 := hide (GG.blk (g11.blkS (by have := DL.out; omega) D10.out))
     have E12 := hide (GG.blk (g11.blkS (by have := DL.out; have := EL.out; omega) E10.out))
     have G12 := hide ((G10.out.trans g11).trans GG.none)
     have hE10 := olt E10.out
     have hE11 := g11.size
     rw [szF] at BN
     have NA := ((NA10.out.chg g11 (fun x hx e => by have := hx.1; have := DL.out; omega)).chg GG (fun _ _ h => h)).up (Y := fun x => D < x ∧ x < v11.heap.size + 2) (fun x hx => ⟨hx.1, by omega⟩)
     have NB := (hm.chg GG (fun _ _ h => h)).up (Y := fun x => D < x ∧ x < v11.heap.size + 2) (fun x hx => ⟨by have := EL.out; omega, by omega⟩)
     obtain ⟨_, _, eb, NB⟩ := NB
     have N12 := hide (nv_two (X := fun x => D < x ∧ x < v11.heap.size + 2) (g := v11.heap.size + 1) (n := (a0, a1, a2, a3)) (m := (m0, m1, m2, m3)) 3 at0 ⟨by have := EL.out; omega, by omega⟩ BN.out NA (by cases eb; exact NB))
     -- what the statement reads
     have e0 := blk_cell (GF.blk (g11.blkS (by have := DL.out; have := EL.out; omega) E10.out)) 0
     have e1 := blk_cell (GF.blk (g11.blkS (by have := DL.out; have := EL.out; omega) E10.out)) 1
     have e2 := blk_cell (GF.blk (g11.blkS (by have := DL.out; have := EL.out; omega) E10.out)) 2
     have e3 := blk_cell (GF.blk (g11.blkS (by have := DL.out; have := EL.out; omega) E10.out)) 3
     have o0 := blk_cell BF 0
     have o1 := blk_cell BF 1
     have o2 := blk_cell BF 2
     have o3 := blk_cell BF 3
     have d3 := blk_cell D12.out 3
     have dd3 := blk_free D12.out 3
     simp only [gets] at e0 e1 e2 e3 o0 o1 o2 o3 d3
     obtain ⟨G, hG⟩ : ∃ G, v11.heap.size + 1 = G := ⟨_, rfl⟩
     rw [hG] at N12
     have GS := Chg.set ((v11.alloc (.cells #[.int .i64 m0, .string m1, .int .i64 m2, .slice ma m3.len mc] 55)).alloc (.cells #[.int .i64 a0, .string a1, .int .i64 a2, .slice aa a3.len ac, .int .i64 m0, .string m1, .int .i64 m2, .slice ma m3.len mc] 55)) D 3 (.slice (some ⟨G, 0, none⟩) 2 2)
     have D13 := hide (blk_set D12.out 3 (.slice (some ⟨G, 0, none⟩) 2 2))
     have H13 := hide (H12.out.chg GS (fun x hx e => by have := DL.out; omega))
     have B13 := hide (GS.blkS (by have := DL.out; omega) B12.out)
     have G13 := hide (rchg_fresh G12.out GS (by have := DL.out; omega))
     have N13 := hide (N12.out.chg GS (fun x hx e => by have := hx.1; omega))
     have Z13 : Hid (v11.heap.size + 2 ≤ (((v11.alloc (.cells #[.int .i64 m0, .string m1, .int .i64 m2, .slice ma m3.len mc] 55)).alloc (.cells #[.int .i64 a0, .string a1, .int .i64 a2, .slice aa a3.len ac, .int .i64 m0, .string m1, .int .i64 m2, .slice ma m3.len mc] 55)).setCell ⟨D, 3, none⟩ (.slice (some ⟨G, 0, none⟩) 2 2)).heap.size) := hide (by have := GS.size; omega)
     have u0 := blk_cell D13.out 0
     have u1 := blk_cell D13.out 1
     have u2 := blk_cell D13.out 2
     have u3 := blk_cell D13.out 3
     simp only [List.getElem?_toArray, List.getElem?_cons_zero, List.getElem?_cons_succ, List.setIfInBounds_toArray, List.set_cons_zero, List.set_cons_succ] at u0 u1 u2 u3
     clear h11 g11 GF GN GG BF szF szN hm NA NB eb hE10 hE11 TE GS H12 D12 B12 G12 N12
     have b0 := blk_cell B13.out 0
     have b1 := blk_cell B13.out 1
     have b2 := blk_cell B13.out 2
     have b3 := blk_cell B13.out 3
     have f0 := blk_free B13.out 0
     have f1 := blk_free B13.out 1
     have f2 := blk_free B13.out 2
     have f3 := blk_free B13.out 3
     have NS := hide (nv_set B13.out (.int .i64 3) (.string x1) (.int .i64 at0) (.slice (some ⟨G, 0, none⟩) 2 2))
     have FS := hide (H13.out.chg NS.out.2 (fun x hx e => by have h1 := DL.out; omega))
     have CS := hide (rchg_fresh G13.out NS.out.2 (by have h1 := DL.out; omega))
     go_wp2_with fail
     generalize (((((((v11.alloc (.cells #[.int .i64 m0, .string m1, .int .i64 m2, .slice ma m3.len mc] 55)).alloc (.cells #[.int .i64 a0, .string a1, .int .i64 a2, .slice aa a3.len ac, .int .i64 m0, .string m1, .int .i64 m2, .slice ma m3.len mc] 55)).setCell ⟨D, 3, none⟩ (.slice (some ⟨G, 0, none⟩) 2 2)).setCell ⟨A, 0, none⟩ (.int .i64 3)).setCell ⟨A, 1, none⟩ (.string x1)).setCell ⟨A, 2, none⟩ (.int .i64 at0)).setCell ⟨A, 3, none⟩ (.slice (some ⟨G, 0, none⟩) 2 2)) = wF at *
     have r0 := blk_cell NS.out.1 0
     have r1 := blk_cell NS.out.1 1
     have r2 := blk_cell NS.out.1 2
     have r3 := blk_cell NS.out.1 3
     refine bodyPost_ret (v := .agg #[.int .i64 3, .string x1, .int .i64 at0, .slice (some ⟨G, 0, none⟩) 2 2]) (by simp [results, Try.results41, go_sem, r0, r1, r2, r3]) rfl ?_
     have N7 := N13.out.chg NS.out.2 (fun x hx e => by have := hx.1; have := DL.out; omega)
     obtain ⟨ka, kc, ek, N7⟩ := N7
     have N8 : NV wF (fun x => w.heap.size ≤ x ∧ x < wF.heap.size) (.agg #[.int .i64 3, .string x1, .int .i64 at0, .slice (some ⟨G, 0, none⟩) 2 2]) (3, x1, at0, twoN (a0, a1, a2, a3) (m0, m1, m2, m3)) := ⟨_, 2, rfl, (show Ts wF _ (.slice (some ⟨G, 0, none⟩) 2 2) (twoN (a0, a1, a2, a3) (m0, m1, m2, m3)) by cases ek; exact N7).up (fun x hx => ⟨by have := DL.out; omega, by have h1 := NS.out.2.size; have h2 := Z13.out; omega⟩)⟩
     exact ⟨⟨_, _, rfl, N8, LW.out.2⟩, FS.out, CS.out⟩

theorem rterm_any {tb : Nat} {v : Value} {ts : List Tok} {s : ByteArray} : ∀ (n o : Nat), o + n = 60 → ∀ (st : St) (w : World), RS w tb v ts s st →
  Calls Try.prog 41 #[.pointer (some ⟨tb, 0, none⟩), .int .i64 (o : Int)] w (ROut w tb v ts s (st.bind (termS ts s n)))
 | 0, o, ho, st, w, h => rterm_step (by omega) (termS ts s 0) (typS ts s 0) (termS ts s 0) (fun _ k => rfl) (fun hlt => absurd hlt (by omega)) (termS_fwd ts s 0) (fun hlt => absurd hlt (by omega)) (fun hlt => absurd hlt (by omega)) h
 | n + 1, o, ho, st, w, h => rterm_step (by omega) (termS ts s (n + 1)) (typS ts s n) (termS ts s n) (fun e => absurd e (by omega)) (fun _ k => rfl) (termS_fwd ts s n) (fun _ st w h => rtyp_any n (o + 1) (by omega) st w h) (fun _ st w h => rterm_any n (o + 1) (by omega) st w h) h
end Go.Proofs.Ytboeeaekhijboaa
