/- The program's parser: opened, typ. The program's parser: part, lam. The program's parser: lam. -/
import Derived.Test.YtboeeaekhijboaaShort
import Derived.Test.YtboeeaekhijboaaPtyp
namespace Go.Proofs.Ytboeeaekhijboaa
open Go.RowKit
set_option linter.unusedVariables false
set_option linter.unusedSimpArgs false

set_option maxRecDepth 100000 in
set_option maxHeartbeats 8000000 in
theorem opened_typ {rb pb bx : Nat} {v : Value} {ts : List Tok} {s : ByteArray} {o : Nat} (ho : o ≤ 60) (f : Nat → Rz Nd) (hf0 : o = 60 → ∀ k, f k = .error (2, k))
  (hin : o < 60 → ∀ w k, PS w rb pb v ts s (o + 1) (.ok k) → w.cell? ⟨bx, 0, none⟩ = some (.pointer (some ⟨pb, 0, none⟩)) → Calls Try.prog 82 #[.pointer (some ⟨bx, 0, none⟩)] w (POut w rb pb v ts s (o + 1) (f k)))
  {st : St} {w : World} (h : PS w rb pb v ts s o st) (hbx : w.cell? ⟨bx, 0, none⟩ = some (.pointer (some ⟨pb, 0, none⟩))) (hbp : pb < bx) :
  Calls Try.prog 75 #[.pointer (some ⟨pb, 0, none⟩), .func (.func 82) #[] #[.pointer (some ⟨bx, 0, none⟩)]] w (POut w rb pb v ts s o (st.bind f)) := by
 have G0 := hide (al w (.cells #[.int .i64 0, .string ⟨#[]⟩, .int .i64 0, .slice none 0 0] 51))
 have B0 := hide (blk_new w (.cells #[.int .i64 0, .string ⟨#[]⟩, .int .i64 0, .slice none 0 0] 51))
 have H0 := hide (h.chg G0.out (fun _ _ h => h))
 have hl := h.lt
 have hxl := World.block_lt_of_cell? w _ hbx
 dsimp only at hxl
 have HIN := hide hin
 have HF0 := hide hf0
 obtain ⟨A, hA⟩ : ∃ A, w.heap.size = A := ⟨_, rfl⟩
 have HL : Hid (rb < pb ∧ pb < bx ∧ bx < A ∧ w.heap.size = A) := hide ⟨hl.1, hbp, by omega, hA⟩
 have X0 := hide (G0.out.cell (fun h => h) hbx)
 rw [hA] at B0
 clear h hl hxl hin hA hbx hbp hf0
 cases st with
 | error x =>
   have H0' : Hid (PS (w.alloc (.cells #[.int .i64 0, .string ⟨#[]⟩, .int .i64 0, .slice none 0 0] 51)) rb pb v ts s o (Rz.st (St.bind (.error x : St) f))) := H0
   have RR : Hid (St.bind (.error x : St) f = .error x) := rfl
   go_enter Try.func75, Try.ntmps75
   go_wp2_with fail
   rw [HL.out.2.2.2]
   generalize w.alloc (.cells #[.int .i64 0, .string ⟨#[]⟩, .int .i64 0, .slice none 0 0] 51) = w1 at *
   refine (ok_err H0.out).mono ?_
   rintro e w' ⟨rfl, rfl⟩
   go_wp2_with fail
   refine (ok_err H0.out).mono ?_
   rintro e w' ⟨rfl, rfl⟩
   have G1 : Hid (Chg (Pw rb pb) w w1) := hide G0.out.none
   have b0 := blk_cell B0.out 0
   have b1 := blk_cell B0.out 1
   have b2 := blk_cell B0.out 2
   have b3 := blk_cell B0.out 3
   have f0 := blk_free B0.out 0
   have f1 := blk_free B0.out 1
   have f2 := blk_free B0.out 2
   have f3 := blk_free B0.out 3
   have NS := hide (nv_set B0.out (.int .i64 0) (.string ⟨#[]⟩) (.int .i64 0) (.slice none 0 0))
   have FS := hide (H0'.out.chg NS.out.2 (fun x hx e => by have h1 := HL.out; omega))
   have CS := hide (chg_fresh G1.out NS.out.2 (by have h1 := HL.out; omega))
   go_wp2_with fail
   generalize ((((w1.setCell ⟨A, 0, none⟩ (.int .i64 0)).setCell ⟨A, 1, none⟩ (.string ⟨#[]⟩)).setCell ⟨A, 2, none⟩ (.int .i64 0)).setCell ⟨A, 3, none⟩ (.slice none 0 0)) = wF at *
   have r0 := blk_cell NS.out.1 0
   have r1 := blk_cell NS.out.1 1
   have r2 := blk_cell NS.out.1 2
   have r3 := blk_cell NS.out.1 3
   refine bodyPost_ret (v := .agg #[.int .i64 0, .string ⟨#[]⟩, .int .i64 0, .slice none 0 0]) (by simp [results, Try.results75, go_sem, r0, r1, r2, r3]) rfl ?_
   exact ⟨⟨_, _, rfl, NV.leaf _ _ 0 ⟨#[]⟩ 0, fun q hq => by rw [RR.out] at hq; cases hq⟩, FS.out, CS.out⟩
 | ok k =>
   by_cases h60 : o = 60
   ·
    have e60 : ((o : Int) == 60) = true := by simp; omega
    have RR : Hid (St.bind (.ok k : St) f = .error (2, k)) := hide (HF0.out h60 k)
    clear h60
    go_enter Try.func75, Try.ntmps75
    go_wp2_with fail
    rw [HL.out.2.2.2]
    generalize w.alloc (.cells #[.int .i64 0, .string ⟨#[]⟩, .int .i64 0, .slice none 0 0] 51) = w1 at *
    obtain ⟨c0, c1, _, _, _, _⟩ := H0.out.cells
    refine (ok_ok H0.out).mono ?_
    rintro e w' ⟨rfl, rfl⟩
    go_wp2_with fail
    refine (fail_ok 2 (Or.inl rfl) H0.out).mono ?_
    rintro e w2 ⟨rfl, h2, g2⟩
    have H2 := hide h2
    have H2' : Hid (PS w2 rb pb v ts s o (Rz.st (St.bind (.ok k : St) f))) := hide (by rw [RR.out]; exact h2)
    have B2 := hide (g2.blkS (by have := HL.out; omega) B0.out)
    have G2 := hide (G0.out.none.trans (g2.mono (T := Pw rb pb) (fun x _ h => Or.inl h)))
    clear h2 g2 c0 c1
    go_wp2_with fail
    refine (ok_err H2.out).mono ?_
    rintro e w' ⟨rfl, rfl⟩
    have b0 := blk_cell B2.out 0
    have b1 := blk_cell B2.out 1
    have b2 := blk_cell B2.out 2
    have b3 := blk_cell B2.out 3
    have f0 := blk_free B2.out 0
    have f1 := blk_free B2.out 1
    have f2 := blk_free B2.out 2
    have f3 := blk_free B2.out 3
    have NS := hide (nv_set B2.out (.int .i64 0) (.string ⟨#[]⟩) (.int .i64 0) (.slice none 0 0))
    have FS := hide (H2'.out.chg NS.out.2 (fun x hx e => by have h1 := HL.out; omega))
    have CS := hide (chg_fresh G2.out NS.out.2 (by have h1 := HL.out; omega))
    go_wp2_with fail
    generalize ((((w2.setCell ⟨A, 0, none⟩ (.int .i64 0)).setCell ⟨A, 1, none⟩ (.string ⟨#[]⟩)).setCell ⟨A, 2, none⟩ (.int .i64 0)).setCell ⟨A, 3, none⟩ (.slice none 0 0)) = wF at *
    have r0 := blk_cell NS.out.1 0
    have r1 := blk_cell NS.out.1 1
    have r2 := blk_cell NS.out.1 2
    have r3 := blk_cell NS.out.1 3
    refine bodyPost_ret (v := .agg #[.int .i64 0, .string ⟨#[]⟩, .int .i64 0, .slice none 0 0]) (by simp [results, Try.results75, go_sem, r0, r1, r2, r3]) rfl ?_
    exact ⟨⟨_, _, rfl, NV.leaf _ _ 0 ⟨#[]⟩ 0, fun q hq => by rw [RR.out] at hq; cases hq⟩, FS.out, CS.out⟩
   ·
    have e60 : ((o : Int) == 60) = false := by simp; omega
    have hlt : o < 60 := by omega
    have IN := hide (HIN.out hlt)
    have eo1 : IntKind.i64.wrap ((o : Int) + 1) = (o : Int) + 1 := IntWalk.i64_in _ (by omega)
    have eo2 : IntKind.i64.wrap ((((o + 1 : Nat) : Int)) - 1) = (((o + 1 : Nat) : Int)) - 1 := IntWalk.i64_in _ (by omega)
    have EO := hide eo1
    have EO2 := hide eo2
    clear h60 eo1 eo2 HIN HF0
    go_enter Try.func75, Try.ntmps75
    go_wp2_with fail
    rw [HL.out.2.2.2]
    generalize w.alloc (.cells #[.int .i64 0, .string ⟨#[]⟩, .int .i64 0, .slice none 0 0] 51) = w1 at *
    obtain ⟨c0, c1, _, _, _, _⟩ := H0.out.cells
    refine (ok_ok H0.out).mono ?_
    rintro e w' ⟨rfl, rfl⟩
    go_wp2_with fail
    refine (ok_ok H0.out).mono ?_
    rintro e w' ⟨rfl, rfl⟩
    have f1 := blk_free H0.out.blk 1
    have H1 := hide (H0.out.opened (o' := o + 1) ((o : Int) + 1) (by omega))
    have GS := Chg.set w1 pb 1 (.int .i64 ((o : Int) + 1))
    have B1 := hide (GS.blkS (by have := HL.out; omega) B0.out)
    have G1 := hide (G0.out.none.trans (GS.mono (T := Pw rb pb) (fun x _ h => Or.inl h)))
    have X1 := hide (GS.cell (by have := HL.out; omega) X0.out)
    clear GS
    go_wp2_with fail
    generalize w1.setCell ⟨pb, 1, none⟩ (.int .i64 ((o : Int) + 1)) = w2 at *
    clear c0 c1 f1
    refine (IN.out w2 k H1.out X1.out).mono ?_
    rintro e w3 ⟨⟨u, n, rfl, hn, hq⟩, h3, g3⟩
    obtain ⟨na, nc, rfl, _⟩ := id hn
    have HQ := hide hq
    obtain ⟨n0, n1, n2, n3⟩ := n
    dsimp only [Nd.kind, Nd.word, Nd.at, Nd.kids] at *
    have GT := al w3 (.cells #[.int .i64 n0, .string n1, .int .i64 n2, .slice na n3.len nc] 51)
    have BT := hide (blk_new w3 (.cells #[.int .i64 n0, .string n1, .int .i64 n2, .slice na n3.len nc] 51))
    have H3 := hide (h3.chg GT (fun _ _ h => h))
    have HS3 : Hid (A < w3.heap.size ∧ w2.heap.size ≤ w3.heap.size ∧ A < w2.heap.size) := hide ⟨by have h1 := olt B1.out; have h3 := g3.size; omega, g3.size, olt B1.out⟩
    have N3 := hide ((hn.chg GT (fun _ _ h => h)).up (Y := fun x => w.heap.size ≤ x ∧ x < w3.heap.size ∧ x ≠ A) (fun x hx => ⟨by have h1 := HS3.out; have h2 := HL.out; omega, hx.2, by have h1 := HS3.out; omega⟩))
    have B3 := hide (GT.blk (g3.blkS (by have := HL.out; rintro (e | e) <;> omega) B1.out))
    have G3 := hide ((G1.out.trans g3).trans GT.none)
    obtain ⟨D, hD⟩ : ∃ D, w3.heap.size = D := ⟨_, rfl⟩
    have Z3 := hide (olt BT.out)
    rw [hD] at N3 BT Z3
    have DL : Hid (pb < D ∧ A < D) := hide (by have h1 := HS3.out; have h2 := HL.out; omega)
    clear h3 g3 GT hn hq
    have H4 := hide (H3.out.opened (o' := o) (o : Int) rfl)
    have c1 : (w3.alloc (.cells #[.int .i64 n0, .string n1, .int .i64 n2, .slice na n3.len nc] 51)).cell? ⟨pb, 1, none⟩ = some (.int .i64 ((o : Int) + 1)) := by have := H3.out.cells.2.1; simpa using this
    have f1 := blk_free H3.out.blk 1
    have GS := Chg.set (w3.alloc (.cells #[.int .i64 n0, .string n1, .int .i64 n2, .slice na n3.len nc] 51)) pb 1 (.int .i64 (o : Int))
    have B4 := hide (GS.blkS (by have := HL.out; omega) B3.out)
    have T4 := hide (GS.blkS (by have := DL.out; omega) BT.out)
    have G4 := hide (G3.out.trans (GS.mono (T := Pw rb pb) (fun x _ h => Or.inl h)))
    have N4 := hide (N3.out.chg GS (fun x hx e => by have h1 := hx.1; have h2 := HL.out; omega))
    have Z4 : Hid (D < ((w3.alloc (.cells #[.int .i64 n0, .string n1, .int .i64 n2, .slice na n3.len nc] 51)).setCell ⟨pb, 1, none⟩ (.int .i64 (o : Int))).heap.size ∧ D = w3.heap.size) := hide ⟨olt T4.out, hD.symm⟩
    have q0 := blk_cell T4.out 0
    have q1 := blk_cell T4.out 1
    have q2 := blk_cell T4.out 2
    have q3 := blk_cell T4.out 3
    simp only [gets] at q0 q1 q2 q3
    clear GS
    have b0 := blk_cell B4.out 0
    have b1 := blk_cell B4.out 1
    have b2 := blk_cell B4.out 2
    have b3 := blk_cell B4.out 3
    have f0 := blk_free B4.out 0
    have f1 := blk_free B4.out 1
    have f2 := blk_free B4.out 2
    have f3 := blk_free B4.out 3
    have NS := hide (nv_set B4.out (.int .i64 n0) (.string n1) (.int .i64 n2) (.slice na n3.len nc))
    have FS := hide (H4.out.chg NS.out.2 (fun x hx e => by have h1 := HL.out; omega))
    have CS := hide (chg_fresh G4.out NS.out.2 (by have h1 := HL.out; omega))
    go_wp2_with fail
    generalize ((((((w3.alloc (.cells #[.int .i64 n0, .string n1, .int .i64 n2, .slice na n3.len nc] 51)).setCell ⟨pb, 1, none⟩ (.int .i64 (o : Int))).setCell ⟨A, 0, none⟩ (.int .i64 n0)).setCell ⟨A, 1, none⟩ (.string n1)).setCell ⟨A, 2, none⟩ (.int .i64 n2)).setCell ⟨A, 3, none⟩ (.slice na n3.len nc)) = wF at *
    have r0 := blk_cell NS.out.1 0
    have r1 := blk_cell NS.out.1 1
    have r2 := blk_cell NS.out.1 2
    have r3 := blk_cell NS.out.1 3
    refine bodyPost_ret (v := .agg #[.int .i64 n0, .string n1, .int .i64 n2, .slice na n3.len nc]) (by simp [results, Try.results75, go_sem, r0, r1, r2, r3]) rfl ?_
    have N7 := N4.out.chg NS.out.2 (fun x hx e => hx.2.2 e)
    exact ⟨⟨_, _, rfl, N7.up (fun x hx => ⟨hx.1, by have h1 := NS.out.2.size; have h2 := Z4.out; omega⟩), HQ.out⟩, FS.out, CS.out⟩

set_option maxRecDepth 100000 in
set_option maxHeartbeats 8000000 in
theorem opened_term {rb pb bx : Nat} {v : Value} {ts : List Tok} {s : ByteArray} {o : Nat} (ho : o ≤ 60) (f : Nat → Rz Nd) (hf0 : o = 60 → ∀ k, f k = .error (2, k))
  (hin : o < 60 → ∀ w k, PS w rb pb v ts s (o + 1) (.ok k) → w.cell? ⟨bx, 0, none⟩ = some (.pointer (some ⟨pb, 0, none⟩)) → Calls Try.prog 76 #[.pointer (some ⟨bx, 0, none⟩)] w (POut w rb pb v ts s (o + 1) (f k)))
  {st : St} {w : World} (h : PS w rb pb v ts s o st) (hbx : w.cell? ⟨bx, 0, none⟩ = some (.pointer (some ⟨pb, 0, none⟩))) (hbp : pb < bx) :
  Calls Try.prog 75 #[.pointer (some ⟨pb, 0, none⟩), .func (.func 76) #[] #[.pointer (some ⟨bx, 0, none⟩)]] w (POut w rb pb v ts s o (st.bind f)) := by
 have G0 := hide (al w (.cells #[.int .i64 0, .string ⟨#[]⟩, .int .i64 0, .slice none 0 0] 51))
 have B0 := hide (blk_new w (.cells #[.int .i64 0, .string ⟨#[]⟩, .int .i64 0, .slice none 0 0] 51))
 have H0 := hide (h.chg G0.out (fun _ _ h => h))
 have hl := h.lt
 have hxl := World.block_lt_of_cell? w _ hbx
 dsimp only at hxl
 have HIN := hide hin
 have HF0 := hide hf0
 obtain ⟨A, hA⟩ : ∃ A, w.heap.size = A := ⟨_, rfl⟩
 have HL : Hid (rb < pb ∧ pb < bx ∧ bx < A ∧ w.heap.size = A) := hide ⟨hl.1, hbp, by omega, hA⟩
 have X0 := hide (G0.out.cell (fun h => h) hbx)
 rw [hA] at B0
 clear h hl hxl hin hA hbx hbp hf0
 cases st with
 | error x =>
   have H0' : Hid (PS (w.alloc (.cells #[.int .i64 0, .string ⟨#[]⟩, .int .i64 0, .slice none 0 0] 51)) rb pb v ts s o (Rz.st (St.bind (.error x : St) f))) := H0
   have RR : Hid (St.bind (.error x : St) f = .error x) := rfl
   go_enter Try.func75, Try.ntmps75
   go_wp2_with fail
   rw [HL.out.2.2.2]
   generalize w.alloc (.cells #[.int .i64 0, .string ⟨#[]⟩, .int .i64 0, .slice none 0 0] 51) = w1 at *
   refine (ok_err H0.out).mono ?_
   rintro e w' ⟨rfl, rfl⟩
   go_wp2_with fail
   refine (ok_err H0.out).mono ?_
   rintro e w' ⟨rfl, rfl⟩
   have G1 : Hid (Chg (Pw rb pb) w w1) := hide G0.out.none
   have b0 := blk_cell B0.out 0
   have b1 := blk_cell B0.out 1
   have b2 := blk_cell B0.out 2
   have b3 := blk_cell B0.out 3
   have f0 := blk_free B0.out 0
   have f1 := blk_free B0.out 1
   have f2 := blk_free B0.out 2
   have f3 := blk_free B0.out 3
   have NS := hide (nv_set B0.out (.int .i64 0) (.string ⟨#[]⟩) (.int .i64 0) (.slice none 0 0))
   have FS := hide (H0'.out.chg NS.out.2 (fun x hx e => by have h1 := HL.out; omega))
   have CS := hide (chg_fresh G1.out NS.out.2 (by have h1 := HL.out; omega))
   go_wp2_with fail
   generalize ((((w1.setCell ⟨A, 0, none⟩ (.int .i64 0)).setCell ⟨A, 1, none⟩ (.string ⟨#[]⟩)).setCell ⟨A, 2, none⟩ (.int .i64 0)).setCell ⟨A, 3, none⟩ (.slice none 0 0)) = wF at *
   have r0 := blk_cell NS.out.1 0
   have r1 := blk_cell NS.out.1 1
   have r2 := blk_cell NS.out.1 2
   have r3 := blk_cell NS.out.1 3
   refine bodyPost_ret (v := .agg #[.int .i64 0, .string ⟨#[]⟩, .int .i64 0, .slice none 0 0]) (by simp [results, Try.results75, go_sem, r0, r1, r2, r3]) rfl ?_
   exact ⟨⟨_, _, rfl, NV.leaf _ _ 0 ⟨#[]⟩ 0, fun q hq => by rw [RR.out] at hq; cases hq⟩, FS.out, CS.out⟩
 | ok k =>
   by_cases h60 : o = 60
   ·
    have e60 : ((o : Int) == 60) = true := by simp; omega
    have RR : Hid (St.bind (.ok k : St) f = .error (2, k)) := hide (HF0.out h60 k)
    clear h60
    go_enter Try.func75, Try.ntmps75
    go_wp2_with fail
    rw [HL.out.2.2.2]
    generalize w.alloc (.cells #[.int .i64 0, .string ⟨#[]⟩, .int .i64 0, .slice none 0 0] 51) = w1 at *
    obtain ⟨c0, c1, _, _, _, _⟩ := H0.out.cells
    refine (ok_ok H0.out).mono ?_
    rintro e w' ⟨rfl, rfl⟩
    go_wp2_with fail
    refine (fail_ok 2 (Or.inl rfl) H0.out).mono ?_
    rintro e w2 ⟨rfl, h2, g2⟩
    have H2 := hide h2
    have H2' : Hid (PS w2 rb pb v ts s o (Rz.st (St.bind (.ok k : St) f))) := hide (by rw [RR.out]; exact h2)
    have B2 := hide (g2.blkS (by have := HL.out; omega) B0.out)
    have G2 := hide (G0.out.none.trans (g2.mono (T := Pw rb pb) (fun x _ h => Or.inl h)))
    clear h2 g2 c0 c1
    go_wp2_with fail
    refine (ok_err H2.out).mono ?_
    rintro e w' ⟨rfl, rfl⟩
    have b0 := blk_cell B2.out 0
    have b1 := blk_cell B2.out 1
    have b2 := blk_cell B2.out 2
    have b3 := blk_cell B2.out 3
    have f0 := blk_free B2.out 0
    have f1 := blk_free B2.out 1
    have f2 := blk_free B2.out 2
    have f3 := blk_free B2.out 3
    have NS := hide (nv_set B2.out (.int .i64 0) (.string ⟨#[]⟩) (.int .i64 0) (.slice none 0 0))
    have FS := hide (H2'.out.chg NS.out.2 (fun x hx e => by have h1 := HL.out; omega))
    have CS := hide (chg_fresh G2.out NS.out.2 (by have h1 := HL.out; omega))
    go_wp2_with fail
    generalize ((((w2.setCell ⟨A, 0, none⟩ (.int .i64 0)).setCell ⟨A, 1, none⟩ (.string ⟨#[]⟩)).setCell ⟨A, 2, none⟩ (.int .i64 0)).setCell ⟨A, 3, none⟩ (.slice none 0 0)) = wF at *
    have r0 := blk_cell NS.out.1 0
    have r1 := blk_cell NS.out.1 1
    have r2 := blk_cell NS.out.1 2
    have r3 := blk_cell NS.out.1 3
    refine bodyPost_ret (v := .agg #[.int .i64 0, .string ⟨#[]⟩, .int .i64 0, .slice none 0 0]) (by simp [results, Try.results75, go_sem, r0, r1, r2, r3]) rfl ?_
    exact ⟨⟨_, _, rfl, NV.leaf _ _ 0 ⟨#[]⟩ 0, fun q hq => by rw [RR.out] at hq; cases hq⟩, FS.out, CS.out⟩
   ·
    have e60 : ((o : Int) == 60) = false := by simp; omega
    have hlt : o < 60 := by omega
    have IN := hide (HIN.out hlt)
    have eo1 : IntKind.i64.wrap ((o : Int) + 1) = (o : Int) + 1 := IntWalk.i64_in _ (by omega)
    have eo2 : IntKind.i64.wrap ((((o + 1 : Nat) : Int)) - 1) = (((o + 1 : Nat) : Int)) - 1 := IntWalk.i64_in _ (by omega)
    have EO := hide eo1
    have EO2 := hide eo2
    clear h60 eo1 eo2 HIN HF0
    go_enter Try.func75, Try.ntmps75
    go_wp2_with fail
    rw [HL.out.2.2.2]
    generalize w.alloc (.cells #[.int .i64 0, .string ⟨#[]⟩, .int .i64 0, .slice none 0 0] 51) = w1 at *
    obtain ⟨c0, c1, _, _, _, _⟩ := H0.out.cells
    refine (ok_ok H0.out).mono ?_
    rintro e w' ⟨rfl, rfl⟩
    go_wp2_with fail
    refine (ok_ok H0.out).mono ?_
    rintro e w' ⟨rfl, rfl⟩
    have f1 := blk_free H0.out.blk 1
    have H1 := hide (H0.out.opened (o' := o + 1) ((o : Int) + 1) (by omega))
    have GS := Chg.set w1 pb 1 (.int .i64 ((o : Int) + 1))
    have B1 := hide (GS.blkS (by have := HL.out; omega) B0.out)
    have G1 := hide (G0.out.none.trans (GS.mono (T := Pw rb pb) (fun x _ h => Or.inl h)))
    have X1 := hide (GS.cell (by have := HL.out; omega) X0.out)
    clear GS
    go_wp2_with fail
    generalize w1.setCell ⟨pb, 1, none⟩ (.int .i64 ((o : Int) + 1)) = w2 at *
    clear c0 c1 f1
    refine (IN.out w2 k H1.out X1.out).mono ?_
    rintro e w3 ⟨⟨u, n, rfl, hn, hq⟩, h3, g3⟩
    obtain ⟨na, nc, rfl, _⟩ := id hn
    have HQ := hide hq
    obtain ⟨n0, n1, n2, n3⟩ := n
    dsimp only [Nd.kind, Nd.word, Nd.at, Nd.kids] at *
    have GT := al w3 (.cells #[.int .i64 n0, .string n1, .int .i64 n2, .slice na n3.len nc] 51)
    have BT := hide (blk_new w3 (.cells #[.int .i64 n0, .string n1, .int .i64 n2, .slice na n3.len nc] 51))
    have H3 := hide (h3.chg GT (fun _ _ h => h))
    have HS3 : Hid (A < w3.heap.size ∧ w2.heap.size ≤ w3.heap.size ∧ A < w2.heap.size) := hide ⟨by have h1 := olt B1.out; have h3 := g3.size; omega, g3.size, olt B1.out⟩
    have N3 := hide ((hn.chg GT (fun _ _ h => h)).up (Y := fun x => w.heap.size ≤ x ∧ x < w3.heap.size ∧ x ≠ A) (fun x hx => ⟨by have h1 := HS3.out; have h2 := HL.out; omega, hx.2, by have h1 := HS3.out; omega⟩))
    have B3 := hide (GT.blk (g3.blkS (by have := HL.out; rintro (e | e) <;> omega) B1.out))
    have G3 := hide ((G1.out.trans g3).trans GT.none)
    obtain ⟨D, hD⟩ : ∃ D, w3.heap.size = D := ⟨_, rfl⟩
    have Z3 := hide (olt BT.out)
    rw [hD] at N3 BT Z3
    have DL : Hid (pb < D ∧ A < D) := hide (by have h1 := HS3.out; have h2 := HL.out; omega)
    clear h3 g3 GT hn hq
    have H4 := hide (H3.out.opened (o' := o) (o : Int) rfl)
    have c1 : (w3.alloc (.cells #[.int .i64 n0, .string n1, .int .i64 n2, .slice na n3.len nc] 51)).cell? ⟨pb, 1, none⟩ = some (.int .i64 ((o : Int) + 1)) := by have := H3.out.cells.2.1; simpa using this
    have f1 := blk_free H3.out.blk 1
    have GS := Chg.set (w3.alloc (.cells #[.int .i64 n0, .string n1, .int .i64 n2, .slice na n3.len nc] 51)) pb 1 (.int .i64 (o : Int))
    have B4 := hide (GS.blkS (by have := HL.out; omega) B3.out)
    have T4 := hide (GS.blkS (by have := DL.out; omega) BT.out)
    have G4 := hide (G3.out.trans (GS.mono (T := Pw rb pb) (fun x _ h => Or.inl h)))
    have N4 := hide (N3.out.chg GS (fun x hx e => by have h1 := hx.1; have h2 := HL.out; omega))
    have Z4 : Hid (D < ((w3.alloc (.cells #[.int .i64 n0, .string n1, .int .i64 n2, .slice na n3.len nc] 51)).setCell ⟨pb, 1, none⟩ (.int .i64 (o : Int))).heap.size ∧ D = w3.heap.size) := hide ⟨olt T4.out, hD.symm⟩
    have q0 := blk_cell T4.out 0
    have q1 := blk_cell T4.out 1
    have q2 := blk_cell T4.out 2
    have q3 := blk_cell T4.out 3
    simp only [gets] at q0 q1 q2 q3
    clear GS
    have b0 := blk_cell B4.out 0
    have b1 := blk_cell B4.out 1
    have b2 := blk_cell B4.out 2
    have b3 := blk_cell B4.out 3
    have f0 := blk_free B4.out 0
    have f1 := blk_free B4.out 1
    have f2 := blk_free B4.out 2
    have f3 := blk_free B4.out 3
    have NS := hide (nv_set B4.out (.int .i64 n0) (.string n1) (.int .i64 n2) (.slice na n3.len nc))
    have FS := hide (H4.out.chg NS.out.2 (fun x hx e => by have h1 := HL.out; omega))
    have CS := hide (chg_fresh G4.out NS.out.2 (by have h1 := HL.out; omega))
    go_wp2_with fail
    generalize ((((((w3.alloc (.cells #[.int .i64 n0, .string n1, .int .i64 n2, .slice na n3.len nc] 51)).setCell ⟨pb, 1, none⟩ (.int .i64 (o : Int))).setCell ⟨A, 0, none⟩ (.int .i64 n0)).setCell ⟨A, 1, none⟩ (.string n1)).setCell ⟨A, 2, none⟩ (.int .i64 n2)).setCell ⟨A, 3, none⟩ (.slice na n3.len nc)) = wF at *
    have r0 := blk_cell NS.out.1 0
    have r1 := blk_cell NS.out.1 1
    have r2 := blk_cell NS.out.1 2
    have r3 := blk_cell NS.out.1 3
    refine bodyPost_ret (v := .agg #[.int .i64 n0, .string n1, .int .i64 n2, .slice na n3.len nc]) (by simp [results, Try.results75, go_sem, r0, r1, r2, r3]) rfl ?_
    have N7 := N4.out.chg NS.out.2 (fun x hx e => hx.2.2 e)
    exact ⟨⟨_, _, rfl, N7.up (fun x hx => ⟨hx.1, by have h1 := NS.out.2.size; have h2 := Z4.out; omega⟩), HQ.out⟩, FS.out, CS.out⟩

set_option maxRecDepth 100000 in
set_option maxHeartbeats 8000000 in
theorem typ_step {rb pb : Nat} {v : Value} {ts : List Tok} {s : ByteArray} {o : Nat} (f : Nat → Rz Nd)
  (hop : ∀ w bx st, PS w rb pb v ts s o st → w.cell? ⟨bx, 0, none⟩ = some (.pointer (some ⟨pb, 0, none⟩)) → pb < bx → Calls Try.prog 75 #[.pointer (some ⟨pb, 0, none⟩), .func (.func 82) #[] #[.pointer (some ⟨bx, 0, none⟩)]] w (POut w rb pb v ts s o (st.bind f)))
  {st : St} {w : World} (h : PS w rb pb v ts s o st) :
  Calls Try.prog 43 #[.pointer (some ⟨pb, 0, none⟩)] w (POut w rb pb v ts s o (st.bind f)) := by
 have GB := al w (.cells #[.pointer (some ⟨pb, 0, none⟩)] 73)
 have BB := blk_new w (.cells #[.pointer (some ⟨pb, 0, none⟩)] 73)
 have GA := al (w.alloc (.cells #[.pointer (some ⟨pb, 0, none⟩)] 73)) (.cells #[.int .i64 0, .string ⟨#[]⟩, .int .i64 0, .slice none 0 0] 51)
 have BA := blk_new (w.alloc (.cells #[.pointer (some ⟨pb, 0, none⟩)] 73)) (.cells #[.int .i64 0, .string ⟨#[]⟩, .int .i64 0, .slice none 0 0] 51)
 rw [al_sz] at BA
 have G0 := hide (GB.trans GA)
 have B0 := hide BA
 have x0 := blk_cell (GA.blk BB) 0
 simp only [List.getElem?_toArray, List.getElem?_cons_zero] at x0
 have H0 := hide (h.chg G0.out (fun _ _ h => h))
 have hl := h.lt
 have HOP := hide (hop _ w.heap.size st H0.out x0 hl.2)
 obtain ⟨A, hA⟩ : ∃ A, w.heap.size + 1 = A := ⟨_, rfl⟩
 have HL : Hid (rb < pb ∧ pb < A ∧ w.heap.size + 1 = A) := hide ⟨hl.1, by omega, hA⟩
 rw [hA] at B0
 clear h hl hA GB BB GA BA hop
 generalize st.bind f = R at *
 go_enter Try.func43, Try.ntmps43
 go_wp2_with fail
 rw [HL.out.2.2]
 generalize (w.alloc (.cells #[.pointer (some ⟨pb, 0, none⟩)] 73)).alloc (.cells #[.int .i64 0, .string ⟨#[]⟩, .int .i64 0, .slice none 0 0] 51) = w1 at *
 refine HOP.out.mono ?_
 rintro e w2 ⟨⟨u, n, rfl, hn, hq⟩, h2, g2⟩
 obtain ⟨na, nc, rfl, _⟩ := id hn
 have HQ := hide hq
 obtain ⟨n0, n1, n2, n3⟩ := n
 dsimp only [Nd.kind, Nd.word, Nd.at, Nd.kids] at *
 have H2 := hide h2
 have HA1 : Hid (A < w1.heap.size) := hide (olt B0.out)
 have N2 := hide (hn.up (Y := fun x => w.heap.size ≤ x ∧ x < w2.heap.size ∧ x ≠ A) (fun x hx => ⟨by have h1 := HA1.out; have h2 := HL.out; omega, hx.2, by have h1 := HA1.out; omega⟩))
 have B2 := hide (g2.blkS (by have := HL.out; rintro (e | e) <;> omega) B0.out)
 have G2 := hide (G0.out.none.trans g2)
 clear h2 g2 hn hq HOP
 have b0 := blk_cell B2.out 0
 have b1 := blk_cell B2.out 1
 have b2 := blk_cell B2.out 2
 have b3 := blk_cell B2.out 3
 have f0 := blk_free B2.out 0
 have f1 := blk_free B2.out 1
 have f2 := blk_free B2.out 2
 have f3 := blk_free B2.out 3
 have NS := hide (nv_set B2.out (.int .i64 n0) (.string n1) (.int .i64 n2) (.slice na n3.len nc))
 have FS := hide (H2.out.chg NS.out.2 (fun x hx e => by have h1 := HL.out; omega))
 have CS := hide (chg_fresh G2.out NS.out.2 (by have h1 := HL.out; omega))
 go_wp2_with fail
 generalize ((((w2.setCell ⟨A, 0, none⟩ (.int .i64 n0)).setCell ⟨A, 1, none⟩ (.string n1)).setCell ⟨A, 2, none⟩ (.int .i64 n2)).setCell ⟨A, 3, none⟩ (.slice na n3.len nc)) = wF at *
 have r0 := blk_cell NS.out.1 0
 have r1 := blk_cell NS.out.1 1
 have r2 := blk_cell NS.out.1 2
 have r3 := blk_cell NS.out.1 3
 refine bodyPost_ret (v := .agg #[.int .i64 n0, .string n1, .int .i64 n2, .slice na n3.len nc]) (by simp [results, Try.results43, go_sem, r0, r1, r2, r3]) rfl ?_
 have N7 := N2.out.chg NS.out.2 (fun x hx e => hx.2.2 e)
 exact ⟨⟨_, _, rfl, N7.up (fun x hx => ⟨hx.1, by have h1 := NS.out.2.size; omega⟩), HQ.out⟩, FS.out, CS.out⟩

set_option maxRecDepth 100000 in
set_option maxHeartbeats 8000000 in
theorem term_step {rb pb : Nat} {v : Value} {ts : List Tok} {s : ByteArray} {o : Nat} (f : Nat → Rz Nd)
  (hop : ∀ w bx st, PS w rb pb v ts s o st → w.cell? ⟨bx, 0, none⟩ = some (.pointer (some ⟨pb, 0, none⟩)) → pb < bx → Calls Try.prog 75 #[.pointer (some ⟨pb, 0, none⟩), .func (.func 76) #[] #[.pointer (some ⟨bx, 0, none⟩)]] w (POut w rb pb v ts s o (st.bind f)))
  {st : St} {w : World} (h : PS w rb pb v ts s o st) :
  Calls Try.prog 40 #[.pointer (some ⟨pb, 0, none⟩)] w (POut w rb pb v ts s o (st.bind f)) := by
 have GB := al w (.cells #[.pointer (some ⟨pb, 0, none⟩)] 73)
 have BB := blk_new w (.cells #[.pointer (some ⟨pb, 0, none⟩)] 73)
 have GA := al (w.alloc (.cells #[.pointer (some ⟨pb, 0, none⟩)] 73)) (.cells #[.int .i64 0, .string ⟨#[]⟩, .int .i64 0, .slice none 0 0] 51)
 have BA := blk_new (w.alloc (.cells #[.pointer (some ⟨pb, 0, none⟩)] 73)) (.cells #[.int .i64 0, .string ⟨#[]⟩, .int .i64 0, .slice none 0 0] 51)
 rw [al_sz] at BA
 have G0 := hide (GB.trans GA)
 have B0 := hide BA
 have x0 := blk_cell (GA.blk BB) 0
 simp only [List.getElem?_toArray, List.getElem?_cons_zero] at x0
 have H0 := hide (h.chg G0.out (fun _ _ h => h))
 have hl := h.lt
 have HOP := hide (hop _ w.heap.size st H0.out x0 hl.2)
 obtain ⟨A, hA⟩ : ∃ A, w.heap.size + 1 = A := ⟨_, rfl⟩
 have HL : Hid (rb < pb ∧ pb < A ∧ w.heap.size + 1 = A) := hide ⟨hl.1, by omega, hA⟩
 rw [hA] at B0
 clear h hl hA GB BB GA BA hop
 generalize st.bind f = R at *
 go_enter Try.func40, Try.ntmps40
 go_wp2_with fail
 rw [HL.out.2.2]
 generalize (w.alloc (.cells #[.pointer (some ⟨pb, 0, none⟩)] 73)).alloc (.cells #[.int .i64 0, .string ⟨#[]⟩, .int .i64 0, .slice none 0 0] 51) = w1 at *
 refine HOP.out.mono ?_
 rintro e w2 ⟨⟨u, n, rfl, hn, hq⟩, h2, g2⟩
 obtain ⟨na, nc, rfl, _⟩ := id hn
 have HQ := hide hq
 obtain ⟨n0, n1, n2, n3⟩ := n
 dsimp only [Nd.kind, Nd.word, Nd.at, Nd.kids] at *
 have H2 := hide h2
 have HA1 : Hid (A < w1.heap.size) := hide (olt B0.out)
 have N2 := hide (hn.up (Y := fun x => w.heap.size ≤ x ∧ x < w2.heap.size ∧ x ≠ A) (fun x hx => ⟨by have h1 := HA1.out; have h2 := HL.out; omega, hx.2, by have h1 := HA1.out; omega⟩))
 have B2 := hide (g2.blkS (by have := HL.out; rintro (e | e) <;> omega) B0.out)
 have G2 := hide (G0.out.none.trans g2)
 clear h2 g2 hn hq HOP
 have b0 := blk_cell B2.out 0
 have b1 := blk_cell B2.out 1
 have b2 := blk_cell B2.out 2
 have b3 := blk_cell B2.out 3
 have f0 := blk_free B2.out 0
 have f1 := blk_free B2.out 1
 have f2 := blk_free B2.out 2
 have f3 := blk_free B2.out 3
 have NS := hide (nv_set B2.out (.int .i64 n0) (.string n1) (.int .i64 n2) (.slice na n3.len nc))
 have FS := hide (H2.out.chg NS.out.2 (fun x hx e => by have h1 := HL.out; omega))
 have CS := hide (chg_fresh G2.out NS.out.2 (by have h1 := HL.out; omega))
 go_wp2_with fail
 generalize ((((w2.setCell ⟨A, 0, none⟩ (.int .i64 n0)).setCell ⟨A, 1, none⟩ (.string n1)).setCell ⟨A, 2, none⟩ (.int .i64 n2)).setCell ⟨A, 3, none⟩ (.slice na n3.len nc)) = wF at *
 have r0 := blk_cell NS.out.1 0
 have r1 := blk_cell NS.out.1 1
 have r2 := blk_cell NS.out.1 2
 have r3 := blk_cell NS.out.1 3
 refine bodyPost_ret (v := .agg #[.int .i64 n0, .string n1, .int .i64 n2, .slice na n3.len nc]) (by simp [results, Try.results40, go_sem, r0, r1, r2, r3]) rfl ?_
 have N7 := N2.out.chg NS.out.2 (fun x hx e => hx.2.2 e)
 exact ⟨⟨_, _, rfl, N7.up (fun x hx => ⟨hx.1, by have h1 := NS.out.2.size; omega⟩), HQ.out⟩, FS.out, CS.out⟩

theorem typ_any {rb pb : Nat} {v : Value} {ts : List Tok} {s : ByteArray} : ∀ (n o : Nat), o + n = 60 → ∀ (st : St) (w : World), PS w rb pb v ts s o st →
  Calls Try.prog 43 #[.pointer (some ⟨pb, 0, none⟩)] w (POut w rb pb v ts s o (st.bind (typS ts s n)))
 | 0, o, ho, st, w, h => typ_step (typS ts s 0) (fun w bx st h hb hp => opened_typ (by omega) (typS ts s 0) (fun _ k => rfl) (fun hlt => absurd hlt (by omega)) h hb hp) h
 | n + 1, o, ho, st, w, h => typ_step (typS ts s (n + 1)) (fun w bx st h hb hp => opened_typ (by omega) (typS ts s (n + 1)) (fun e => absurd e (by omega))
    (fun hlt w k h hb => typ1_any (typS ts s n) (fun w k h => typ_any n (o + 1) (by omega) (.ok k) w h) h hb hp) h hb hp) h
end Go.Proofs.Ytboeeaekhijboaa
namespace Go.Proofs.Ytboeeaekhijboaa
open Go.RowKit
set_option linter.unusedVariables false
set_option linter.unusedSimpArgs false

theorem bLp_l : bLp.toList = [40] := by kernel_rfl
def partV (ts : List Tok) (s : ByteArray) : St → Bool
 | .ok k => partB ts s k
 | .error _ => false

set_option maxRecDepth 100000 in
set_option maxHeartbeats 4000000 in
theorem part_any {rb pb : Nat} {v : Value} {ts : List Tok} {s : ByteArray} {o : Nat} {st : St} {w : World} (h : PS w rb pb v ts s o st) :
  Calls Try.prog 80 #[.pointer (some ⟨pb, 0, none⟩)] w fun e w' => e = .returned (.bool (partV ts s st)) ∧ Chg (fun _ => False) w w' := by
 have HP := hide h
 obtain ⟨c0, c1, _, _, _, _⟩ := h.cells
 have PK := hide (fun w' (h : PS w' rb pb v ts s o st) => peek_some rb rb v ts s st.pos 0 h.le (by have := h.env.len; omega) (by have := h.env.size; omega) w' h.rd h.tks)
 obtain ⟨t, ht⟩ : ∃ t, tokAt ts s st.pos 0 = t := ⟨_, rfl⟩
 have HT := hide ht
 rw [ht] at PK
 clear h ht
 obtain ⟨t0, t1, t2⟩ := t
 have etv : tokV (t0, t1, t2) = .agg #[.int .i64 t0, .string t1, .int .i64 (t2 : Int)] := rfl
 rw [etv] at PK
 clear etv
 go_enter Try.func80, Try.ntmps80
 go_wp2_with fail
 refine (PK.out w HP.out).mono ?_
 rintro e w2 ⟨rfl, g2⟩
 have G3 := hide (g2.trans (al w2 (.cells #[.int .i64 t0, .string t1, .int .i64 (t2 : Int)] 75)))
 have B3 := hide (blk_new w2 (.cells #[.int .i64 t0, .string t1, .int .i64 (t2 : Int)] 75))
 have H3 := hide (HP.out.chg G3.out (fun _ _ h => h))
 clear g2
 obtain ⟨A, hA⟩ : ∃ A, w2.heap.size = A := ⟨_, rfl⟩
 rw [hA] at B3
 go_wp2_with fail
 clear hA
 generalize w2.alloc (.cells #[.int .i64 t0, .string t1, .int .i64 (t2 : Int)] 75) = w3 at *
 have q0 := blk_cell B3.out 0
 have q1 := blk_cell B3.out 1
 simp only [gets] at q0 q1
 cases st with
 | error x =>
   refine (ok_err H3.out).mono ?_
   rintro e w' ⟨rfl, rfl⟩
   go_wp2_with fail
   go_ret
   exact ⟨rfl, G3.out⟩
 | ok k =>
   have HV : Hid (partV ts s (.ok k) = ((t0 == 1) || ((t0 == 3) && (t1.toList == bLp.toList)))) := hide (by
    have e : tokAt ts s k 0 = (t0, t1, t2) := HT.out
    show partB ts s k = _
    unfold partB
    rw [e])
   refine (ok_ok H3.out).mono ?_
   rintro e w' ⟨rfl, rfl⟩
   cases e1 : (t0 == 1)
   ·
    cases e3 : (t0 == 3)
    ·
     go_wp2_with fail
     go_ret
     exact ⟨ret_bool (by rw [HV.out, e1, e3]; rfl), G3.out⟩
    ·
     cases ex : (t1.toList == ([40] : List UInt8))
     ·
      go_wp2_with fail
      go_ret
      exact ⟨ret_bool (by rw [HV.out, e1, e3]; rw [bLp_l, ex]; rfl), G3.out⟩
     ·
      go_wp2_with fail
      go_ret
      exact ⟨ret_bool (by rw [HV.out, e1, e3]; rw [bLp_l, ex]; rfl), G3.out⟩
   ·
    go_wp2_with fail
    go_ret
    exact ⟨ret_bool (by rw [HV.out, e1]; rfl), G3.out⟩
end Go.Proofs.Ytboeeaekhijboaa
namespace Go.Proofs.Ytboeeaekhijboaa
open Go.RowKit
set_option linter.unusedVariables false
set_option linter.unusedSimpArgs false

theorem lam_law (ts : List Tok) (s : ByteArray) (typ term : Nat → Rz Nd) (at0 : Int) (st : St) (a b : Nd)
  (ha : ∀ q, (((st.bind (tokS ts s 1)).st.then (mustS ts s bColon)).bind typ) = .ok q → a = q.1)
  (hb : ∀ q, (((((st.bind (tokS ts s 1)).st.then (mustS ts s bColon)).bind typ).st.then (mustS ts s bDot)).bind term) = .ok q → b = q.1) :
  (((((st.bind (tokS ts s 1)).st.then (mustS ts s bColon)).bind typ).st.then (mustS ts s bDot)).bind term).st = (st.bind (lamS ts s typ term at0)).st ∧
    ∀ q, st.bind (lamS ts s typ term at0) = .ok q → ((3, (tokOf (st.bind (tokS ts s 1))).2.1, at0, twoN a b) : Nd) = q.1 := by
 cases st with
 | error x => exact ⟨rfl, fun q hq => by cases hq⟩
 | ok k =>
   simp only [St.bind, lamS] at ha hb ⊢
   cases e1 : tokS ts s 1 k with
   | error x => exact ⟨rfl, fun q hq => by cases hq⟩
   | ok q1 =>
     rw [e1] at ha hb
     simp only [Rz.bind, Rz.st, St.then, tokOf] at ha hb ⊢
     cases e2 : mustS ts s bColon q1.2 with
     | error x => exact ⟨rfl, fun q hq => by cases hq⟩
     | ok k2 =>
       rw [e2] at ha hb
       simp only [St.bind] at ha hb ⊢
       cases e3 : typ k2 with
       | error x => exact ⟨rfl, fun q hq => by cases hq⟩
       | ok q3 =>
         rw [e3] at ha hb
         have ea := ha q3 rfl
         simp only [Rz.bind, Rz.st, St.then] at hb ⊢
         cases e4 : mustS ts s bDot q3.2 with
         | error x => exact ⟨rfl, fun q hq => by cases hq⟩
         | ok k4 =>
           rw [e4] at hb
           simp only [St.bind] at hb ⊢
           cases e5 : term k4 with
           | error x => exact ⟨rfl, fun q hq => by cases hq⟩
           | ok q5 =>
             rw [e5] at hb
             have eb := hb q5 rfl
             exact ⟨rfl, fun q hq => by cases hq; rw [ea, eb]⟩

set_option maxRecDepth 100000 in
set_option maxHeartbeats 8000000 in
theorem lam_any {rb pb : Nat} {v : Value} {ts : List Tok} {s : ByteArray} {o : Nat} (typ term : Nat → Rz Nd)
  (hty : ∀ (st : St) (w : World), PS w rb pb v ts s o st → Calls Try.prog 43 #[.pointer (some ⟨pb, 0, none⟩)] w (POut w rb pb v ts s o (st.bind typ)))
  (hte : ∀ (st : St) (w : World), PS w rb pb v ts s o st → Calls Try.prog 40 #[.pointer (some ⟨pb, 0, none⟩)] w (POut w rb pb v ts s o (st.bind term)))
  (at0 : Int) {st : St} {w : World} (h : PS w rb pb v ts s o st) :
  Calls Try.prog 78 #[.pointer (some ⟨pb, 0, none⟩), .int .i64 at0] w (POut w rb pb v ts s o (st.bind (lamS ts s typ term at0))) := by
 have G0 := hide (al w (.cells #[.int .i64 0, .string ⟨#[]⟩, .int .i64 0, .slice none 0 0] 51))
 have B0 := hide (blk_new w (.cells #[.int .i64 0, .string ⟨#[]⟩, .int .i64 0, .slice none 0 0] 51))
 have H0 := hide (h.chg G0.out (fun _ _ h => h))
 have hl := h.lt
 have HTY := hide hty
 have HTE := hide hte
 have LAW := hide (fun a b ha hb => lam_law ts s typ term at0 st a b ha hb)
 obtain ⟨A, hA⟩ : ∃ A, w.heap.size = A := ⟨_, rfl⟩
 have HL : Hid (rb < pb ∧ pb < A ∧ w.heap.size = A) := hide ⟨hl.1, by omega, hA⟩
 have WD := hide (word_any H0.out)
 rw [hA] at B0
 clear h hl hA hty hte
 generalize st.bind (lamS ts s typ term at0) = R at *
 generalize st.bind (tokS ts s 1) = r1 at *
 obtain ⟨w1, hw1⟩ : ∃ w1, (tokOf r1).2.1 = w1 := ⟨_, rfl⟩
 rw [hw1] at WD LAW
 clear hw1
 go_enter Try.func78, Try.ntmps78
 go_wp2_with fail
 rw [HL.out.2.2]
 generalize w.alloc (.cells #[.int .i64 0, .string ⟨#[]⟩, .int .i64 0, .slice none 0 0] 51) = v1 at *
 refine WD.out.mono ?_
 rintro e v2 ⟨rfl, h2, g2⟩
 have GD := al v2 (.cells #[.int .i64 3, .string w1, .int .i64 at0, .slice none 0 0] 51)
 have D2 := hide (blk_new v2 (.cells #[.int .i64 3, .string w1, .int .i64 at0, .slice none 0 0] 51))
 have H2 := hide (h2.chg GD (fun _ _ h => h))
 have B2 := hide (GD.blk (g2.blkS (by have := HL.out; rintro (e | e) <;> omega) B0.out))
 have G2 := hide ((G0.out.none.trans g2).trans GD.none)
 obtain ⟨D, hD⟩ : ∃ D, v2.heap.size = D := ⟨_, rfl⟩
 have DL : Hid (A < D ∧ rb < pb ∧ pb < A ∧ w.heap.size = A) := hide ⟨by have h1 := olt (g2.blkS (by have := HL.out; rintro (e | e) <;> omega) B0.out); omega, HL.out⟩
 rw [hD] at D2
 clear h2 g2 GD WD
 have MC := hide (must_any bColon H2.out)
 generalize r1.st.then (mustS ts s bColon) = st2 at *
 go_wp2_with fail
 clear hD
 generalize v2.alloc (.cells #[.int .i64 3, .string w1, .int .i64 at0, .slice none 0 0] 51) = v3 at *
 refine MC.out.mono ?_
 rintro e v4 ⟨rfl, h4, g4⟩
 have H4 := hide h4
 have B4 := hide (g4.blkS (by have := HL.out; rintro (e | e) <;> omega) B2.out)
 have D4 := hide (g4.blkS (by have := DL.out; rintro (e | e) <;> omega) D2.out)
 have G4 := hide (G2.out.trans g4)
 clear h4 g4 MC
 have TY := hide (HTY.out st2 v4 H4.out)
 generalize st2.bind typ = r3 at *
 go_wp2_with fail
 refine TY.out.mono ?_
 rintro e v5 ⟨⟨u, a, rfl, ha, hqa⟩, h5, g5⟩
 obtain ⟨aa, ac, rfl, _⟩ := id ha
 obtain ⟨a0, a1, a2, a3⟩ := a
 dsimp only [Nd.kind, Nd.word, Nd.at, Nd.kids] at *
 have GE := al v5 (.cells #[.int .i64 a0, .string a1, .int .i64 a2, .slice aa a3.len ac] 51)
 have E5 := hide (blk_new v5 (.cells #[.int .i64 a0, .string a1, .int .i64 a2, .slice aa a3.len ac] 51))
 have H5 := hide (h5.chg GE (fun _ _ h => h))
 have B5 := hide (GE.blk (g5.blkS (by have := HL.out; rintro (e | e) <;> omega) B4.out))
 have D5 := hide (GE.blk (g5.blkS (by have := DL.out; rintro (e | e) <;> omega) D4.out))
 have G5 := hide ((G4.out.trans g5).trans GE.none)
 obtain ⟨E, hE⟩ : ∃ E, v5.heap.size = E := ⟨_, rfl⟩
 have EL : Hid (D < E) := hide (by have h1 := olt (g5.blkS (by have := DL.out; rintro (e | e) <;> omega) D4.out); omega)
 have SZ4 : Hid (D < v4.heap.size) := hide (olt D4.out)
 have NA := hide ((ha.chg GE (fun _ _ h => h)).up (Y := fun x => D < x ∧ x < E) (fun x hx => ⟨by have := SZ4.out; omega, by omega⟩))
 rw [hE] at E5
 clear h5 g5 GE TY ha
 have MD := hide (must_any bDot H5.out)
 have LAW2 := hide (fun b hb => LAW.out (a0, a1, a2, a3) b hqa hb)
 clear LAW hqa
 generalize r3.st.then (mustS ts s bDot) = st4 at *
 go_wp2_with fail
 clear hE
 generalize v5.alloc (.cells #[.int .i64 a0, .string a1, .int .i64 a2, .slice aa a3.len ac] 51) = v6 at *
 refine MD.out.mono ?_
 rintro e v7 ⟨rfl, h7, g7⟩
 have H7 := hide (h7.chg (Chg.refl (fun _ => False) v7).drew (fun _ _ h => h))
 have B7 := hide (g7.blkS (by have := HL.out; rintro (e | e) <;> omega) B5.out)
 have D7 := hide (g7.blkS (by have := DL.out; rintro (e | e) <;> omega) D5.out)
 have E7 := hide (g7.blkS (by have := DL.out; have := EL.out; rintro (e | e) <;> omega) E5.out)
 have G7 := hide ((G5.out.trans g7).drew)
 have NA7 := hide ((NA.out.chg g7 (fun x hx e => by have := hx.1; have := DL.out; rcases e with e | e <;> omega)).chg (Chg.refl (fun _ => False) v7).drew (fun _ _ h => h))
 clear h7 g7 MD NA
 have TE := hide (HTE.out st4 v7.drew H7.out)
 generalize st4.bind term = r5 at *
 have p0 := blk_cell E7.out 0
 have p1 := blk_cell E7.out 1
 have p2 := blk_cell E7.out 2
 have p3 := blk_cell E7.out 3
 simp only [gets] at p0 p1 p2 p3
 go_wp2_with fail
 refine wp_region_held_drew (S := (fun w' => w'.cell? ⟨E, 0, none⟩ = some (.int .i64 a0) ∧ w'.cell? ⟨E, 1, none⟩ = some (.string a1) ∧ w'.cell? ⟨E, 2, none⟩ = some (.int .i64 a2) ∧ w'.cell? ⟨E, 3, none⟩ = some (.slice aa a3.len ac))) (by kernel_rfl) (by go_keep) (fun hHeld => ?_)
 first
  | (refine tku 0 ?_)
  | (refine tkl 0 ?_ ?_ ?_
     rotate_left
     (intro w hSw
      (try dsimp only at hSw)
      (go_simp <;> with_reducible rfl)))
 try simp only [Act.put, puts]
 first
  | (refine tku 1 ?_)
  | (refine tkl 1 ?_ ?_ ?_
     rotate_left
     (intro w hSw
      (try dsimp only at hSw)
      (go_simp <;> with_reducible rfl)))
 try simp only [Act.put, puts]
 refine rd1 2 (fun K hK => ?_)
 go_simp
 refine TE.out.mono ?_
 rintro e v8 ⟨⟨u, m, rfl, hm, hqm⟩, h8, g8⟩
 obtain ⟨ma, mc, rfl, _⟩ := id hm
 have LW := hide (LAW2.out m hqm)
 clear LAW2 hqm
 obtain ⟨m0, m1, m2, m3⟩ := m
 dsimp only [Nd.kind, Nd.word, Nd.at, Nd.kids] at *
 have hv7 : v7.drew.heap.size = v7.heap.size := rfl
 have E8 := hide (g8.blkS (by have := DL.out; have := EL.out; rintro (e | e) <;> omega) E7.out)
 have GF := al v8 (.cells #[.int .i64 a0, .string a1, .int .i64 a2, .slice aa a3.len ac, .int .i64 m0, .string m1, .int .i64 m2, .slice ma m3.len mc] 51)
 have BF := hide (blk_new v8 (.cells #[.int .i64 a0, .string a1, .int .i64 a2, .slice aa a3.len ac, .int .i64 m0, .string m1, .int .i64 m2, .slice ma m3.len mc] 51))
 have H9 := hide (h8.chg GF (fun _ _ h => h))
 rw [LW.out.1] at H9
 have B9 := hide (GF.blk (g8.blkS (by have := HL.out; rintro (e | e) <;> omega) B7.out))
 have D9 := hide (GF.blk (g8.blkS (by have := DL.out; rintro (e | e) <;> omega) D7.out))
 have E9 := hide (GF.blk E8.out)
 have G9 := hide ((G7.out.trans g8).trans GF.none)
 have hE7 := olt E7.out
 have hE8 := olt E8.out
 have NA := ((NA7.out.chg g8 (fun x hx e => by have := hx.1; have := DL.out; rcases e with e | e <;> omega)).chg GF (fun _ _ h => h)).up (Y := fun x => D < x ∧ x < v8.heap.size + 1) (fun x hx => ⟨hx.1, by omega⟩)
 have NB := (hm.chg GF (fun _ _ h => h)).up (Y := fun x => D < x ∧ x < v8.heap.size + 1) (fun x hx => ⟨by have := EL.out; omega, by omega⟩)
 obtain ⟨_, _, ea, NA⟩ := NA
 obtain ⟨_, _, eb, NB⟩ := NB
 have N9 := hide (nv_two (X := fun x => D < x ∧ x < v8.heap.size + 1) (g := v8.heap.size) (n := (a0, a1, a2, a3)) (m := (m0, m1, m2, m3)) 3 at0 ⟨by have := EL.out; omega, by omega⟩ BF.out (by cases ea; exact NA) (by cases eb; exact NB))
 have y0 := blk_cell E8.out 0
 have y1 := blk_cell E8.out 1
 have y2 := blk_cell E8.out 2
 have y3 := blk_cell E8.out 3
 have z0 := blk_cell E9.out 0
 have z1 := blk_cell E9.out 1
 have z2 := blk_cell E9.out 2
 have z3 := blk_cell E9.out 3
 simp only [gets] at y0 y1 y2 y3 z0 z1 z2 z3
 clear h8 g8 GF hm NA NB ea eb hv7 hE7 hE8
 go_simp
 refine hK.out _ _ ⟨y0, y1, y2, y3⟩ (fun hHeld => ?_)
 clear hK K
 try simp only [Act.put, puts]
 refine rd1 3 (fun K hK => ?_)
 go_simp
 refine hK.out _ _ ⟨z0, z1, z2, z3⟩ (fun hHeld => ?_)
 clear hK K
 try simp only [Act.put, puts]
 clear y0 y1 y2 y3
 obtain ⟨F, hF⟩ : ∃ F, v8.heap.size = F := ⟨_, rfl⟩
 rw [hF] at N9 BF ⊢
 have SZ9 : Hid (F + 1 = (v8.alloc (.cells #[.int .i64 a0, .string a1, .int .i64 a2, .slice aa a3.len ac, .int .i64 m0, .string m1, .int .i64 m2, .slice ma m3.len mc] 51)).heap.size) := hide (by rw [al_sz]; omega)
 clear hF
 generalize v8.alloc (.cells #[.int .i64 a0, .string a1, .int .i64 a2, .slice aa a3.len ac, .int .i64 m0, .string m1, .int .i64 m2, .slice ma m3.len mc] 51) = v9 at *
 first
  | (refine tku 4 ?_)
  | (refine tkl 4 ?_ ?_ ?_
     rotate_left
     (intro w hSw
      (try dsimp only at hSw)
      (go_simp <;> with_reducible rfl)))
 try simp only [Act.put, puts]
 refine rd1 5 (fun K hK => ?_)
 have d0 := blk_cell D9.out 3
 have d1 := blk_free D9.out 3
 have DS := hide (blk_set D9.out 3 (.slice (some ⟨F, 0, none⟩) 2 2))
 have GS := Chg.set v9 D 3 (.slice (some ⟨F, 0, none⟩) 2 2)
 have HS := hide (H9.out.chg GS (fun x hx e => by have h1 := DL.out; omega))
 have BS := hide (GS.blkS (by have := DL.out; omega) B9.out)
 have CS1 := hide (chg_fresh G9.out GS (by have h1 := DL.out; omega))
 have NS1 := hide (N9.out.chg GS (fun x hx e => by have := hx.1; omega))
 have SZ10 : Hid (F + 1 ≤ (v9.setCell ⟨D, 3, none⟩ (.slice (some ⟨F, 0, none⟩) 2 2)).heap.size) := hide (by have := SZ9.out; have := GS.size; omega)
 have v0 := GS.cell (by have := EL.out; omega) z0
 have v1 := GS.cell (by have := EL.out; omega) z1
 have v2 := GS.cell (by have := EL.out; omega) z2
 have v3 := GS.cell (by have := EL.out; omega) z3
 clear GS
 go_simp
 refine hK.out _ _ ⟨v0, v1, v2, v3⟩ (fun hHeld => ?_)
 clear hK K
 try simp only [Act.put, puts]
 refine wpAnyH_done (by kernel_rfl) ?_ _
 have q0 := blk_cell DS.out 0
 have q1 := blk_cell DS.out 1
 have q2 := blk_cell DS.out 2
 have q3 := blk_cell DS.out 3
 simp only [List.getElem?_toArray, List.getElem?_cons_zero, List.getElem?_cons_succ, List.setIfInBounds_toArray, List.set_cons_zero, List.set_cons_succ] at q0 q1 q2 q3
 have b0 := blk_cell BS.out 0
 have b1 := blk_cell BS.out 1
 have b2 := blk_cell BS.out 2
 have b3 := blk_cell BS.out 3
 have f0 := blk_free BS.out 0
 have f1 := blk_free BS.out 1
 have f2 := blk_free BS.out 2
 have f3 := blk_free BS.out 3
 have NS := hide (nv_set BS.out (.int .i64 3) (.string w1) (.int .i64 at0) (.slice (some ⟨F, 0, none⟩) 2 2))
 have FS := hide (HS.out.chg NS.out.2 (fun x hx e => by have h1 := HL.out; omega))
 have CS := hide (chg_fresh CS1.out NS.out.2 (by have h1 := HL.out; omega))
 go_wp2_with fail
 generalize (((((v9.setCell ⟨D, 3, none⟩ (.slice (some ⟨F, 0, none⟩) 2 2)).setCell ⟨A, 0, none⟩ (.int .i64 3)).setCell ⟨A, 1, none⟩ (.string w1)).setCell ⟨A, 2, none⟩ (.int .i64 at0)).setCell ⟨A, 3, none⟩ (.slice (some ⟨F, 0, none⟩) 2 2)) = wF at *
 have r0 := blk_cell NS.out.1 0
 have r1 := blk_cell NS.out.1 1
 have r2 := blk_cell NS.out.1 2
 have r3 := blk_cell NS.out.1 3
 refine bodyPost_ret (v := .agg #[.int .i64 3, .string w1, .int .i64 at0, .slice (some ⟨F, 0, none⟩) 2 2]) (by simp [results, Try.results78, go_sem, r0, r1, r2, r3]) rfl ?_
 have N7 := NS1.out.chg NS.out.2 (fun x hx e => by have := hx.1; have := DL.out; omega)
 obtain ⟨ka, kc, ek, N7⟩ := N7
 have N8 : NV wF (fun x => w.heap.size ≤ x ∧ x < wF.heap.size) (.agg #[.int .i64 3, .string w1, .int .i64 at0, .slice (some ⟨F, 0, none⟩) 2 2]) (3, w1, at0, twoN (a0, a1, a2, a3) (m0, m1, m2, m3)) := ⟨_, 2, rfl, (show Ts wF _ (.slice (some ⟨F, 0, none⟩) 2 2) (twoN (a0, a1, a2, a3) (m0, m1, m2, m3)) by cases ek; exact N7).up (fun x hx => ⟨by have := DL.out; omega, by have h1 := NS.out.2.size; have h2 := SZ10.out; omega⟩)⟩
 exact ⟨⟨_, _, rfl, N8, LW.out.2⟩, FS.out, CS.out⟩
end Go.Proofs.Ytboeeaekhijboaa
