/- The program's parser: opened, typ. -/
import Derived.Test.YtboeeaekhijboaaPtyp
namespace Go.Proofs.Ytboeeaekhijboaa
open Go.RowKit
set_option linter.unusedVariables false
set_option linter.unusedSimpArgs false

set_option maxRecDepth 100000 in
set_option maxHeartbeats 8000000 in
theorem opened_typ {rb pb bx : Nat} {v : Value} {ts : List Tok} {s : ByteArray} {o : Nat} (ho : o ≤ 60) (f : Nat → Rz Nd) (hf0 : o = 60 → ∀ k, f k = .error (2, k))
    (hin : o < 60 → ∀ w k, PS w rb pb v ts s (o + 1) (.ok k) → w.cell? ⟨bx, 0, none⟩ = some (.pointer (some ⟨pb, 0, none⟩)) → Calls Try.prog 82 #[.pointer (some ⟨bx, 0, none⟩)] w (POut w rb pb v ts s (o + 1) (f k)))
    {st : St} {w : World} (h : PS w rb pb v ts s o st) (hbx : w.cell? ⟨bx, 0, none⟩ = some (.pointer (some ⟨pb, 0, none⟩))) (hbp : pb < bx) :
    Calls Try.prog 75 #[.pointer (some ⟨pb, 0, none⟩), .func (.func 82) #[] #[.pointer (some ⟨bx, 0, none⟩)]] w (POut w rb pb v ts s o (st.bind f)) := by
  have G0 := hide (al w (.cells #[.int .i64 0, .string ⟨#[]⟩, .int .i64 0, .slice none 0 0] 51))
  have B0 := hide (blk_new w (.cells #[.int .i64 0, .string ⟨#[]⟩, .int .i64 0, .slice none 0 0] 51))
  have H0 := hide (h.chg G0.out (fun _ _ h => h))
  have hl := h.lt
  have hxl := World.block_lt_of_cell? w _ hbx
  dsimp only at hxl
  have HIN := hide hin
  have HF0 := hide hf0
  obtain ⟨A, hA⟩ : ∃ A, w.heap.size = A := ⟨_, rfl⟩
  have HL : Hid (rb < pb ∧ pb < bx ∧ bx < A ∧ w.heap.size = A) := hide ⟨hl.1, hbp, by omega, hA⟩
  have X0 := hide (G0.out.cell (fun h => h) hbx)
  rw [hA] at B0
  clear h hl hxl hin hA hbx hbp hf0
  cases st with
  | error x =>
    have H0' : Hid (PS (w.alloc (.cells #[.int .i64 0, .string ⟨#[]⟩, .int .i64 0, .slice none 0 0] 51)) rb pb v ts s o (Rz.st (St.bind (.error x : St) f))) := H0
    have RR : Hid (St.bind (.error x : St) f = .error x) := rfl
    go_enter Try.func75, Try.ntmps75
    go_wp2_with fail
    rw [HL.out.2.2.2]
    generalize w.alloc (.cells #[.int .i64 0, .string ⟨#[]⟩, .int .i64 0, .slice none 0 0] 51) = w1 at *
    refine (ok_err H0.out).mono ?_
    rintro e w' ⟨rfl, rfl⟩
    go_wp2_with fail
    refine (ok_err H0.out).mono ?_
    rintro e w' ⟨rfl, rfl⟩
    have G1 : Hid (Chg (Pw rb pb) w w1) := hide G0.out.none
    have b0 := blk_cell B0.out 0
    have b1 := blk_cell B0.out 1
    have b2 := blk_cell B0.out 2
    have b3 := blk_cell B0.out 3
    have f0 := blk_free B0.out 0
    have f1 := blk_free B0.out 1
    have f2 := blk_free B0.out 2
    have f3 := blk_free B0.out 3
    have NS := hide (nv_set B0.out (.int .i64 0) (.string ⟨#[]⟩) (.int .i64 0) (.slice none 0 0))
    have FS := hide (H0'.out.chg NS.out.2 (fun x hx e => by have h1 := HL.out; omega))
    have CS := hide (chg_fresh G1.out NS.out.2 (by have h1 := HL.out; omega))
    go_wp2_with fail
    generalize ((((w1.setCell ⟨A, 0, none⟩ (.int .i64 0)).setCell ⟨A, 1, none⟩ (.string ⟨#[]⟩)).setCell ⟨A, 2, none⟩ (.int .i64 0)).setCell ⟨A, 3, none⟩ (.slice none 0 0)) = wF at *
    have r0 := blk_cell NS.out.1 0
    have r1 := blk_cell NS.out.1 1
    have r2 := blk_cell NS.out.1 2
    have r3 := blk_cell NS.out.1 3
    refine bodyPost_ret (v := .agg #[.int .i64 0, .string ⟨#[]⟩, .int .i64 0, .slice none 0 0]) (by simp [results, Try.results75, go_sem, r0, r1, r2, r3]) rfl ?_
    exact ⟨⟨_, _, rfl, NV.leaf _ _ 0 ⟨#[]⟩ 0, fun q hq => by rw [RR.out] at hq; cases hq⟩, FS.out, CS.out⟩
  | ok k =>
    by_cases h60 : o = 60
    · have e60 : ((o : Int) == 60) = true := by simp; omega
      have RR : Hid (St.bind (.ok k : St) f = .error (2, k)) := hide (HF0.out h60 k)
      clear h60
      go_enter Try.func75, Try.ntmps75
      go_wp2_with fail
      rw [HL.out.2.2.2]
      generalize w.alloc (.cells #[.int .i64 0, .string ⟨#[]⟩, .int .i64 0, .slice none 0 0] 51) = w1 at *
      obtain ⟨c0, c1, _, _, _, _⟩ := H0.out.cells
      refine (ok_ok H0.out).mono ?_
      rintro e w' ⟨rfl, rfl⟩
      go_wp2_with fail
      refine (fail_ok 2 (Or.inl rfl) H0.out).mono ?_
      rintro e w2 ⟨rfl, h2, g2⟩
      have H2 := hide h2
      have H2' : Hid (PS w2 rb pb v ts s o (Rz.st (St.bind (.ok k : St) f))) := hide (by rw [RR.out]; exact h2)
      have B2 := hide (g2.blkS (by have := HL.out; omega) B0.out)
      have G2 := hide (G0.out.none.trans (g2.mono (T := Pw rb pb) (fun x _ h => Or.inl h)))
      clear h2 g2 c0 c1
      go_wp2_with fail
      refine (ok_err H2.out).mono ?_
      rintro e w' ⟨rfl, rfl⟩
      have b0 := blk_cell B2.out 0
      have b1 := blk_cell B2.out 1
      have b2 := blk_cell B2.out 2
      have b3 := blk_cell B2.out 3
      have f0 := blk_free B2.out 0
      have f1 := blk_free B2.out 1
      have f2 := blk_free B2.out 2
      have f3 := blk_free B2.out 3
      have NS := hide (nv_set B2.out (.int .i64 0) (.string ⟨#[]⟩) (.int .i64 0) (.slice none 0 0))
      have FS := hide (H2'.out.chg NS.out.2 (fun x hx e => by have h1 := HL.out; omega))
      have CS := hide (chg_fresh G2.out NS.out.2 (by have h1 := HL.out; omega))
      go_wp2_with fail
      generalize ((((w2.setCell ⟨A, 0, none⟩ (.int .i64 0)).setCell ⟨A, 1, none⟩ (.string ⟨#[]⟩)).setCell ⟨A, 2, none⟩ (.int .i64 0)).setCell ⟨A, 3, none⟩ (.slice none 0 0)) = wF at *
      have r0 := blk_cell NS.out.1 0
      have r1 := blk_cell NS.out.1 1
      have r2 := blk_cell NS.out.1 2
      have r3 := blk_cell NS.out.1 3
      refine bodyPost_ret (v := .agg #[.int .i64 0, .string ⟨#[]⟩, .int .i64 0, .slice none 0 0]) (by simp [results, Try.results75, go_sem, r0, r1, r2, r3]) rfl ?_
      exact ⟨⟨_, _, rfl, NV.leaf _ _ 0 ⟨#[]⟩ 0, fun q hq => by rw [RR.out] at hq; cases hq⟩, FS.out, CS.out⟩
    · have e60 : ((o : Int) == 60) = false := by simp; omega
      have hlt : o < 60 := by omega
      have IN := hide (HIN.out hlt)
      have eo1 : IntKind.i64.wrap ((o : Int) + 1) = (o : Int) + 1 := IntWalk.i64_in _ (by omega)
      have eo2 : IntKind.i64.wrap ((((o + 1 : Nat) : Int)) - 1) = (((o + 1 : Nat) : Int)) - 1 := IntWalk.i64_in _ (by omega)
      have EO := hide eo1
      have EO2 := hide eo2
      clear h60 eo1 eo2 HIN HF0
      go_enter Try.func75, Try.ntmps75
      go_wp2_with fail
      rw [HL.out.2.2.2]
      generalize w.alloc (.cells #[.int .i64 0, .string ⟨#[]⟩, .int .i64 0, .slice none 0 0] 51) = w1 at *
      obtain ⟨c0, c1, _, _, _, _⟩ := H0.out.cells
      refine (ok_ok H0.out).mono ?_
      rintro e w' ⟨rfl, rfl⟩
      go_wp2_with fail
      refine (ok_ok H0.out).mono ?_
      rintro e w' ⟨rfl, rfl⟩
      have f1 := blk_free H0.out.blk 1
      have H1 := hide (H0.out.opened (o' := o + 1) ((o : Int) + 1) (by omega))
      have GS := Chg.set w1 pb 1 (.int .i64 ((o : Int) + 1))
      have B1 := hide (GS.blkS (by have := HL.out; omega) B0.out)
      have G1 := hide (G0.out.none.trans (GS.mono (T := Pw rb pb) (fun x _ h => Or.inl h)))
      have X1 := hide (GS.cell (by have := HL.out; omega) X0.out)
      clear GS
      go_wp2_with fail
      generalize w1.setCell ⟨pb, 1, none⟩ (.int .i64 ((o : Int) + 1)) = w2 at *
      clear c0 c1 f1
      refine (IN.out w2 k H1.out X1.out).mono ?_
      rintro e w3 ⟨⟨u, n, rfl, hn, hq⟩, h3, g3⟩
      obtain ⟨na, nc, rfl, _⟩ := id hn
      have HQ := hide hq
      obtain ⟨n0, n1, n2, n3⟩ := n
      dsimp only [Nd.kind, Nd.word, Nd.at, Nd.kids] at *
      have GT := al w3 (.cells #[.int .i64 n0, .string n1, .int .i64 n2, .slice na n3.len nc] 51)
      have BT := hide (blk_new w3 (.cells #[.int .i64 n0, .string n1, .int .i64 n2, .slice na n3.len nc] 51))
      have H3 := hide (h3.chg GT (fun _ _ h => h))
      have HS3 : Hid (A < w3.heap.size ∧ w2.heap.size ≤ w3.heap.size ∧ A < w2.heap.size) := hide ⟨by have h1 := olt B1.out; have h3 := g3.size; omega, g3.size, olt B1.out⟩
      have N3 := hide ((hn.chg GT (fun _ _ h => h)).up (Y := fun x => w.heap.size ≤ x ∧ x < w3.heap.size ∧ x ≠ A) (fun x hx => ⟨by have h1 := HS3.out; have h2 := HL.out; omega, hx.2, by have h1 := HS3.out; omega⟩))
      have B3 := hide (GT.blk (g3.blkS (by have := HL.out; rintro (e | e) <;> omega) B1.out))
      have G3 := hide ((G1.out.trans g3).trans GT.none)
      obtain ⟨D, hD⟩ : ∃ D, w3.heap.size = D := ⟨_, rfl⟩
      have Z3 := hide (olt BT.out)
      rw [hD] at N3 BT Z3
      have DL : Hid (pb < D ∧ A < D) := hide (by have h1 := HS3.out; have h2 := HL.out; omega)
      clear h3 g3 GT hn hq
      have H4 := hide (H3.out.opened (o' := o) (o : Int) rfl)
      have c1 : (w3.alloc (.cells #[.int .i64 n0, .string n1, .int .i64 n2, .slice na n3.len nc] 51)).cell? ⟨pb, 1, none⟩ = some (.int .i64 ((o : Int) + 1)) := by have := H3.out.cells.2.1; simpa using this
      have f1 := blk_free H3.out.blk 1
      have GS := Chg.set (w3.alloc (.cells #[.int .i64 n0, .string n1, .int .i64 n2, .slice na n3.len nc] 51)) pb 1 (.int .i64 (o : Int))
      have B4 := hide (GS.blkS (by have := HL.out; omega) B3.out)
      have T4 := hide (GS.blkS (by have := DL.out; omega) BT.out)
      have G4 := hide (G3.out.trans (GS.mono (T := Pw rb pb) (fun x _ h => Or.inl h)))
      have N4 := hide (N3.out.chg GS (fun x hx e => by have h1 := hx.1; have h2 := HL.out; omega))
      have Z4 : Hid (D < ((w3.alloc (.cells #[.int .i64 n0, .string n1, .int .i64 n2, .slice na n3.len nc] 51)).setCell ⟨pb, 1, none⟩ (.int .i64 (o : Int))).heap.size ∧ D = w3.heap.size) := hide ⟨olt T4.out, hD.symm⟩
      have q0 := blk_cell T4.out 0
      have q1 := blk_cell T4.out 1
      have q2 := blk_cell T4.out 2
      have q3 := blk_cell T4.out 3
      simp only [List.getElem?_toArray, List.getElem?_cons_zero, List.getElem?_cons_succ] at q0 q1 q2 q3
      clear GS
      have b0 := blk_cell B4.out 0
      have b1 := blk_cell B4.out 1
      have b2 := blk_cell B4.out 2
      have b3 := blk_cell B4.out 3
      have f0 := blk_free B4.out 0
      have f1 := blk_free B4.out 1
      have f2 := blk_free B4.out 2
      have f3 := blk_free B4.out 3
      have NS := hide (nv_set B4.out (.int .i64 n0) (.string n1) (.int .i64 n2) (.slice na n3.len nc))
      have FS := hide (H4.out.chg NS.out.2 (fun x hx e => by have h1 := HL.out; omega))
      have CS := hide (chg_fresh G4.out NS.out.2 (by have h1 := HL.out; omega))
      go_wp2_with fail
      generalize ((((((w3.alloc (.cells #[.int .i64 n0, .string n1, .int .i64 n2, .slice na n3.len nc] 51)).setCell ⟨pb, 1, none⟩ (.int .i64 (o : Int))).setCell ⟨A, 0, none⟩ (.int .i64 n0)).setCell ⟨A, 1, none⟩ (.string n1)).setCell ⟨A, 2, none⟩ (.int .i64 n2)).setCell ⟨A, 3, none⟩ (.slice na n3.len nc)) = wF at *
      have r0 := blk_cell NS.out.1 0
      have r1 := blk_cell NS.out.1 1
      have r2 := blk_cell NS.out.1 2
      have r3 := blk_cell NS.out.1 3
      refine bodyPost_ret (v := .agg #[.int .i64 n0, .string n1, .int .i64 n2, .slice na n3.len nc]) (by simp [results, Try.results75, go_sem, r0, r1, r2, r3]) rfl ?_
      have N7 := N4.out.chg NS.out.2 (fun x hx e => hx.2.2 e)
      exact ⟨⟨_, _, rfl, N7.up (fun x hx => ⟨hx.1, by have h1 := NS.out.2.size; have h2 := Z4.out; omega⟩), HQ.out⟩, FS.out, CS.out⟩

set_option maxRecDepth 100000 in
set_option maxHeartbeats 8000000 in
theorem opened_term {rb pb bx : Nat} {v : Value} {ts : List Tok} {s : ByteArray} {o : Nat} (ho : o ≤ 60) (f : Nat → Rz Nd) (hf0 : o = 60 → ∀ k, f k = .error (2, k))
    (hin : o < 60 → ∀ w k, PS w rb pb v ts s (o + 1) (.ok k) → w.cell? ⟨bx, 0, none⟩ = some (.pointer (some ⟨pb, 0, none⟩)) → Calls Try.prog 76 #[.pointer (some ⟨bx, 0, none⟩)] w (POut w rb pb v ts s (o + 1) (f k)))
    {st : St} {w : World} (h : PS w rb pb v ts s o st) (hbx : w.cell? ⟨bx, 0, none⟩ = some (.pointer (some ⟨pb, 0, none⟩))) (hbp : pb < bx) :
    Calls Try.prog 75 #[.pointer (some ⟨pb, 0, none⟩), .func (.func 76) #[] #[.pointer (some ⟨bx, 0, none⟩)]] w (POut w rb pb v ts s o (st.bind f)) := by
  have G0 := hide (al w (.cells #[.int .i64 0, .string ⟨#[]⟩, .int .i64 0, .slice none 0 0] 51))
  have B0 := hide (blk_new w (.cells #[.int .i64 0, .string ⟨#[]⟩, .int .i64 0, .slice none 0 0] 51))
  have H0 := hide (h.chg G0.out (fun _ _ h => h))
  have hl := h.lt
  have hxl := World.block_lt_of_cell? w _ hbx
  dsimp only at hxl
  have HIN := hide hin
  have HF0 := hide hf0
  obtain ⟨A, hA⟩ : ∃ A, w.heap.size = A := ⟨_, rfl⟩
  have HL : Hid (rb < pb ∧ pb < bx ∧ bx < A ∧ w.heap.size = A) := hide ⟨hl.1, hbp, by omega, hA⟩
  have X0 := hide (G0.out.cell (fun h => h) hbx)
  rw [hA] at B0
  clear h hl hxl hin hA hbx hbp hf0
  cases st with
  | error x =>
    have H0' : Hid (PS (w.alloc (.cells #[.int .i64 0, .string ⟨#[]⟩, .int .i64 0, .slice none 0 0] 51)) rb pb v ts s o (Rz.st (St.bind (.error x : St) f))) := H0
    have RR : Hid (St.bind (.error x : St) f = .error x) := rfl
    go_enter Try.func75, Try.ntmps75
    go_wp2_with fail
    rw [HL.out.2.2.2]
    generalize w.alloc (.cells #[.int .i64 0, .string ⟨#[]⟩, .int .i64 0, .slice none 0 0] 51) = w1 at *
    refine (ok_err H0.out).mono ?_
    rintro e w' ⟨rfl, rfl⟩
    go_wp2_with fail
    refine (ok_err H0.out).mono ?_
    rintro e w' ⟨rfl, rfl⟩
    have G1 : Hid (Chg (Pw rb pb) w w1) := hide G0.out.none
    have b0 := blk_cell B0.out 0
    have b1 := blk_cell B0.out 1
    have b2 := blk_cell B0.out 2
    have b3 := blk_cell B0.out 3
    have f0 := blk_free B0.out 0
    have f1 := blk_free B0.out 1
    have f2 := blk_free B0.out 2
    have f3 := blk_free B0.out 3
    have NS := hide (nv_set B0.out (.int .i64 0) (.string ⟨#[]⟩) (.int .i64 0) (.slice none 0 0))
    have FS := hide (H0'.out.chg NS.out.2 (fun x hx e => by have h1 := HL.out; omega))
    have CS := hide (chg_fresh G1.out NS.out.2 (by have h1 := HL.out; omega))
    go_wp2_with fail
    generalize ((((w1.setCell ⟨A, 0, none⟩ (.int .i64 0)).setCell ⟨A, 1, none⟩ (.string ⟨#[]⟩)).setCell ⟨A, 2, none⟩ (.int .i64 0)).setCell ⟨A, 3, none⟩ (.slice none 0 0)) = wF at *
    have r0 := blk_cell NS.out.1 0
    have r1 := blk_cell NS.out.1 1
    have r2 := blk_cell NS.out.1 2
    have r3 := blk_cell NS.out.1 3
    refine bodyPost_ret (v := .agg #[.int .i64 0, .string ⟨#[]⟩, .int .i64 0, .slice none 0 0]) (by simp [results, Try.results75, go_sem, r0, r1, r2, r3]) rfl ?_
    exact ⟨⟨_, _, rfl, NV.leaf _ _ 0 ⟨#[]⟩ 0, fun q hq => by rw [RR.out] at hq; cases hq⟩, FS.out, CS.out⟩
  | ok k =>
    by_cases h60 : o = 60
    · have e60 : ((o : Int) == 60) = true := by simp; omega
      have RR : Hid (St.bind (.ok k : St) f = .error (2, k)) := hide (HF0.out h60 k)
      clear h60
      go_enter Try.func75, Try.ntmps75
      go_wp2_with fail
      rw [HL.out.2.2.2]
      generalize w.alloc (.cells #[.int .i64 0, .string ⟨#[]⟩, .int .i64 0, .slice none 0 0] 51) = w1 at *
      obtain ⟨c0, c1, _, _, _, _⟩ := H0.out.cells
      refine (ok_ok H0.out).mono ?_
      rintro e w' ⟨rfl, rfl⟩
      go_wp2_with fail
      refine (fail_ok 2 (Or.inl rfl) H0.out).mono ?_
      rintro e w2 ⟨rfl, h2, g2⟩
      have H2 := hide h2
      have H2' : Hid (PS w2 rb pb v ts s o (Rz.st (St.bind (.ok k : St) f))) := hide (by rw [RR.out]; exact h2)
      have B2 := hide (g2.blkS (by have := HL.out; omega) B0.out)
      have G2 := hide (G0.out.none.trans (g2.mono (T := Pw rb pb) (fun x _ h => Or.inl h)))
      clear h2 g2 c0 c1
      go_wp2_with fail
      refine (ok_err H2.out).mono ?_
      rintro e w' ⟨rfl, rfl⟩
      have b0 := blk_cell B2.out 0
      have b1 := blk_cell B2.out 1
      have b2 := blk_cell B2.out 2
      have b3 := blk_cell B2.out 3
      have f0 := blk_free B2.out 0
      have f1 := blk_free B2.out 1
      have f2 := blk_free B2.out 2
      have f3 := blk_free B2.out 3
      have NS := hide (nv_set B2.out (.int .i64 0) (.string ⟨#[]⟩) (.int .i64 0) (.slice none 0 0))
      have FS := hide (H2'.out.chg NS.out.2 (fun x hx e => by have h1 := HL.out; omega))
      have CS := hide (chg_fresh G2.out NS.out.2 (by have h1 := HL.out; omega))
      go_wp2_with fail
      generalize ((((w2.setCell ⟨A, 0, none⟩ (.int .i64 0)).setCell ⟨A, 1, none⟩ (.string ⟨#[]⟩)).setCell ⟨A, 2, none⟩ (.int .i64 0)).setCell ⟨A, 3, none⟩ (.slice none 0 0)) = wF at *
      have r0 := blk_cell NS.out.1 0
      have r1 := blk_cell NS.out.1 1
      have r2 := blk_cell NS.out.1 2
      have r3 := blk_cell NS.out.1 3
      refine bodyPost_ret (v := .agg #[.int .i64 0, .string ⟨#[]⟩, .int .i64 0, .slice none 0 0]) (by simp [results, Try.results75, go_sem, r0, r1, r2, r3]) rfl ?_
      exact ⟨⟨_, _, rfl, NV.leaf _ _ 0 ⟨#[]⟩ 0, fun q hq => by rw [RR.out] at hq; cases hq⟩, FS.out, CS.out⟩
    · have e60 : ((o : Int) == 60) = false := by simp; omega
      have hlt : o < 60 := by omega
      have IN := hide (HIN.out hlt)
      have eo1 : IntKind.i64.wrap ((o : Int) + 1) = (o : Int) + 1 := IntWalk.i64_in _ (by omega)
      have eo2 : IntKind.i64.wrap ((((o + 1 : Nat) : Int)) - 1) = (((o + 1 : Nat) : Int)) - 1 := IntWalk.i64_in _ (by omega)
      have EO := hide eo1
      have EO2 := hide eo2
      clear h60 eo1 eo2 HIN HF0
      go_enter Try.func75, Try.ntmps75
      go_wp2_with fail
      rw [HL.out.2.2.2]
      generalize w.alloc (.cells #[.int .i64 0, .string ⟨#[]⟩, .int .i64 0, .slice none 0 0] 51) = w1 at *
      obtain ⟨c0, c1, _, _, _, _⟩ := H0.out.cells
      refine (ok_ok H0.out).mono ?_
      rintro e w' ⟨rfl, rfl⟩
      go_wp2_with fail
      refine (ok_ok H0.out).mono ?_
      rintro e w' ⟨rfl, rfl⟩
      have f1 := blk_free H0.out.blk 1
      have H1 := hide (H0.out.opened (o' := o + 1) ((o : Int) + 1) (by omega))
      have GS := Chg.set w1 pb 1 (.int .i64 ((o : Int) + 1))
      have B1 := hide (GS.blkS (by have := HL.out; omega) B0.out)
      have G1 := hide (G0.out.none.trans (GS.mono (T := Pw rb pb) (fun x _ h => Or.inl h)))
      have X1 := hide (GS.cell (by have := HL.out; omega) X0.out)
      clear GS
      go_wp2_with fail
      generalize w1.setCell ⟨pb, 1, none⟩ (.int .i64 ((o : Int) + 1)) = w2 at *
      clear c0 c1 f1
      refine (IN.out w2 k H1.out X1.out).mono ?_
      rintro e w3 ⟨⟨u, n, rfl, hn, hq⟩, h3, g3⟩
      obtain ⟨na, nc, rfl, _⟩ := id hn
      have HQ := hide hq
      obtain ⟨n0, n1, n2, n3⟩ := n
      dsimp only [Nd.kind, Nd.word, Nd.at, Nd.kids] at *
      have GT := al w3 (.cells #[.int .i64 n0, .string n1, .int .i64 n2, .slice na n3.len nc] 51)
      have BT := hide (blk_new w3 (.cells #[.int .i64 n0, .string n1, .int .i64 n2, .slice na n3.len nc] 51))
      have H3 := hide (h3.chg GT (fun _ _ h => h))
      have HS3 : Hid (A < w3.heap.size ∧ w2.heap.size ≤ w3.heap.size ∧ A < w2.heap.size) := hide ⟨by have h1 := olt B1.out; have h3 := g3.size; omega, g3.size, olt B1.out⟩
      have N3 := hide ((hn.chg GT (fun _ _ h => h)).up (Y := fun x => w.heap.size ≤ x ∧ x < w3.heap.size ∧ x ≠ A) (fun x hx => ⟨by have h1 := HS3.out; have h2 := HL.out; omega, hx.2, by have h1 := HS3.out; omega⟩))
      have B3 := hide (GT.blk (g3.blkS (by have := HL.out; rintro (e | e) <;> omega) B1.out))
      have G3 := hide ((G1.out.trans g3).trans GT.none)
      obtain ⟨D, hD⟩ : ∃ D, w3.heap.size = D := ⟨_, rfl⟩
      have Z3 := hide (olt BT.out)
      rw [hD] at N3 BT Z3
      have DL : Hid (pb < D ∧ A < D) := hide (by have h1 := HS3.out; have h2 := HL.out; omega)
      clear h3 g3 GT hn hq
      have H4 := hide (H3.out.opened (o' := o) (o : Int) rfl)
      have c1 : (w3.alloc (.cells #[.int .i64 n0, .string n1, .int .i64 n2, .slice na n3.len nc] 51)).cell? ⟨pb, 1, none⟩ = some (.int .i64 ((o : Int) + 1)) := by have := H3.out.cells.2.1; simpa using this
      have f1 := blk_free H3.out.blk 1
      have GS := Chg.set (w3.alloc (.cells #[.int .i64 n0, .string n1, .int .i64 n2, .slice na n3.len nc] 51)) pb 1 (.int .i64 (o : Int))
      have B4 := hide (GS.blkS (by have := HL.out; omega) B3.out)
      have T4 := hide (GS.blkS (by have := DL.out; omega) BT.out)
      have G4 := hide (G3.out.trans (GS.mono (T := Pw rb pb) (fun x _ h => Or.inl h)))
      have N4 := hide (N3.out.chg GS (fun x hx e => by have h1 := hx.1; have h2 := HL.out; omega))
      have Z4 : Hid (D < ((w3.alloc (.cells #[.int .i64 n0, .string n1, .int .i64 n2, .slice na n3.len nc] 51)).setCell ⟨pb, 1, none⟩ (.int .i64 (o : Int))).heap.size ∧ D = w3.heap.size) := hide ⟨olt T4.out, hD.symm⟩
      have q0 := blk_cell T4.out 0
      have q1 := blk_cell T4.out 1
      have q2 := blk_cell T4.out 2
      have q3 := blk_cell T4.out 3
      simp only [List.getElem?_toArray, List.getElem?_cons_zero, List.getElem?_cons_succ] at q0 q1 q2 q3
      clear GS
      have b0 := blk_cell B4.out 0
      have b1 := blk_cell B4.out 1
      have b2 := blk_cell B4.out 2
      have b3 := blk_cell B4.out 3
      have f0 := blk_free B4.out 0
      have f1 := blk_free B4.out 1
      have f2 := blk_free B4.out 2
      have f3 := blk_free B4.out 3
      have NS := hide (nv_set B4.out (.int .i64 n0) (.string n1) (.int .i64 n2) (.slice na n3.len nc))
      have FS := hide (H4.out.chg NS.out.2 (fun x hx e => by have h1 := HL.out; omega))
      have CS := hide (chg_fresh G4.out NS.out.2 (by have h1 := HL.out; omega))
      go_wp2_with fail
      generalize ((((((w3.alloc (.cells #[.int .i64 n0, .string n1, .int .i64 n2, .slice na n3.len nc] 51)).setCell ⟨pb, 1, none⟩ (.int .i64 (o : Int))).setCell ⟨A, 0, none⟩ (.int .i64 n0)).setCell ⟨A, 1, none⟩ (.string n1)).setCell ⟨A, 2, none⟩ (.int .i64 n2)).setCell ⟨A, 3, none⟩ (.slice na n3.len nc)) = wF at *
      have r0 := blk_cell NS.out.1 0
      have r1 := blk_cell NS.out.1 1
      have r2 := blk_cell NS.out.1 2
      have r3 := blk_cell NS.out.1 3
      refine bodyPost_ret (v := .agg #[.int .i64 n0, .string n1, .int .i64 n2, .slice na n3.len nc]) (by simp [results, Try.results75, go_sem, r0, r1, r2, r3]) rfl ?_
      have N7 := N4.out.chg NS.out.2 (fun x hx e => hx.2.2 e)
      exact ⟨⟨_, _, rfl, N7.up (fun x hx => ⟨hx.1, by have h1 := NS.out.2.size; have h2 := Z4.out; omega⟩), HQ.out⟩, FS.out, CS.out⟩

set_option maxRecDepth 100000 in
set_option maxHeartbeats 8000000 in
theorem typ_step {rb pb : Nat} {v : Value} {ts : List Tok} {s : ByteArray} {o : Nat} (f : Nat → Rz Nd)
    (hop : ∀ w bx st, PS w rb pb v ts s o st → w.cell? ⟨bx, 0, none⟩ = some (.pointer (some ⟨pb, 0, none⟩)) → pb < bx → Calls Try.prog 75 #[.pointer (some ⟨pb, 0, none⟩), .func (.func 82) #[] #[.pointer (some ⟨bx, 0, none⟩)]] w (POut w rb pb v ts s o (st.bind f)))
    {st : St} {w : World} (h : PS w rb pb v ts s o st) :
    Calls Try.prog 43 #[.pointer (some ⟨pb, 0, none⟩)] w (POut w rb pb v ts s o (st.bind f)) := by
  have GB := al w (.cells #[.pointer (some ⟨pb, 0, none⟩)] 73)
  have BB := blk_new w (.cells #[.pointer (some ⟨pb, 0, none⟩)] 73)
  have GA := al (w.alloc (.cells #[.pointer (some ⟨pb, 0, none⟩)] 73)) (.cells #[.int .i64 0, .string ⟨#[]⟩, .int .i64 0, .slice none 0 0] 51)
  have BA := blk_new (w.alloc (.cells #[.pointer (some ⟨pb, 0, none⟩)] 73)) (.cells #[.int .i64 0, .string ⟨#[]⟩, .int .i64 0, .slice none 0 0] 51)
  rw [al_sz] at BA
  have G0 := hide (GB.trans GA)
  have B0 := hide BA
  have x0 := blk_cell (GA.blk BB) 0
  simp only [List.getElem?_toArray, List.getElem?_cons_zero] at x0
  have H0 := hide (h.chg G0.out (fun _ _ h => h))
  have hl := h.lt
  have HOP := hide (hop _ w.heap.size st H0.out x0 hl.2)
  obtain ⟨A, hA⟩ : ∃ A, w.heap.size + 1 = A := ⟨_, rfl⟩
  have HL : Hid (rb < pb ∧ pb < A ∧ w.heap.size + 1 = A) := hide ⟨hl.1, by omega, hA⟩
  rw [hA] at B0
  clear h hl hA GB BB GA BA hop
  generalize st.bind f = R at *
  go_enter Try.func43, Try.ntmps43
  go_wp2_with fail
  rw [HL.out.2.2]
  generalize (w.alloc (.cells #[.pointer (some ⟨pb, 0, none⟩)] 73)).alloc (.cells #[.int .i64 0, .string ⟨#[]⟩, .int .i64 0, .slice none 0 0] 51) = w1 at *
  refine HOP.out.mono ?_
  rintro e w2 ⟨⟨u, n, rfl, hn, hq⟩, h2, g2⟩
  obtain ⟨na, nc, rfl, _⟩ := id hn
  have HQ := hide hq
  obtain ⟨n0, n1, n2, n3⟩ := n
  dsimp only [Nd.kind, Nd.word, Nd.at, Nd.kids] at *
  have H2 := hide h2
  have HA1 : Hid (A < w1.heap.size) := hide (olt B0.out)
  have N2 := hide (hn.up (Y := fun x => w.heap.size ≤ x ∧ x < w2.heap.size ∧ x ≠ A) (fun x hx => ⟨by have h1 := HA1.out; have h2 := HL.out; omega, hx.2, by have h1 := HA1.out; omega⟩))
  have B2 := hide (g2.blkS (by have := HL.out; rintro (e | e) <;> omega) B0.out)
  have G2 := hide (G0.out.none.trans g2)
  clear h2 g2 hn hq HOP
  have b0 := blk_cell B2.out 0
  have b1 := blk_cell B2.out 1
  have b2 := blk_cell B2.out 2
  have b3 := blk_cell B2.out 3
  have f0 := blk_free B2.out 0
  have f1 := blk_free B2.out 1
  have f2 := blk_free B2.out 2
  have f3 := blk_free B2.out 3
  have NS := hide (nv_set B2.out (.int .i64 n0) (.string n1) (.int .i64 n2) (.slice na n3.len nc))
  have FS := hide (H2.out.chg NS.out.2 (fun x hx e => by have h1 := HL.out; omega))
  have CS := hide (chg_fresh G2.out NS.out.2 (by have h1 := HL.out; omega))
  go_wp2_with fail
  generalize ((((w2.setCell ⟨A, 0, none⟩ (.int .i64 n0)).setCell ⟨A, 1, none⟩ (.string n1)).setCell ⟨A, 2, none⟩ (.int .i64 n2)).setCell ⟨A, 3, none⟩ (.slice na n3.len nc)) = wF at *
  have r0 := blk_cell NS.out.1 0
  have r1 := blk_cell NS.out.1 1
  have r2 := blk_cell NS.out.1 2
  have r3 := blk_cell NS.out.1 3
  refine bodyPost_ret (v := .agg #[.int .i64 n0, .string n1, .int .i64 n2, .slice na n3.len nc]) (by simp [results, Try.results43, go_sem, r0, r1, r2, r3]) rfl ?_
  have N7 := N2.out.chg NS.out.2 (fun x hx e => hx.2.2 e)
  exact ⟨⟨_, _, rfl, N7.up (fun x hx => ⟨hx.1, by have h1 := NS.out.2.size; omega⟩), HQ.out⟩, FS.out, CS.out⟩

set_option maxRecDepth 100000 in
set_option maxHeartbeats 8000000 in
theorem term_step {rb pb : Nat} {v : Value} {ts : List Tok} {s : ByteArray} {o : Nat} (f : Nat → Rz Nd)
    (hop : ∀ w bx st, PS w rb pb v ts s o st → w.cell? ⟨bx, 0, none⟩ = some (.pointer (some ⟨pb, 0, none⟩)) → pb < bx → Calls Try.prog 75 #[.pointer (some ⟨pb, 0, none⟩), .func (.func 76) #[] #[.pointer (some ⟨bx, 0, none⟩)]] w (POut w rb pb v ts s o (st.bind f)))
    {st : St} {w : World} (h : PS w rb pb v ts s o st) :
    Calls Try.prog 40 #[.pointer (some ⟨pb, 0, none⟩)] w (POut w rb pb v ts s o (st.bind f)) := by
  have GB := al w (.cells #[.pointer (some ⟨pb, 0, none⟩)] 73)
  have BB := blk_new w (.cells #[.pointer (some ⟨pb, 0, none⟩)] 73)
  have GA := al (w.alloc (.cells #[.pointer (some ⟨pb, 0, none⟩)] 73)) (.cells #[.int .i64 0, .string ⟨#[]⟩, .int .i64 0, .slice none 0 0] 51)
  have BA := blk_new (w.alloc (.cells #[.pointer (some ⟨pb, 0, none⟩)] 73)) (.cells #[.int .i64 0, .string ⟨#[]⟩, .int .i64 0, .slice none 0 0] 51)
  rw [al_sz] at BA
  have G0 := hide (GB.trans GA)
  have B0 := hide BA
  have x0 := blk_cell (GA.blk BB) 0
  simp only [List.getElem?_toArray, List.getElem?_cons_zero] at x0
  have H0 := hide (h.chg G0.out (fun _ _ h => h))
  have hl := h.lt
  have HOP := hide (hop _ w.heap.size st H0.out x0 hl.2)
  obtain ⟨A, hA⟩ : ∃ A, w.heap.size + 1 = A := ⟨_, rfl⟩
  have HL : Hid (rb < pb ∧ pb < A ∧ w.heap.size + 1 = A) := hide ⟨hl.1, by omega, hA⟩
  rw [hA] at B0
  clear h hl hA GB BB GA BA hop
  generalize st.bind f = R at *
  go_enter Try.func40, Try.ntmps40
  go_wp2_with fail
  rw [HL.out.2.2]
  generalize (w.alloc (.cells #[.pointer (some ⟨pb, 0, none⟩)] 73)).alloc (.cells #[.int .i64 0, .string ⟨#[]⟩, .int .i64 0, .slice none 0 0] 51) = w1 at *
  refine HOP.out.mono ?_
  rintro e w2 ⟨⟨u, n, rfl, hn, hq⟩, h2, g2⟩
  obtain ⟨na, nc, rfl, _⟩ := id hn
  have HQ := hide hq
  obtain ⟨n0, n1, n2, n3⟩ := n
  dsimp only [Nd.kind, Nd.word, Nd.at, Nd.kids] at *
  have H2 := hide h2
  have HA1 : Hid (A < w1.heap.size) := hide (olt B0.out)
  have N2 := hide (hn.up (Y := fun x => w.heap.size ≤ x ∧ x < w2.heap.size ∧ x ≠ A) (fun x hx => ⟨by have h1 := HA1.out; have h2 := HL.out; omega, hx.2, by have h1 := HA1.out; omega⟩))
  have B2 := hide (g2.blkS (by have := HL.out; rintro (e | e) <;> omega) B0.out)
  have G2 := hide (G0.out.none.trans g2)
  clear h2 g2 hn hq HOP
  have b0 := blk_cell B2.out 0
  have b1 := blk_cell B2.out 1
  have b2 := blk_cell B2.out 2
  have b3 := blk_cell B2.out 3
  have f0 := blk_free B2.out 0
  have f1 := blk_free B2.out 1
  have f2 := blk_free B2.out 2
  have f3 := blk_free B2.out 3
  have NS := hide (nv_set B2.out (.int .i64 n0) (.string n1) (.int .i64 n2) (.slice na n3.len nc))
  have FS := hide (H2.out.chg NS.out.2 (fun x hx e => by have h1 := HL.out; omega))
  have CS := hide (chg_fresh G2.out NS.out.2 (by have h1 := HL.out; omega))
  go_wp2_with fail
  generalize ((((w2.setCell ⟨A, 0, none⟩ (.int .i64 n0)).setCell ⟨A, 1, none⟩ (.string n1)).setCell ⟨A, 2, none⟩ (.int .i64 n2)).setCell ⟨A, 3, none⟩ (.slice na n3.len nc)) = wF at *
  have r0 := blk_cell NS.out.1 0
  have r1 := blk_cell NS.out.1 1
  have r2 := blk_cell NS.out.1 2
  have r3 := blk_cell NS.out.1 3
  refine bodyPost_ret (v := .agg #[.int .i64 n0, .string n1, .int .i64 n2, .slice na n3.len nc]) (by simp [results, Try.results40, go_sem, r0, r1, r2, r3]) rfl ?_
  have N7 := N2.out.chg NS.out.2 (fun x hx e => hx.2.2 e)
  exact ⟨⟨_, _, rfl, N7.up (fun x hx => ⟨hx.1, by have h1 := NS.out.2.size; omega⟩), HQ.out⟩, FS.out, CS.out⟩

theorem typ_any {rb pb : Nat} {v : Value} {ts : List Tok} {s : ByteArray} : ∀ (n o : Nat), o + n = 60 → ∀ (st : St) (w : World), PS w rb pb v ts s o st →
    Calls Try.prog 43 #[.pointer (some ⟨pb, 0, none⟩)] w (POut w rb pb v ts s o (st.bind (typS ts s n)))
  | 0, o, ho, st, w, h => typ_step (typS ts s 0) (fun w bx st h hb hp => opened_typ (by omega) (typS ts s 0) (fun _ k => rfl) (fun hlt => absurd hlt (by omega)) h hb hp) h
  | n + 1, o, ho, st, w, h => typ_step (typS ts s (n + 1)) (fun w bx st h hb hp => opened_typ (by omega) (typS ts s (n + 1)) (fun e => absurd e (by omega))
      (fun hlt w k h hb => typ1_any (typS ts s n) (fun w k h => typ_any n (o + 1) (by omega) (.ok k) w h) h hb hp) h hb hp) h
end Go.Proofs.Ytboeeaekhijboaa
